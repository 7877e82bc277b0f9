/- Texts laid one behind the other: GwE, GwF, GwG. -/
import Derived.Test.YtpeidlcjlfkpcaaGreatDoorB28
set_option linter.all false
set_option maxHeartbeats 16000000
namespace Go.Ab
open Go.Proofs
variable [Base]
theorem EK (s:Spn){n:Nat}(h:s.le n) (hn:n≤10000):Pu Tryz.prog 143 [ag (spx s)] (rq (dp s)):=by
 obtain⟨lo,hi,nl,nh⟩:=s;obtain⟨h1,h2⟩:=h;simp only at h1 h2;have:=lU;have c1:=mh hi 1 om om;have c2:=jc lo 1 om om;have c3:=Gx lo hi om om;unfold dp;cases nl <;> cases nh;rotate_left 3
 ·simp only [jE,aV];refine Pi Tryz.func143 fun C=>?_
  refine D4 ur c1 c2 c3 ⟨?_⟩;intros;((first|refine cV ?_|refine jK ?_);refine bJ RVa ?_)
  exact Le.ag ⟨Le.refl _,wP,wQ,trivial⟩
 all_goals
  simp only [bo,aS,aX,aZ,jE,bE,aV,aO];refine Pi Tryz.func143 fun C=>?_
  refine D4 ur c1 c2 c3 ⟨?_⟩;intros;exact G1
theorem rD {l m:Li}{s:Spn}(hl:l.sm) (hm:m.sm) (h:s.le 46):(jL l m s).le 46:=by
 have h1:=rx hl hm;have h2:=qv hl h1;obtain⟨h3,h4⟩:=h;unfold jL;split
 ·split
  ·exact⟨by simp only;omega,h4⟩
  ·exact⟨h3,h4⟩
 ·split
  ·exact⟨h3,by simp only;omega⟩
  ·exact⟨h3,h4⟩
theorem su {l:Li}(hl:l.sm) (i:Nat):∀(c:List Li) (k:Nat) (s:Spn),(∀m∈c,m.sm)→s.le 46→(jX l i k c s).1.le 46
 | [],_,_,_,h=>h
 |m::c,k,s,hc,h=>by
  have hm:=hc m Ms;have hr:∀m∈c,m.sm:=fun x hx=>hc x (Mc hx)
  unfold jX;split
  ·exact su hl i c _ _ hr h
  ·split
   ·split
    ·exact su hl i c _ _ hr h
    ·exact h
   ·split
    ·exact rD hl hm h
    ·exact su hl i c _ _ hr (rD hl hm h)
theorem AM:Spn.full.le 46:=⟨by have:=kv;show ht 0≤46;omega,by have:=kv;show ht 0≤46;omega⟩
theorem E7 {c:List Li}{i:Nat}{l:Li}(hc:∀m∈c,m.sm) (hi:c[i]? = some l):(eU c i).1.le 46:=by
 unfold eU;rw [List.getD,hi];exact su (hc l (bn hi)) i c 0 _ hc AM
abbrev Se:List SV:=[lit (.bool false),lit (.slice none 0 0),lit (.slice none 0 0),lit (.bool false),lit (.slice none 0 0),lit (.slice none 0 0),lit (.bool false),lit (.bool false)]
theorem CY {c:List Li}{i:Nat}{l:Li}(hc:∀m∈c,m.sm) (hn:c.length≤100000) (hi:c[i]? = some l):Pu Tryz.prog 139 [lqs c,lit (.int .i64 i)] (Ab.tup [ag (spx (eU c i).1),lit (.bool (eU c i).2)]):=by
 have hl:=hc l (bn hi);have hil:=(bI.1 hi).1;have hat0:=fV (f:=lqx) (n:=6) kt hi;have hne0:(c.map lqx).flatten≠[]:=gA kt om (fun e=>by rw [e]at hil;simp at hil);have hR:eU c i=jX l i 0 c Spn.full:=by unfold eU;rw [List.getD,hi];rfl
 generalize eU c i=R at *;refine Pi Tryz.func139 fun C=>?_
 refine A2 ⟨?_⟩;intros;rename_i b4;refine Wo (ae (cs':=lqx l) rfl rfl om om hat0 hne0) ?_;refine D1 CV ⟨?_⟩;intros;rename_i b6 b7
 refine WP.loopS (ι:=Nat×Spn) (fun y=>y.1≤c.length∧y.2.le 46∧jX l i y.1 (c.drop y.1) y.2=R) (fun y=>c.length-y.1)
  (fun y=>fm [(1,lit (.int .i64 i)),(4,lit (.pointer (some ⟨b4,0,none⟩))),(6,lit (.pointer (some ⟨b6,0,none⟩))),(7,lit (.pointer (some ⟨b7,0,none⟩))),(18,lqs c),(19,lit (.int .i64 c.length)),(20,lit (.int .i64 y.1))])
  (fun y=>[(b7,237,spx y.2),(b6,83,lqx l),(b4,237,Se)]) (0,Spn.full) ⟨an _,AM,by rw [bD];exact hR.symm⟩ lfA Sr ?_
 rintro ⟨k,s⟩ ⟨hk,hs,hgo⟩ K hK;simp only at hk hs hgo⊢;by_cases hkl:k<c.length
 ·obtain⟨m,hget,hmm,hat,hne⟩:=elt kt om hkl;have hm:=hc m hmm;rw [kw hget]at hgo;have hnext:=fun s' (h1:s'.le 46) (h2:jX l i (k+1) (c.drop (k+1)) s'=R) F' H'=>hK F' H' (k+1,s') ⟨by simp only;omega,h1,h2⟩ (by simp only;omega)
  unfold jX at hgo;have d1:=yd (l:=l) (m:=m) hl.ile hm.ile;have d2:=CP hl hm;have hsl:=rD hl hm hs;have hmt:=rx hl hm;have hpt:=qv hl hmt;clear hK hc hi hat0 hne0 hget hmm;by_cases h1:k=i
  ·subst h1;rw [if_pos (.inl rfl)]at hgo;replace hnext:=hnext s hs hgo;clear hgo hsl hmt hpt d2;refine A2 ⟨?_⟩;intros;refine Wo (ae (cs':=lqx m) rfl rfl om om hat hne) ?_;refine D1 d1 ⟨?_⟩;intros;exact hnext _ _ lfA Sq
  by_cases h2:rF l m=0
  ·rw [if_pos (.inr h2)]at hgo;replace hnext:=hnext s hs hgo;rw [h2]at d1;clear hgo hsl hmt hpt d2;refine A2 ⟨?_⟩;intros;refine Wo (ae (cs':=lqx m) rfl rfl om om hat hne) ?_;refine D1 d1 ⟨?_⟩;intros;exact hnext _ _ lfA Sq
  rw [if_neg (fun h=>h.elim h1 h2)]at hgo;generalize rF l m=z0 at *;by_cases h3:gW l m=0
  ·rw [if_pos h3]at hgo;unfold yz at d2;rw [if_pos h3]at d2;obtain⟨q1,q2⟩:=vk hl;have d3:=ye hl.1 hl.2;have d4:=uo (l:=m) (p:=bX l) hm ⟨om,om⟩;simp only [sQ,nu]at d2;clear hsl hmt hpt q1 q2;have e4:ag (rpx (bX l))=rp (l.bf*l.a) (l.bf*l.b):=rfl;rw [e4]at d4;clear e4;generalize gR m (bX l)=z1 at *;by_cases h4:0<z1
   ·rw [if_pos h4]at hgo;replace hnext:=hnext s hs hgo;clear hgo;refine A2 ⟨?_⟩;intros;refine Wo (ae (cs':=lqx m) rfl rfl om om hat hne) ?_;refine D4 d1 d2 d3 d4 ⟨?_⟩;intros;exact hnext _ _ lfA Sq
   ·rw [if_neg h4]at hgo;subst hgo;clear hnext;refine A2 ⟨?_⟩;intros;refine Wo (ae (cs':=lqx m) rfl rfl om om hat hne) ?_;refine D4 d1 d2 d3 d4 ⟨?_⟩;intros;exact G3
  rw [if_neg h3]at hgo;unfold yz at d2;rw [if_neg h3]at d2;simp only [kW,ny]at d2;have d3:=s7 (l:=l) (p:=dY l m) hl ⟨by have:=hmt.1;omega,by have:=hmt.2;omega⟩;have d4:=oz m hm.ile;have d5:=oz l hl.ile;obtain⟨x1,x2⟩:=ic hm;obtain⟨y1,y2⟩:=ic hl;have d6:=sa (cM m).1 (cM m).2 (cM l).1 (cM l).2 om om om om;have hx:=sB (ic hm) (ic hl);have d7:=ri (gi (cM m) (cM l)) om;rw [show(cM m).1*(cM l).2-(cM m).2*(cM l).1=gi (cM m) (cM l)from rfl]at d6;obtain⟨hs1,hs2⟩:=hs;have d8:=oA (fp l (dY l m)) s.lo om om;have d9:=oA (fp l (dY l m)) s.hi om om;have hbad:∀u:Spn,j9 u=(!u.nl && !u.nh&&decide (0≤(u.lo-u.hi).num.sign)):=fun _=>rfl
  have hst:(if 0<(gi (cM m) (cM l)).num.sign then(if s.nl=true∨0<(fp l (dY l m)-s.lo).num.sign then⟨fp l (dY l m),s.hi,false,s.nh⟩else s)
   else if s.nh=true∨(fp l (dY l m)-s.hi).num.sign<0 then⟨s.lo,fp l (dY l m),s.nl,false⟩else s)=jL l m s:=rfl
  generalize jL l m s=S at *;obtain⟨hS1,hS2⟩:=hsl;have e1:=oA S.lo S.hi om om;generalize dY l m=mp at *;generalize fp l mp=t at *;generalize(gi (cM m) (cM l)).num.sign=zc at *;generalize gi (cM m) (cM l)=cx at *;simp only [cM]at d6;generalize(t-s.lo).num.sign=z5 at *;generalize(t-s.hi).num.sign=z6 at *;obtain⟨lo,hi',nl,nh⟩:=s;obtain⟨lo2,hi2,nl2,nh2⟩:=S;simp only at d8 d9 hst e1 hs1 hs2 hS1 hS2;rw [hbad]at hgo;simp only at hgo;clear hbad;generalize(lo2-hi2).num.sign=z7 at *;replace hnext:=hnext ⟨lo2,hi2,nl2,nh2⟩ ⟨hS1,hS2⟩;clear x1 x2 y1 y2 hx hmt hpt h3 hs1 hs2 hS1 hS2;refine A2 ⟨?_⟩;intros;refine Wo (ae (cs':=lqx m) rfl rfl om om hat hne) ?_;repeat(first|(refine A1 ⟨?_⟩;intros)|refine W4 d1 ⟨?_⟩|refine W4 d2 ⟨?_⟩|refine W4 d3 ⟨?_⟩|refine W4 d4 ⟨?_⟩|refine W4 d5 ⟨?_⟩|refine W4 d6 ⟨?_⟩|refine W4 d7 ⟨?_⟩)
  refine WP.via (fun F' H'=>LeF F' (fm [(1,lit (.int .i64 i)),(4,lit (.pointer (some ⟨b4,0,none⟩))),(6,lit (.pointer (some ⟨b6,0,none⟩))),(7,lit (.pointer (some ⟨b7,0,none⟩))),(18,lqs c),(19,lit (.int .i64 c.length)),(20,lit (.int .i64 k))])∧[(b7,237,spx ⟨lo2,hi2,nl2,nh2⟩),(b6,83,lqx l),(b4,237,Se)].Sublist H') ?_ ?_
  ·clear hgo hnext e1 d1 d2 d3 d4 d5 d6 d7;refine WPd (fun h4=>?_) (fun h4=>?_)
   ·rw [if_pos h4]at hst;by_cases h5:nl=true
    ·subst h5;rw [if_pos (.inl rfl)]at hst;cases hst;refine D1 d8 ⟨?_⟩;intros;exact⟨lfA,Sq⟩
    ·have h5:nl=false:=by cases nl;rfl;exact absurd rfl h5
     subst h5;by_cases h6:0<z5
     ·rw [if_pos (.inr h6)]at hst;cases hst;refine D1 d8 ⟨?_⟩;intros;exact⟨lfA,Sq⟩
     ·rw [if_neg (fun h=>h.elim (fun h=>by cases h) h6)]at hst;cases hst;refine D1 d8 ⟨?_⟩;intros;exact⟨lfA,Sq⟩
   ·rw [if_neg h4]at hst;by_cases h5:nh=true
    ·subst h5;rw [if_pos (.inl rfl)]at hst;cases hst;refine D1 d9 ⟨?_⟩;intros;exact⟨lfA,Sq⟩
    ·have h5:nh=false:=by cases nh;rfl;exact absurd rfl h5
     subst h5;by_cases h6:z6<0
     ·rw [if_pos (.inr h6)]at hst;cases hst;refine D1 d9 ⟨?_⟩;intros;exact⟨lfA,Sq⟩
     ·rw [if_neg (fun h=>h.elim (fun h=>by cases h) h6)]at hst;cases hst;refine D1 d9 ⟨?_⟩;intros;exact⟨lfA,Sq⟩
  ·rintro F' H' ⟨hF,hH⟩;refine WP.sub hH (WP.le hF ?_);clear hF hH hst d1 d2 d3 d4 d5 d6 d7 d8 d9;cases nl2
   ·cases nh2
    ·by_cases h8:0≤z7
     ·rw [if_pos (by simp [h8])]at hgo;subst hgo;clear hnext;refine D1 e1 ⟨?_⟩;intros;exact G3
     ·rw [if_neg (by simp [h8])]at hgo;replace hnext:=hnext hgo;clear hgo;refine D1 e1 ⟨?_⟩;intros;exact hnext _ _ lfA Sq
    ·rw [if_neg (by simp)]at hgo;replace hnext:=hnext hgo;clear hgo;refine D1 e1 ⟨?_⟩;intros;exact hnext _ _ lfA Sq
   ·rw [if_neg (by simp)]at hgo;replace hnext:=hnext hgo;clear hgo;refine D1 e1 ⟨?_⟩;intros;exact hnext _ _ lfA Sq
 ·have hke:k=c.length:=by omega
  subst hke;rw [eL]at hgo;have hR2:R=(s,true):=hgo.symm;subst hR2;clear hK hc;refine A2 ⟨?_⟩;intros;exact G3
theorem wE {c:List Li}{i:Nat}{l:Li}(hc:∀m∈c,m.sm) (hi:c[i]? = some l):hp (atL l (dp (eU c i).1)) 120∧ht (dp (eU c i).1)≤96:=by
 obtain⟨h1,h2⟩:=E7 hc hi;have h0:=kv;have h3:=lU;have h4:=BP (eU c i).1.lo (eU c i).1.hi h1 h2;have h5:=gh (eU c i).1.hi 1;have h6:=fo (eU c i).1.lo 1
 have hs:ht (dp (eU c i).1)≤96:=by
  unfold dp;split
  ·omega
  ·split
   ·omega
   ·split <;> omega
 have:=Ng (hc l (bn hi)) hs;exact⟨⟨by have:=this.1;omega,by have:=this.2;omega⟩,hs⟩
theorem FB {c:List Li}{i:Nat}{l:Li}(hc:∀m∈c,m.sm) (hi:c[i]? = some l):hp (uR c i l) 883:=by
 have hd:=ic (hc l (bn hi));exact LK hc (wE hc hi).1 ⟨by show ht (-(cM l).2)≤1;rw [fI];exact hd.2,hd.1⟩
theorem yJ {c:List Li}(hc:∀m∈c,m.sm):∀(r:List Li) (i:Nat) (p:Pq),(∀k l,r[k]? = some l→c[i+k]? = some l)→ku c i r=some p→hp p 883
 | [],_,_,_,h=>by cases h
 |l::r,i,p,hr,h=>by
  unfold ku at h;split at h
  ·cases h;exact FB hc (hr 0 l rfl)
  ·refine yJ hc r (i+1) p (fun k m hk=>?_) h;rw [show i+1+k=i+(k+1) by omega];exact hr (k+1) m (by simpa using hk)
theorem Jf {c:List Li}(hc:∀m∈c,m.sm):hp ((fH c).getD (0,0)) 883:=by
 have h0:=kv;cases h:fH c with
 |none=>exact⟨by show ht 0≤_;omega,by show ht 0≤_;omega⟩
 |some p =>
  unfold fH at h;split at h
  ·cases h;exact⟨by show ht 0≤_;omega,by show ht 0≤_;omega⟩
  ·exact yJ hc c 0 p (fun k l hk=>by rw [aB];exact hk) h
theorem vS {c:List Li}(hc:∀m∈c,m.sm) (hn:c.length≤100000):Pu Tryz.prog 99 [lqs c] (Ab.tup [ag (rpx ((fH c).getD (0,0))),lit (.bool (fH c).isSome)]):=by
 by_cases h0:c=[]
 ·subst h0;have e:fH []=some (0,0):=rfl;rw [e];refine Pi Tryz.func99 fun C=>?_
  refine A2 ⟨?_⟩;intros;((first|refine cV ?_|refine jK ?_);exact eJ (s1:=ag En) RVa (RV.tmp rfl) (Le.tup2 (Le.ag Eo) Lr))
 have hR:fH c=ku c 0 c:=by unfold fH;rw [if_neg h0]
 have hpos:=fE.2 h0;rw [hR];generalize hRR:ku c 0 c=R;refine Pi Tryz.func99 fun C=>?_
 refine A2 ⟨?_⟩;intros;rename_i b2
 refine WP.loopS (ι:=Nat) (fun k=>k≤c.length∧ku c k (c.drop k)=R) (fun k=>c.length-k)
  (fun k=>fm [(0,lqs c),(2,lit (.pointer (some ⟨b2,0,none⟩))),(13,lqs c),(14,lit (.int .i64 c.length)),(15,lit (.int .i64 k))])
  (fun _=>[(b2,89,En)]) 0 ⟨an _,hRR⟩ lfA Sr ?_
 rintro k ⟨hk,hgo⟩ K hK;by_cases hkl:k<c.length
 ·obtain⟨l,hget,hmm,hat,hne⟩:=elt kt om hkl;have hl:=hc l hmm;rw [kw hget]at hgo;have hnext:=fun(h2:ku c (k+1) (c.drop (k+1))=R) F' H'=>hK F' H' (k+1) ⟨om,h2⟩ om
  unfold ku at hgo;have d1:=CY hc hn hget;obtain⟨a1,a2⟩:=wE hc hget;have hle:=E7 hc hget;have d2:=oz l hl.ile;have d3:=EK (eU c k).1 hle om;have d4:=KN (l:=l) (t:=dp (eU c k).1) hl om;obtain⟨x1,x2⟩:=ic hl;have d5:=mJ (cM l).2 om;have d6:=KE c (atL l (dp (eU c k).1)) (-(cM l).2,(cM l).1) om hc a1 ⟨by show ht (-(cM l).2)≤1;rw [fI];exact x2,x1⟩;clear hK hc hRR hmm hget a1 a2 hle x1 x2;cases hb:(eU c k).2 with
  |true =>
   rw [hb,if_pos rfl]at hgo;rw [hb]at d1;subst hgo;unfold uR;simp only [kW,ny];simp only [cM]at d5 d6⊢;generalize atL l (dp (eU c k).1)=q at *;generalize dp (eU c k).1=t at *;generalize(eU c k).1=s at *;clear hnext hb;refine A2 ⟨?_⟩;intros;refine Wo (ae (cs':=lqx l) rfl rfl om om hat hne) ?_;repeat(first|(refine A1 ⟨?_⟩;intros)|refine W4 d1 ⟨?_⟩|refine W4 d2 ⟨?_⟩|refine W4 d3 ⟨?_⟩|refine W4 d4 ⟨?_⟩|refine W4 d5 ⟨?_⟩|refine W4 d6 ⟨?_⟩)
   exact G3
  |false =>
   rw [hb,if_neg (by decide)]at hgo;rw [hb]at d1;replace hnext:=hnext hgo;generalize(eU c k).1=s at *;clear d2 d3 d4 d5 d6 hb hgo;refine A2 ⟨?_⟩;intros;refine Wo (ae (cs':=lqx l) rfl rfl om om hat hne) ?_;refine D1 d1 ⟨?_⟩;intros;exact hnext _ _ lfA Sq
 ·have hke:k=c.length:=by omega
  subst hke;rw [eL]at hgo;have hR2:R=none:=hgo.symm;subst hR2;simp only [sQ,nu];clear hK hc hgo;refine A2 ⟨?_⟩;intros;((first|refine cV ?_|refine jK ?_);exact eJ (s1:=ag En) RVa (RV.tmp rfl) (Le.tup2 (Le.ag Eo) Lr))
theorem wM {c:List Li}{k:Nat}:(List.range (k+1)).foldl (fY c) []=fY c ((List.range k).foldl (fY c) []) k:=by
 rw [iU,kE];rfl
theorem vi (c:List Li) (out:List Li) (k:Nat):fY c out k=if(eU c k).2=true then lS alt out (c.getD k ⟨0,0,0⟩)else out:=rfl
theorem zu {c:List Li}{k:Nat}(hk:k≤c.length):∀y∈(List.range k).foldl (fY c) [],y∈c:=fun y hy=>by
 rcases(tW c (List.range k) [] y).1 hy with⟨i,hi,_,rfl⟩|h
 ·rw [dE]at hi;rw [List.getD,aA (show i<c.length by omega)];exact fg _
 ·cases h
theorem tX {c:List Li}:∀k:Nat,((List.range k).foldl (fY c) []).length≤k
 |0=>au _
 |k+1=>by
  have:=tX (c:=c) k;rw [wM,vi];split
  ·have:=pH alt ((List.range k).foldl (fY c) []) (c.getD k ⟨0,0,0⟩);omega
  ·omega
theorem ES {c:List Li}(hc:∀m∈c,m.sm) (hn:c.length≤100000):Pu Tryz.prog 100 [lqs c] (Ab.tup [lqs (qN c),lit (.bool (decide (c=[]∨qN c≠[])))]):=by
 unfold qN;refine Pi Tryz.func100 fun C=>?_
 refine A2 ⟨?_⟩;intros
 refine WP.loopS (ι:=Nat) (fun k=>k≤c.length) (fun k=>c.length-k)
  (fun k=>fm [(0,lqs c),(4,lqs ((List.range k).foldl (fY c) [])),(10,lqs c),(11,lit (.int .i64 c.length)),(12,lit (.int .i64 k))])
  (fun _=>[]) 0 (an _) (LeF.cons Lr (LeF.cons i5 lfA)) (av _) ?_
 rintro k hk K hK;by_cases hkl:k<c.length
 ·obtain⟨l,hget,hmm,hat,hne⟩:=elt kt om hkl;have hl:=hc l hmm;have hgo:=fun F' H' h1 h2=>hK F' H' (k+1) om om h1 h2
  rw [wM]at hgo;have hsm:∀q∈(List.range k).foldl (fY c) [],q.sm:=fun q hq=>hc q (zu om q hq)
  have hsl:=tX (c:=c) k;have d1:=CY hc hn hget;rw [vi]at hgo;rw [show c.getD k ⟨0,0,0⟩=l by rw [List.getD,hget];rfl]at hgo;generalize(List.range k).foldl (fY c) []=out at *;have dl:=oz l hl.ile;clear hK hmm hget hc;cases hb:(eU c k).2 with
  |false =>
   rw [hb,if_neg (by decide)]at hgo;rw [hb]at d1;generalize(eU c k).1=s at *;clear hb dl hsm;refine A2 ⟨?_⟩;intros;refine Wo (ae (cs':=lqx l) rfl rfl om om hat hne) ?_;refine D1 d1 ⟨?_⟩;intros;exact hgo _ _ lfA Sq
  |true =>
   rw [hb,if_pos rfl]at hgo;rw [hb]at d1;generalize(eU c k).1=s at *;clear hb;obtain⟨x,hx⟩:∃x,x=l:=⟨l,rfl⟩
   rw [←hx]at hgo;refine A2 ⟨?_⟩;intros;refine Wo (ae (cs':=lqx l) rfl rfl om om hat hne) ?_;refine D1 d1 ⟨?_⟩;intros;rename_i b6 b7;subst hx;refine WP.loopS (ι:=Nat) (fun j=>j≤lQ alt out x) (fun j=>out.length-j) (fun j=>fm [(4,sl (out.map lqx).flatten out.length),(9,lit (.int .i64 j)),(0,lqs c),(5,lit (.int .i64 k)),(6,lit (.pointer (some ⟨b6,0,none⟩))),(7,lit (.pointer (some ⟨b7,0,none⟩))),(10,lqs c),(11,lit (.int .i64 c.length)),(12,lit (.int .i64 k))]) (fun _=>[(b7,237,spx s),(b6,83,lqx x)]) 0 (an _) lfA Sr ?_;rintro j hj K2 hK2;have hpl:=se alt out x;obtain⟨hfl,hdl,htl,hpl2,hins,hln⟩:=Py kt out x j om;by_cases hjl:j<out.length
   ·obtain⟨o,hget2,hom,hat2,hne2⟩:=elt kt om hjl;have ho:=hsm o hom;obtain⟨z,hzz⟩:∃z,z=wq (cM o) (cM x):=⟨_,rfl⟩
    have do':=oz o ho.ile;have hdo:=ic ho;have hdx:=ic hl;have ca:=Iy (cM o) (cM x) ⟨by have:=hdo.1;omega,by have:=hdo.2;omega⟩ ⟨by have:=hdx.1;omega,by have:=hdx.2;omega⟩;have cc:=yd (l:=o) (m:=x) ho.ile hl.ile;have hlt:alt o x=decide (z<0):=by rw [hzz]
    have heq:rF o x=0↔o=x:=lW;generalize rF o x=y at *;rw [←hzz]at ca;simp only [cM]at do' dl ca;obtain⟨s1,s2⟩:=sd (lt:=alt) (x:=x) hj hget2;rw [hlt]at s1 s2;by_cases hneg:z<0
    ·have hj1:=s1 (a9 hneg);clear hgo s1 s2
     as_aux_lemma =>
      refine A2 ⟨?_⟩;intros;refine fJ (ae (cs':=lqx o) rfl rfl om om hat2 hne2) ?_;refine D4 do' dl ca cc ⟨?_⟩;intros;exact hK2 _ _ (j+1) hj1 om lfA Sr
    ·have hje:=s2 (aa hneg);clear hK2 s1 s2;by_cases hz:o=x
     ·rw [xg hje hget2 hz]at hgo;have hz0:=heq.2 hz;clear heq
      as_aux_lemma =>
       refine A2 ⟨?_⟩;intros;refine fJ (ae (cs':=lqx o) rfl rfl om om hat2 hne2) ?_;refine D4 do' dl ca cc ⟨?_⟩;intros;refine fJ (ae (cs':=lqx o) rfl rfl om om hat2 hne2) ?_;refine D4 do' dl ca cc ⟨?_⟩;intros;exact hgo _ _ lfA Sq
     ·rw [xh hje hget2 hz]at hgo;have hz0:¬y=0:=fun e=>hz (heq.1 e)
      clear heq
      as_aux_lemma =>
       refine A2 ⟨?_⟩;intros;refine fJ (ae (cs':=lqx o) rfl rfl om om hat2 hne2) ?_;refine D4 do' dl ca cc ⟨?_⟩;intros;refine fJ (ae (cs':=lqx o) rfl rfl om om hat2 hne2) ?_;refine D4 do' dl ca cc ⟨?_⟩;intros;refine Wdo (m7 j rfl rfl rfl rfl rfl hfl om) ?_;repeat(first|(refine Wdo (nX (s:=ag (lqx x)) (ds:=lqx x) rfl inferInstance) ?_)|(refine Wdo (ld j rfl rfl rfl hfl om) ?_)|(refine A1 ⟨?_⟩;intros))
       refine Wdo (bU (k:=1) (k0:=out.length-j) rfl rfl rfl hdl om) ?_;refine Wdo (bU (k:=j) (k0:=1+(out.length-j)) rfl rfl htl hpl2 om) ?_;rw [hins,hln];refine A2 ⟨?_⟩;intros;exact hgo _ _ lfA Sq
   ·have hje:j=out.length:=by omega
    rw [uP hje hj]at hgo;clear hK2
    as_aux_lemma =>
     refine A2 ⟨?_⟩;intros;refine Wdo (m7 j rfl rfl rfl rfl rfl hfl om) ?_;repeat(first|(refine Wdo (nX (s:=ag (lqx x)) (ds:=lqx x) rfl inferInstance) ?_)|(refine Wdo (ld j rfl rfl rfl hfl om) ?_)|(refine A1 ⟨?_⟩;intros))
     refine Wdo (bU (k:=1) (k0:=out.length-j) rfl rfl rfl hdl om) ?_;refine Wdo (bU (k:=j) (k0:=1+(out.length-j)) rfl rfl htl hpl2 om) ?_;rw [hins,hln];refine A2 ⟨?_⟩;intros;exact hgo _ _ lfA Sq
 ·have hke:k=c.length:=by omega
  subst hke;clear hK;generalize(List.range c.length).foldl (fY c) []=out at *;cases c with
  |nil =>
   simp only [kC,nt];refine A2 ⟨?_⟩;intros;exact G2
  |cons a c =>
   simp only [List.cons_ne_nil,jw];cases out with
   |nil =>
    simp only [ne_eq,n9,lE];refine A2 ⟨?_⟩;intros;exact G2
   |cons b out =>
    have hbl:(b::out).length=out.length+1:=rfl;simp only [ne_eq,List.cons_ne_nil,not_false_eq_true,nt];refine A2 ⟨?_⟩;intros;exact G2
abbrev lT:TypeId:=83
abbrev pT:TypeId:=89
theorem vN (c:List Li) (l:Li):((c++[l]).map lqx).flatten=(c.map lqx).flatten++lqx l:=by
 rw [aH,cH];simp
theorem rY {c:List Li}{l:Li}(hc:∀m∈c,m.sm) (hl:l.sm):∀m∈c++[l],m.sm:=fun m hm=>by
 rcases az.1 hm with h|h
 ·exact hc m h
 ·rw [ar.1 h];exact hl
theorem vX (c:List Li):((c.map lqx).flatten).length=c.length*6:=fP kt c
theorem uj {c:List Li}{l:Li}(hc:∀m∈c,m.sm) (hl:l.sm) (hn:c.length≤90000):Pu Tryz.prog 63 [lqs c,lq l] (lqs (iL c l)):=by
 have d1:=ES (rY hc hl) (by rw [ac,bH];omega)
 have hsl:lqs (c++[l])=sl ((c.map lqx).flatten++lqx l) (c.length+1):=by
  show sl ((c++[l]).map lqx).flatten (c++[l]).length=_
  rw [vN,ac,bH]
 rw [hsl]at d1;show Pu _ _ _ (lqs (qN (c++[l])))
 generalize qN (c++[l])=q at *;generalize decide (c++[l]=[]∨q≠[])=bb at *;have hfl:=vX c;by_cases h0:c=[]
 ·subst h0;clear hsl hc hl;refine Pi Tryz.func63 fun C=>?_
  repeat(first|(refine AS ⟨?_⟩;intros)|(refine O1 ⟨?_⟩;intros))
  repeat(first|(refine Wo (si) ?_)|(refine Wdo (si) ?_)|(refine Wo (po rfl rfl) ?_)|(refine Wdo (po rfl rfl) ?_)|(refine Wo (e9 (r:=[(0,lqx l)]) (cs:=lqx l) (.cons (sv:=ag (lqx l)) rfl inferInstance .nil)) ?_)|(refine Wdo (e9 (r:=[(0,lqx l)]) (cs:=lqx l) (.cons (sv:=ag (lqx l)) rfl inferInstance .nil)) ?_)|(refine Wo (bU (k:=0) (k0:=1) (ds:=lqx l) rfl rfl rfl rfl om) ?_)|(refine Wdo (bU (k:=0) (k0:=1) (ds:=lqx l) rfl rfl rfl rfl om) ?_)|(refine A1 ⟨?_⟩;intros)|refine W4 d1 ⟨?_⟩)
  exact E1
 ·have hpos:=fE.2 h0;clear hsl hc hl h0;refine Pi Tryz.func63 fun C=>?_
  repeat(first|(refine AS ⟨?_⟩;intros)|(refine O1 ⟨?_⟩;intros))
  rename_i b3;refine S7 12 [0,1,3,4,2,5,6,7,8,9,10,11] [5] 2 10 (fun sv X=>Own lT 6 c.length (c.map lqx).flatten sv X) [] _ ?_;refine YkD 4 ?_;repeat(first|(refine Wo (oB) ?_)|(refine Wdo (oB) ?_)|(refine Wo (e9 (r:=[(0,lqx l)]) (cs:=lqx l) (.cons (sv:=ag (lqx l)) rfl inferInstance .nil)) ?_)|(refine Wdo (e9 (r:=[(0,lqx l)]) (cs:=lqx l) (.cons (sv:=ag (lqx l)) rfl inferInstance .nil)) ?_)|(refine A1 ⟨?_⟩;intros))
  refine Fh ?_;refine TN rfl rfl rfl hfl om om ?_ (hyx:=fun h=>by cases h);refine TO rfl om (fun sv=>?_) rfl (hyx:=fun h=>by cases h);refine YkD 6 ?_;refine D1 d1 ⟨?_⟩;intros;refine Fh ?_;refine S6 ?_;exact Z1
abbrev Sf:List SV:=En
theorem A7 {c:List Li}{l:Li}(hc:∀m∈c,m.sm) (hl:l.sm) (hn:c.length≤90000):Pu Tryz.prog 61 [lqs c,lq l] (lit (.int .i64 (mv c l))):=by
 have d1:=vS (rY hc hl) (by rw [ac,bH];omega);have d2:=vS (rY hc hl.neg) (by rw [ac,bH];omega);have d3:=uq l hl.ile
 have hsl:∀m:Li,lqs (c++[m])=sl ((c.map lqx).flatten++lqx m) (c.length+1):=fun m=>by
  show sl ((c++[m]).map lqx).flatten (c++[m]).length=_
  rw [vN,ac,bH]
 rw [hsl]at d1 d2;unfold mv;generalize fH (c++[l])=q1 at *;generalize fH (c++[l.neg])=q2 at *;generalize q1.getD (0,0)=p1 at *;generalize q2.getD (0,0)=p2 at *;generalize q1.isSome=s1 at *;generalize q2.isSome=s2 at *;have hfl:=vX c;by_cases h0:c=[]
 ·subst h0;clear hsl hc hl;cases s1 <;> cases s2
  all_goals
   simp only [bE,aO,aV];refine Pi Tryz.func61 fun C=>?_
   repeat(first|(refine AS ⟨?_⟩;intros)|(refine O1 ⟨?_⟩;intros))
   repeat(first|(refine Wo (si) ?_)|(refine Wdo (si) ?_)|(refine Wo (po rfl rfl) ?_)|(refine Wdo (po rfl rfl) ?_)|(refine Wo (e9 (r:=[(0,lqx l)]) (cs:=lqx l) (.cons (sv:=ag (lqx l)) rfl inferInstance .nil)) ?_)|(refine Wdo (e9 (r:=[(0,lqx l)]) (cs:=lqx l) (.cons (sv:=ag (lqx l)) rfl inferInstance .nil)) ?_)|(refine Wo (e9 (r:=[(0,lqx l.neg)]) (cs:=lqx l.neg) (.cons (sv:=ag (lqx l.neg)) rfl inferInstance .nil)) ?_)|(refine Wdo (e9 (r:=[(0,lqx l.neg)]) (cs:=lqx l.neg) (.cons (sv:=ag (lqx l.neg)) rfl inferInstance .nil)) ?_)|(refine Wo (bU (k:=0) (k0:=1) (ds:=lqx l) rfl rfl rfl rfl om) ?_)|(refine Wdo (bU (k:=0) (k0:=1) (ds:=lqx l) rfl rfl rfl rfl om) ?_)|(refine Wo (bU (k:=0) (k0:=1) (ds:=lqx l.neg) rfl rfl rfl rfl om) ?_)|(refine Wdo (bU (k:=0) (k0:=1) (ds:=lqx l.neg) rfl rfl rfl rfl om) ?_)|(refine A1 ⟨?_⟩;intros)|refine W4 d1 ⟨?_⟩|refine W4 d2 ⟨?_⟩|refine W4 d3 ⟨?_⟩)
   exact E1
 ·have hpos:=fE.2 h0;clear hsl hc hl h0;cases s1 <;> cases s2
  all_goals
   simp only [bE,aO,aV];refine Pi Tryz.func61 fun C=>?_
   repeat(first|(refine AS ⟨?_⟩;intros)|(refine O1 ⟨?_⟩;intros))
   rename_i b3;refine S7 12 [10,0,1,3,4,2,5,6,7,8,9,11] [2,5,11] 10 5 (fun sv X=>∃b,sv=lit (.pointer (some ⟨b,0,none⟩))∧X=[(b,pT,Sf)]) [] _ ?_;refine T9 rfl ?_;refine YkD 4 ?_;repeat(first|(refine Wo (oB) ?_)|(refine Wdo (oB) ?_)|(refine Wo (e9 (r:=[(0,lqx l)]) (cs:=lqx l) (.cons (sv:=ag (lqx l)) rfl inferInstance .nil)) ?_)|(refine Wdo (e9 (r:=[(0,lqx l)]) (cs:=lqx l) (.cons (sv:=ag (lqx l)) rfl inferInstance .nil)) ?_)|(refine A1 ⟨?_⟩;intros))
   refine Fh ?_;refine YkE rfl rfl hfl om om (fun s' H' hown=>?_) (hyx:=fun h=>by cases h);refine YkP hown om ?_;refine YkD 4 ?_;refine D1 d1 ⟨?_⟩;intros;refine Fh ?_;refine Ta (sv:=ag (rpx p1)) (ds:=rpx p1) rfl (fun b5=>?_) rfl (hvx:=fun h=>by cases h);refine S6 ?_;repeat(first|(refine AS ⟨?_⟩;intros)|(refine O1 ⟨?_⟩;intros))
   refine S7 13 [11,0,1,3,2,4,5,6,7,8,9,10,12] [2,6,12] 11 7 (fun sv X=>∃b,sv=lit (.pointer (some ⟨b,0,none⟩))∧X=[(b,pT,Sf)]) [] _ ?_;refine T9 rfl ?_;refine YkD 3 ?_;repeat(first|(refine Wo (oB) ?_)|(refine Wdo (oB) ?_)|(refine A1 ⟨?_⟩;intros))
   refine Fh ?_;refine YkE rfl rfl hfl om om (fun s' H' hown=>?_) (hyx:=fun h=>by cases h);refine YkD 2 ?_;repeat(first|(refine Wo (e9 (r:=[(0,lqx l.neg)]) (cs:=lqx l.neg) (.cons (sv:=ag (lqx l.neg)) rfl inferInstance .nil)) ?_)|(refine Wdo (e9 (r:=[(0,lqx l.neg)]) (cs:=lqx l.neg) (.cons (sv:=ag (lqx l.neg)) rfl inferInstance .nil)) ?_)|(refine A1 ⟨?_⟩;intros)|refine W4 d3 ⟨?_⟩)
   refine Fh ?_;refine YkP hown om ?_;refine YkD 4 ?_;refine D1 d2 ⟨?_⟩;intros;refine Fh ?_;refine Ta (sv:=ag (rpx p2)) (ds:=rpx p2) rfl (fun b7=>?_) rfl (hvx:=fun h=>by cases h);refine S6 ?_;exact Y1 d1
theorem CR (l:Li) (a b:Tr) (hl:l.le 1000000):Pu Tryz.prog 62 [lq l,rt a,rt b] (rt (o9 l a b)):=by
 cases a with
 |leaf i =>
  cases b with
  |leaf j =>
   show Pu _ _ _ (rt (if i=j then .leaf i else .node l (.leaf i) (.leaf j)))
   cases i <;> cases j
   all_goals
    first|rw [if_pos rfl]|rw [if_neg (by decide)]
    simp only [rt,mL,ko]at *;refine Pi Tryz.func62 fun C=>?_
    repeat(first|(refine Wo (cF (sv:=ag _) rfl) ?_)|(refine Wdo (cF (sv:=ag _) rfl) ?_)|(refine A1 ⟨?_⟩;intros))
    exact E1
  |node m x y =>
   show Pu _ _ _ (rt (.node l (.leaf i) (.node m x y)))
   simp only [rt,mL,ko]at *;refine Pi Tryz.func62 fun C=>?_
   repeat(first|(refine Wo (cF (sv:=ag _) rfl) ?_)|(refine Wdo (cF (sv:=ag _) rfl) ?_)|(refine A1 ⟨?_⟩;intros))
   exact E1
 |node m x y =>
  show Pu _ _ _ (rt (.node l (.node m x y) b))
  simp only [rt,mL,ko]at *;refine Pi Tryz.func62 fun C=>?_
  repeat(first|(refine Wo (cF (sv:=ag _) rfl) ?_)|(refine Wdo (cF (sv:=ag _) rfl) ?_)|(refine A1 ⟨?_⟩;intros))
  exact E1
theorem u9 {c:List Li}{l:Li}(hc:∀m∈c,m.sm) (hl:l.sm):∀m∈iL c l,m.sm:=fun m hm =>
 rY hc hl m (zu (au _) m hm)
theorem rV (c:List Li) (l:Li):(iL c l).length≤c.length+1:=by
 exact aU (tX (c:=c++[l]) (c++[l]).length) (by simp)
theorem nj:∀(t:Tr) (c:List Li),(t.all fun l=>l.sm)→(∀m∈c,m.sm)→c.length+j6 t≤90000→Pu Tryz.prog 51 [rt t,lqs c] (rt (dI t c))
 | .leaf i,c,_,_,_=>by
  show Pu _ _ _ (rt (.leaf i))
  simp only [rt,mL]at *;refine Pi Tryz.func51 fun C=>?_
  exact Z1
 | .node l a b,c,hall,hc,hd=>by
  have hd':c.length+(1+max (j6 a) (j6 b))≤90000:=hd;have p0:=A7 hc hall.1 om;have d3:=nj a c hall.2.1 hc om;have d4:=nj b c hall.2.2 hc om;have n1:=rV c l;have n2:=rV c l.neg;have w1:=uj hc hall.1 om;have w2:=uj hc hall.1.neg om;have d0:=uq l hall.1.ile;have d5:=nj a (iL c l) hall.2.1 (u9 hc hall.1) om;have d6:=nj b (iL c l.neg) hall.2.2 (u9 hc hall.1.neg) om;have d7:=CR l (dI a (iL c l)) (dI b (iL c l.neg)) hall.1.ile;unfold dI;clear hd hd' n1 n2 hc hall;generalize dI a c=ra at *;generalize dI b c=rb at *;generalize dI a (iL c l)=ra' at *;generalize dI b (iL c l.neg)=rb' at *;generalize o9 l ra' rb'=rj at *;generalize iL c l=c1 at *;generalize iL c l.neg=c2 at *;have en:rt (.node l a b)=pt (rc (.node l a b)):=rfl;rw [en,ko];clear en;generalize mv c l=z at *;by_cases h1:z=1
  ·rw [if_pos h1];refine Pi Tryz.func51 fun C=>?_
   exact Y2 p0 d3
  ·rw [if_neg h1];by_cases h2:z = -1
   ·rw [if_pos h2];refine Pi Tryz.func51 fun C=>?_
    exact Y2 p0 d4
   ·rw [if_neg h2];refine Pi Tryz.func51 fun C=>?_
    repeat(first|(refine A1 ⟨?_⟩;intros)|refine W4 p0 ⟨?_⟩|refine W4 w1 ⟨?_⟩|refine W4 d0 ⟨?_⟩|refine W4 w2 ⟨?_⟩|refine W4 d5 ⟨?_⟩|refine W4 d6 ⟨?_⟩|refine W4 d7 ⟨?_⟩)
    exact E1
theorem s8:∀t:Tr,(t.all fun l=>l.sm)→Pu Tryz.prog 27 [rt t] (rt (ml t))
 | .leaf i,_=>by
  have c:=eS (!i);show Pu _ _ _ (rt (.leaf (!i)))
  have en:rt (.leaf i)=pt (rc (.leaf i)):=rfl;rw [en,mL];refine Pi Tryz.func27 fun C=>?_
  exact Y1 c
 | .node l a b,h=>by
  have c1:=s8 a h.2.1;have c2:=s8 b h.2.2;show Pu _ _ _ (rt (.node l (ml a) (ml b)))
  have en:rt (.node l a b)=pt (rc (.node l a b)):=rfl;rw [en,ko];generalize ml a=na at *;generalize ml b=nb at *;clear h en;refine Pi Tryz.func27 fun C=>?_
  repeat(first|(refine Wo (cF (sv:=ag _) rfl) ?_)|(refine Wdo (cF (sv:=ag _) rfl) ?_)|(refine A1 ⟨?_⟩;intros)|refine W4 c1 ⟨?_⟩|refine W4 c2 ⟨?_⟩)
  exact E1
theorem nS (t:Tr) (h:t.all fun l=>l.sm) (hd:j6 t≤90000):Pu Tryz.prog 23 [rt t] (rt (dI t [])):=by
 have c:=nj t [] h (fun m h=>by cases h) (by simpa using hd);have c':=c.arg (l':=[rt t,lit (.slice none 0 0)]) ⟨Le.refl _,i5,trivial⟩;clear c h hd;refine Pi Tryz.func23 fun C=>?_
 exact Y1 c'
theorem rh:∀t:Tr,dG t≤1000000000→Pu Tryz.prog 12 [rt t] (lit (.int .i64 (dG t)))
 | .leaf i,_=>by
  have en:rt (.leaf i)=pt (rc (.leaf i)):=rfl;rw [en,mL];show Pu _ _ _ (lit (.int .i64 (0:Nat)))
  refine Pi Tryz.func12 fun C=>?_
  exact Z1
 | .node l a b,h=>by
  simp only [dG]at h;have c1:=rh a om;have c2:=rh b om;have en:rt (.node l a b)=pt (rc (.node l a b)):=rfl;rw [en,ko];show Pu _ _ _ (lit (.int .i64 (1+dG a+dG b:Nat)))
  generalize dG a=na at *;generalize dG b=nb at *;refine Pi Tryz.func12 fun C=>?_
  refine D2 c1 c2 ⟨?_⟩;intros;((first|refine cV ?_|refine jK ?_);refine bJ (RV.tmp rfl) (Le.int ?_))
  all_goals omega
end Go.Ab
