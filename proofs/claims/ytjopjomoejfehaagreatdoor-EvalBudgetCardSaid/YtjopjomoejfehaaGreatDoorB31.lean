/- Texts laid one behind the other: GwE, GwF, GwG. -/
import Derived.Test.YtjopjomoejfehaaGreatDoorB28
set_option linter.all false
set_option maxHeartbeats 16000000
namespace Go.Ab
open Go.Proofs
variable [Base]
theorem EA (s:Spn){n:Nat}(h:s.le n) (hn:n≤10000):Pu Tryz.prog 125 [ag (spx s)] (rq (dq s)):=by
 obtain⟨lo,hi,nl,nh⟩:=s;obtain⟨h1,h2⟩:=h;simp only at h1 h2;have:=lV;have c1:=mj hi 1 om om;have c2:=jL lo 1 om om;have c3:=Gg lo hi om om;unfold dq;cases nl <;> cases nh;rotate_left 3
 ·simp only [jH,aV];refine Pi Tryz.func125 fun C=>?_
  refine D4 u7 c1 c2 c3 ⟨?_⟩;intros;((first|refine db ?_|refine jc ?_);refine bO RVa ?_)
  exact Le.ag ⟨Le.refl _,wB,wC,trivial⟩
 all_goals
  simp only [bq,aU,bd,aZ,jH,bJ,aV,aQ];refine Pi Tryz.func125 fun C=>?_
  refine D4 u7 c1 c2 c3 ⟨?_⟩;intros;exact G1
theorem rh {l m:Li}{s:Spn}(hl:l.sm) (hm:m.sm) (h:s.le 46):(jO l m s).le 46:=by
 have h1:=r9 hl hm;have h2:=qo hl h1;obtain⟨h3,h4⟩:=h;unfold jO;split
 ·split
  ·exact⟨by simp only;omega,h4⟩
  ·exact⟨h3,h4⟩
 ·split
  ·exact⟨h3,by simp only;omega⟩
  ·exact⟨h3,h4⟩
theorem s8 {l:Li}(hl:l.sm) (i:Nat):∀(c:List Li) (k:Nat) (s:Spn),(∀m∈c,m.sm)→s.le 46→(k8 l i k c s).1.le 46
 | [],_,_,_,h=>h
 |m::c,k,s,hc,h=>by
  have hm:=hc m Ms;have hr:∀m∈c,m.sm:=fun x hx=>hc x (Mc hx)
  unfold k8;split
  ·exact s8 hl i c _ _ hr h
  ·split
   ·split
    ·exact s8 hl i c _ _ hr h
    ·exact h
   ·split
    ·exact rh hl hm h
    ·exact s8 hl i c _ _ hr (rh hl hm h)
theorem Ay:Spn.full.le 46:=⟨by have:=kw;show ht 0≤46;omega,by have:=kw;show ht 0≤46;omega⟩
theorem DW {c:List Li}{i:Nat}{l:Li}(hc:∀m∈c,m.sm) (hi:c[i]? = some l):(eS c i).1.le 46:=by
 unfold eS;rw [List.getD,hi];exact s8 (hc l (bo hi)) i c 0 _ hc Ay
abbrev Rg:List SV:=[lit (.bool false),lit (.slice none 0 0),lit (.slice none 0 0),lit (.bool false),lit (.slice none 0 0),lit (.slice none 0 0),lit (.bool false),lit (.bool false)]
theorem CI {c:List Li}{i:Nat}{l:Li}(hc:∀m∈c,m.sm) (hn:c.length≤100000) (hi:c[i]? = some l):Pu Tryz.prog 121 [lqs c,lit (.int .i64 i)] (Ab.tup [ag (spx (eS c i).1),lit (.bool (eS c i).2)]):=by
 have hl:=hc l (bo hi);have hil:=(bC.1 hi).1;have hat0:=fV (f:=lqx) (n:=6) ku hi;have hne0:(c.map lqx).flatten≠[]:=gD ku om (fun e=>by rw [e]at hil;simp at hil);have hR:eS c i=k8 l i 0 c Spn.full:=by unfold eS;rw [List.getD,hi];rfl
 generalize eS c i=R at *;refine Pi Tryz.func121 fun C=>?_
 refine A2 ⟨?_⟩;intros;rename_i b4;refine Wo (ae (cs':=lqx l) rfl rfl om om hat0 hne0) ?_;refine D1 CG ⟨?_⟩;intros;rename_i b6 b7
 refine WP.loopS (ι:=Nat×Spn) (fun y=>y.1≤c.length∧y.2.le 46∧k8 l i y.1 (c.drop y.1) y.2=R) (fun y=>c.length-y.1)
  (fun y=>fm [(1,lit (.int .i64 i)),(4,lit (.pointer (some ⟨b4,0,none⟩))),(6,lit (.pointer (some ⟨b6,0,none⟩))),(7,lit (.pointer (some ⟨b7,0,none⟩))),(18,lqs c),(19,lit (.int .i64 c.length)),(20,lit (.int .i64 y.1))])
  (fun y=>[(b7,202,spx y.2),(b6,76,lqx l),(b4,202,Rg)]) (0,Spn.full) ⟨ak _,Ay,by rw [bG];exact hR.symm⟩ lfA Sr ?_
 rintro ⟨k,s⟩ ⟨hk,hs,hgo⟩ K hK;simp only at hk hs hgo⊢;by_cases hkl:k<c.length
 ·obtain⟨m,hget,hmm,hat,hne⟩:=elt ku om hkl;have hm:=hc m hmm;rw [mQ hget]at hgo;have hnext:=fun s' (h1:s'.le 46) (h2:k8 l i (k+1) (c.drop (k+1)) s'=R) F' H'=>hK F' H' (k+1,s') ⟨by simp only;omega,h1,h2⟩ (by simp only;omega)
  unfold k8 at hgo;have d1:=xS (l:=l) (m:=m) hl.ile hm.ile;have d2:=CA hl hm;have hsl:=rh hl hm hs;have hmt:=r9 hl hm;have hpt:=qo hl hmt;clear hK hc hi hat0 hne0 hget hmm;by_cases h1:k=i
  ·subst h1;rw [if_pos (.inl rfl)]at hgo;replace hnext:=hnext s hs hgo;clear hgo hsl hmt hpt d2;refine A2 ⟨?_⟩;intros;refine Wo (ae (cs':=lqx m) rfl rfl om om hat hne) ?_;refine D1 d1 ⟨?_⟩;intros;exact hnext _ _ lfA Sq
  by_cases h2:rl l m=0
  ·rw [if_pos (.inr h2)]at hgo;replace hnext:=hnext s hs hgo;rw [h2]at d1;clear hgo hsl hmt hpt d2;refine A2 ⟨?_⟩;intros;refine Wo (ae (cs':=lqx m) rfl rfl om om hat hne) ?_;refine D1 d1 ⟨?_⟩;intros;exact hnext _ _ lfA Sq
  rw [if_neg (fun h=>h.elim h1 h2)]at hgo;generalize rl l m=z0 at *;by_cases h3:gZ l m=0
  ·rw [if_pos h3]at hgo;unfold yg at d2;rw [if_pos h3]at d2;obtain⟨q1,q2⟩:=v6 hl;have d3:=xT hl.1 hl.2;have d4:=u4 (l:=m) (p:=ct l) hm ⟨om,om⟩;simp only [sD,nt]at d2;clear hsl hmt hpt q1 q2;have e4:ag (rpx (ct l))=rp (l.bf*l.a) (l.bf*l.b):=rfl;rw [e4]at d4;clear e4;generalize gS m (ct l)=z1 at *;by_cases h4:0<z1
   ·rw [if_pos h4]at hgo;replace hnext:=hnext s hs hgo;clear hgo;refine A2 ⟨?_⟩;intros;refine Wo (ae (cs':=lqx m) rfl rfl om om hat hne) ?_;refine D4 d1 d2 d3 d4 ⟨?_⟩;intros;exact hnext _ _ lfA Sq
   ·rw [if_neg h4]at hgo;subst hgo;clear hnext;refine A2 ⟨?_⟩;intros;refine Wo (ae (cs':=lqx m) rfl rfl om om hat hne) ?_;refine D4 d1 d2 d3 d4 ⟨?_⟩;intros;exact G3
  rw [if_neg h3]at hgo;unfold yg at d2;rw [if_neg h3]at d2;simp only [jR,nu]at d2;have d3:=rP (l:=l) (p:=dX l m) hl ⟨by have:=hmt.1;omega,by have:=hmt.2;omega⟩;have d4:=ov m hm.ile;have d5:=ov l hl.ile;obtain⟨x1,x2⟩:=ic hm;obtain⟨y1,y2⟩:=ic hl;have d6:=rR (cK m).1 (cK m).2 (cK l).1 (cK l).2 om om om om;have hx:=sc (ic hm) (ic hl);have d7:=qZ (gt (cK m) (cK l)) om;rw [show(cK m).1*(cK l).2-(cK m).2*(cK l).1=gt (cK m) (cK l)from rfl]at d6;obtain⟨hs1,hs2⟩:=hs;have d8:=ow (ff l (dX l m)) s.lo om om;have d9:=ow (ff l (dX l m)) s.hi om om;have hbad:∀u:Spn,j6 u=(!u.nl && !u.nh&&decide (0≤(u.lo-u.hi).num.sign)):=fun _=>rfl
  have hst:(if 0<(gt (cK m) (cK l)).num.sign then(if s.nl=true∨0<(ff l (dX l m)-s.lo).num.sign then⟨ff l (dX l m),s.hi,false,s.nh⟩else s)
   else if s.nh=true∨(ff l (dX l m)-s.hi).num.sign<0 then⟨s.lo,ff l (dX l m),s.nl,false⟩else s)=jO l m s:=rfl
  generalize jO l m s=S at *;obtain⟨hS1,hS2⟩:=hsl;have e1:=ow S.lo S.hi om om;generalize dX l m=mp at *;generalize ff l mp=t at *;generalize(gt (cK m) (cK l)).num.sign=zc at *;generalize gt (cK m) (cK l)=cx at *;simp only [cK]at d6;generalize(t-s.lo).num.sign=z5 at *;generalize(t-s.hi).num.sign=z6 at *;obtain⟨lo,hi',nl,nh⟩:=s;obtain⟨lo2,hi2,nl2,nh2⟩:=S;simp only at d8 d9 hst e1 hs1 hs2 hS1 hS2;rw [hbad]at hgo;simp only at hgo;clear hbad;generalize(lo2-hi2).num.sign=z7 at *;replace hnext:=hnext ⟨lo2,hi2,nl2,nh2⟩ ⟨hS1,hS2⟩;clear x1 x2 y1 y2 hx hmt hpt h3 hs1 hs2 hS1 hS2;refine A2 ⟨?_⟩;intros;refine Wo (ae (cs':=lqx m) rfl rfl om om hat hne) ?_;repeat(first|(refine A1 ⟨?_⟩;intros)|refine W4 d1 ⟨?_⟩|refine W4 d2 ⟨?_⟩|refine W4 d3 ⟨?_⟩|refine W4 d4 ⟨?_⟩|refine W4 d5 ⟨?_⟩|refine W4 d6 ⟨?_⟩|refine W4 d7 ⟨?_⟩)
  refine WP.via (fun F' H'=>LeF F' (fm [(1,lit (.int .i64 i)),(4,lit (.pointer (some ⟨b4,0,none⟩))),(6,lit (.pointer (some ⟨b6,0,none⟩))),(7,lit (.pointer (some ⟨b7,0,none⟩))),(18,lqs c),(19,lit (.int .i64 c.length)),(20,lit (.int .i64 k))])∧[(b7,202,spx ⟨lo2,hi2,nl2,nh2⟩),(b6,76,lqx l),(b4,202,Rg)].Sublist H') ?_ ?_
  ·clear hgo hnext e1 d1 d2 d3 d4 d5 d6 d7;refine WPd (fun h4=>?_) (fun h4=>?_)
   ·rw [if_pos h4]at hst;by_cases h5:nl=true
    ·subst h5;rw [if_pos (.inl rfl)]at hst;cases hst;refine D1 d8 ⟨?_⟩;intros;exact⟨lfA,Sq⟩
    ·have h5:nl=false:=by cases nl;rfl;exact absurd rfl h5
     subst h5;by_cases h6:0<z5
     ·rw [if_pos (.inr h6)]at hst;cases hst;refine D1 d8 ⟨?_⟩;intros;exact⟨lfA,Sq⟩
     ·rw [if_neg (fun h=>h.elim (fun h=>by cases h) h6)]at hst;cases hst;refine D1 d8 ⟨?_⟩;intros;exact⟨lfA,Sq⟩
   ·rw [if_neg h4]at hst;by_cases h5:nh=true
    ·subst h5;rw [if_pos (.inl rfl)]at hst;cases hst;refine D1 d9 ⟨?_⟩;intros;exact⟨lfA,Sq⟩
    ·have h5:nh=false:=by cases nh;rfl;exact absurd rfl h5
     subst h5;by_cases h6:z6<0
     ·rw [if_pos (.inr h6)]at hst;cases hst;refine D1 d9 ⟨?_⟩;intros;exact⟨lfA,Sq⟩
     ·rw [if_neg (fun h=>h.elim (fun h=>by cases h) h6)]at hst;cases hst;refine D1 d9 ⟨?_⟩;intros;exact⟨lfA,Sq⟩
  ·rintro F' H' ⟨hF,hH⟩;refine WP.sub hH (WP.le hF ?_);clear hF hH hst d1 d2 d3 d4 d5 d6 d7 d8 d9;cases nl2
   ·cases nh2
    ·by_cases h8:0≤z7
     ·rw [if_pos (by simp [h8])]at hgo;subst hgo;clear hnext;refine D1 e1 ⟨?_⟩;intros;exact G3
     ·rw [if_neg (by simp [h8])]at hgo;replace hnext:=hnext hgo;clear hgo;refine D1 e1 ⟨?_⟩;intros;exact hnext _ _ lfA Sq
    ·rw [if_neg (by simp)]at hgo;replace hnext:=hnext hgo;clear hgo;refine D1 e1 ⟨?_⟩;intros;exact hnext _ _ lfA Sq
   ·rw [if_neg (by simp)]at hgo;replace hnext:=hnext hgo;clear hgo;refine D1 e1 ⟨?_⟩;intros;exact hnext _ _ lfA Sq
 ·have hke:k=c.length:=by omega
  subst hke;rw [fv]at hgo;have hR2:R=(s,true):=hgo.symm;subst hR2;clear hK hc;refine A2 ⟨?_⟩;intros;exact G3
theorem wr {c:List Li}{i:Nat}{l:Li}(hc:∀m∈c,m.sm) (hi:c[i]? = some l):hp (atL l (dq (eS c i).1)) 120∧ht (dq (eS c i).1)≤96:=by
 obtain⟨h1,h2⟩:=DW hc hi;have h0:=kw;have h3:=lV;have h4:=By (eS c i).1.lo (eS c i).1.hi h1 h2;have h5:=gU (eS c i).1.hi 1;have h6:=fh (eS c i).1.lo 1
 have hs:ht (dq (eS c i).1)≤96:=by
  unfold dq;split
  ·omega
  ·split
   ·omega
   ·split <;> omega
 have:=MC (hc l (bo hi)) hs;exact⟨⟨by have:=this.1;omega,by have:=this.2;omega⟩,hs⟩
theorem Fm {c:List Li}{i:Nat}{l:Li}(hc:∀m∈c,m.sm) (hi:c[i]? = some l):hp (uE c i l) 883:=by
 have hd:=ic (hc l (bo hi));exact L6 hc (wr hc hi).1 ⟨by show ht (-(cK l).2)≤1;rw [gq];exact hd.2,hd.1⟩
theorem yu {c:List Li}(hc:∀m∈c,m.sm):∀(r:List Li) (i:Nat) (p:Pq),(∀k l,r[k]? = some l→c[i+k]? = some l)→kv c i r=some p→hp p 883
 | [],_,_,_,h=>by cases h
 |l::r,i,p,hr,h=>by
  unfold kv at h;split at h
  ·cases h;exact Fm hc (hr 0 l rfl)
  ·refine yu hc r (i+1) p (fun k m hk=>?_) h;rw [show i+1+k=i+(k+1) by omega];exact hr (k+1) m (by simpa using hk)
theorem IT {c:List Li}(hc:∀m∈c,m.sm):hp ((fF c).getD (0,0)) 883:=by
 have h0:=kw;cases h:fF c with
 |none=>exact⟨by show ht 0≤_;omega,by show ht 0≤_;omega⟩
 |some p =>
  unfold fF at h;split at h
  ·cases h;exact⟨by show ht 0≤_;omega,by show ht 0≤_;omega⟩
  ·exact yu hc c 0 p (fun k l hk=>by rw [aD];exact hk) h
theorem vG {c:List Li}(hc:∀m∈c,m.sm) (hn:c.length≤100000):Pu Tryz.prog 77 [lqs c] (Ab.tup [ag (rpx ((fF c).getD (0,0))),lit (.bool (fF c).isSome)]):=by
 by_cases h0:c=[]
 ·subst h0;have e:fF []=some (0,0):=rfl;rw [e];refine Pi Tryz.func77 fun C=>?_
  refine A2 ⟨?_⟩;intros;((first|refine db ?_|refine jc ?_);exact eJ (s1:=ag Ef) RVa (RV.tmp rfl) (Le.tup2 (Le.ag Eg) Lr))
 have hR:fF c=kv c 0 c:=by unfold fF;rw [if_neg h0]
 have hpos:=ez.2 h0;rw [hR];generalize hRR:kv c 0 c=R;refine Pi Tryz.func77 fun C=>?_
 refine A2 ⟨?_⟩;intros;rename_i b2
 refine WP.loopS (ι:=Nat) (fun k=>k≤c.length∧kv c k (c.drop k)=R) (fun k=>c.length-k)
  (fun k=>fm [(0,lqs c),(2,lit (.pointer (some ⟨b2,0,none⟩))),(13,lqs c),(14,lit (.int .i64 c.length)),(15,lit (.int .i64 k))])
  (fun _=>[(b2,96,Ef)]) 0 ⟨ak _,hRR⟩ lfA Sr ?_
 rintro k ⟨hk,hgo⟩ K hK;by_cases hkl:k<c.length
 ·obtain⟨l,hget,hmm,hat,hne⟩:=elt ku om hkl;have hl:=hc l hmm;rw [mQ hget]at hgo;have hnext:=fun(h2:kv c (k+1) (c.drop (k+1))=R) F' H'=>hK F' H' (k+1) ⟨om,h2⟩ om
  unfold kv at hgo;have d1:=CI hc hn hget;obtain⟨a1,a2⟩:=wr hc hget;have hle:=DW hc hget;have d2:=ov l hl.ile;have d3:=EA (eS c k).1 hle om;have d4:=Kk (l:=l) (t:=dq (eS c k).1) hl om;obtain⟨x1,x2⟩:=ic hl;have d5:=qj (cK l).2 om;have d6:=Kd c (atL l (dq (eS c k).1)) (-(cK l).2,(cK l).1) om hc a1 ⟨by show ht (-(cK l).2)≤1;rw [gq];exact x2,x1⟩;clear hK hc hRR hmm hget a1 a2 hle x1 x2;cases hb:(eS c k).2 with
  |true =>
   rw [hb,if_pos rfl]at hgo;rw [hb]at d1;subst hgo;unfold uE;simp only [jR,nu];simp only [cK]at d5 d6⊢;generalize atL l (dq (eS c k).1)=q at *;generalize dq (eS c k).1=t at *;generalize(eS c k).1=s at *;clear hnext hb;refine A2 ⟨?_⟩;intros;refine Wo (ae (cs':=lqx l) rfl rfl om om hat hne) ?_;repeat(first|(refine A1 ⟨?_⟩;intros)|refine W4 d1 ⟨?_⟩|refine W4 d2 ⟨?_⟩|refine W4 d3 ⟨?_⟩|refine W4 d4 ⟨?_⟩|refine W4 d5 ⟨?_⟩|refine W4 d6 ⟨?_⟩)
   exact G3
  |false =>
   rw [hb,if_neg (by decide)]at hgo;rw [hb]at d1;replace hnext:=hnext hgo;generalize(eS c k).1=s at *;clear d2 d3 d4 d5 d6 hb hgo;refine A2 ⟨?_⟩;intros;refine Wo (ae (cs':=lqx l) rfl rfl om om hat hne) ?_;refine D1 d1 ⟨?_⟩;intros;exact hnext _ _ lfA Sq
 ·have hke:k=c.length:=by omega
  subst hke;rw [fv]at hgo;have hR2:R=none:=hgo.symm;subst hR2;simp only [sD,nt];clear hK hc hgo;refine A2 ⟨?_⟩;intros;((first|refine db ?_|refine jc ?_);exact eJ (s1:=ag Ef) RVa (RV.tmp rfl) (Le.tup2 (Le.ag Eg) Lr))
theorem wx {c:List Li}{k:Nat}:(List.range (k+1)).foldl (fY c) []=fY c ((List.range k).foldl (fY c) []) k:=by
 rw [iQ,jB];rfl
theorem uY (c:List Li) (out:List Li) (k:Nat):fY c out k=if(eS c k).2=true then lU alt out (c.getD k ⟨0,0,0⟩)else out:=rfl
theorem yZ {c:List Li}{k:Nat}(hk:k≤c.length):∀y∈(List.range k).foldl (fY c) [],y∈c:=fun y hy=>by
 rcases(tF c (List.range k) [] y).1 hy with⟨i,hi,_,rfl⟩|h
 ·rw [dG]at hi;rw [List.getD,ax (show i<c.length by omega)];exact fC _
 ·cases h
theorem tG {c:List Li}:∀k:Nat,((List.range k).foldl (fY c) []).length≤k
 |0=>ar _
 |k+1=>by
  have:=tG (c:=c) k;rw [wx,uY];split
  ·have:=pA alt ((List.range k).foldl (fY c) []) (c.getD k ⟨0,0,0⟩);omega
  ·omega
theorem EI {c:List Li}(hc:∀m∈c,m.sm) (hn:c.length≤100000):Pu Tryz.prog 78 [lqs c] (Ab.tup [lqs (qI c),lit (.bool (decide (c=[]∨qI c≠[])))]):=by
 unfold qI;refine Pi Tryz.func78 fun C=>?_
 refine A2 ⟨?_⟩;intros
 refine WP.loopS (ι:=Nat) (fun k=>k≤c.length) (fun k=>c.length-k)
  (fun k=>fm [(0,lqs c),(4,lqs ((List.range k).foldl (fY c) [])),(10,lqs c),(11,lit (.int .i64 c.length)),(12,lit (.int .i64 k))])
  (fun _=>[]) 0 (ak _) (LeF.cons Lr (LeF.cons iC lfA)) (aF _) ?_
 rintro k hk K hK;by_cases hkl:k<c.length
 ·obtain⟨l,hget,hmm,hat,hne⟩:=elt ku om hkl;have hl:=hc l hmm;have hgo:=fun F' H' h1 h2=>hK F' H' (k+1) om om h1 h2
  rw [wx]at hgo;have hsm:∀q∈(List.range k).foldl (fY c) [],q.sm:=fun q hq=>hc q (yZ om q hq)
  have hsl:=tG (c:=c) k;have d1:=CI hc hn hget;rw [uY]at hgo;rw [show c.getD k ⟨0,0,0⟩=l by rw [List.getD,hget];rfl]at hgo;generalize(List.range k).foldl (fY c) []=out at *;have dl:=ov l hl.ile;clear hK hmm hget hc;cases hb:(eS c k).2 with
  |false =>
   rw [hb,if_neg (by decide)]at hgo;rw [hb]at d1;generalize(eS c k).1=s at *;clear hb dl hsm;refine A2 ⟨?_⟩;intros;refine Wo (ae (cs':=lqx l) rfl rfl om om hat hne) ?_;refine D1 d1 ⟨?_⟩;intros;exact hgo _ _ lfA Sq
  |true =>
   rw [hb,if_pos rfl]at hgo;rw [hb]at d1;generalize(eS c k).1=s at *;clear hb;obtain⟨x,hx⟩:∃x,x=l:=⟨l,rfl⟩
   rw [←hx]at hgo;refine A2 ⟨?_⟩;intros;refine Wo (ae (cs':=lqx l) rfl rfl om om hat hne) ?_;refine D1 d1 ⟨?_⟩;intros;rename_i b6 b7;subst hx;refine WP.loopS (ι:=Nat) (fun j=>j≤lQ alt out x) (fun j=>out.length-j) (fun j=>fm [(4,sl (out.map lqx).flatten out.length),(9,lit (.int .i64 j)),(0,lqs c),(5,lit (.int .i64 k)),(6,lit (.pointer (some ⟨b6,0,none⟩))),(7,lit (.pointer (some ⟨b7,0,none⟩))),(10,lqs c),(11,lit (.int .i64 c.length)),(12,lit (.int .i64 k))]) (fun _=>[(b7,202,spx s),(b6,76,lqx x)]) 0 (ak _) lfA Sr ?_;rintro j hj K2 hK2;have hpl:=rU alt out x;obtain⟨hfl,hdl,htl,hpl2,hins,hln⟩:=OK ku out x j om;by_cases hjl:j<out.length
   ·obtain⟨o,hget2,hom,hat2,hne2⟩:=elt ku om hjl;have ho:=hsm o hom;obtain⟨z,hzz⟩:∃z,z=w5 (cK o) (cK x):=⟨_,rfl⟩
    have do':=ov o ho.ile;have hdo:=ic ho;have hdx:=ic hl;have ca:=Ib (cK o) (cK x) ⟨by have:=hdo.1;omega,by have:=hdo.2;omega⟩ ⟨by have:=hdx.1;omega,by have:=hdx.2;omega⟩;have cc:=xS (l:=o) (m:=x) ho.ile hl.ile;have hlt:alt o x=decide (z<0):=by rw [hzz]
    have heq:rl o x=0↔o=x:=lX;generalize rl o x=y at *;rw [←hzz]at ca;simp only [cK]at do' dl ca;obtain⟨s1,s2⟩:=rT (lt:=alt) (x:=x) hj hget2;rw [hlt]at s1 s2;by_cases hneg:z<0
    ·have hj1:=s1 (a9 hneg);clear hgo s1 s2
     as_aux_lemma =>
      refine A2 ⟨?_⟩;intros;refine fO (ae (cs':=lqx o) rfl rfl om om hat2 hne2) ?_;refine D4 do' dl ca cc ⟨?_⟩;intros;exact hK2 _ _ (j+1) hj1 om lfA Sr
    ·have hje:=s2 (ab hneg);clear hK2 s1 s2;by_cases hz:o=x
     ·rw [wT hje hget2 hz]at hgo;have hz0:=heq.2 hz;clear heq
      as_aux_lemma =>
       refine A2 ⟨?_⟩;intros;refine fO (ae (cs':=lqx o) rfl rfl om om hat2 hne2) ?_;refine D4 do' dl ca cc ⟨?_⟩;intros;refine fO (ae (cs':=lqx o) rfl rfl om om hat2 hne2) ?_;refine D4 do' dl ca cc ⟨?_⟩;intros;exact hgo _ _ lfA Sq
     ·rw [wU hje hget2 hz]at hgo;have hz0:¬y=0:=fun e=>hz (heq.1 e)
      clear heq
      as_aux_lemma =>
       refine A2 ⟨?_⟩;intros;refine fO (ae (cs':=lqx o) rfl rfl om om hat2 hne2) ?_;refine D4 do' dl ca cc ⟨?_⟩;intros;refine fO (ae (cs':=lqx o) rfl rfl om om hat2 hne2) ?_;refine D4 do' dl ca cc ⟨?_⟩;intros;refine Wdo (m9 j rfl rfl rfl rfl rfl hfl om) ?_;repeat(first|(refine Wdo (nY (s:=ag (lqx x)) (ds:=lqx x) rfl inferInstance) ?_)|(refine Wdo (l8 j rfl rfl rfl hfl om) ?_)|(refine A1 ⟨?_⟩;intros))
       refine Wdo (cg (k:=1) (k0:=out.length-j) rfl rfl rfl hdl om) ?_;refine Wdo (cg (k:=j) (k0:=1+(out.length-j)) rfl rfl htl hpl2 om) ?_;rw [hins,hln];refine A2 ⟨?_⟩;intros;exact hgo _ _ lfA Sq
   ·have hje:j=out.length:=by omega
    rw [uC hje hj]at hgo;clear hK2
    as_aux_lemma =>
     refine A2 ⟨?_⟩;intros;refine Wdo (m9 j rfl rfl rfl rfl rfl hfl om) ?_;repeat(first|(refine Wdo (nY (s:=ag (lqx x)) (ds:=lqx x) rfl inferInstance) ?_)|(refine Wdo (l8 j rfl rfl rfl hfl om) ?_)|(refine A1 ⟨?_⟩;intros))
     refine Wdo (cg (k:=1) (k0:=out.length-j) rfl rfl rfl hdl om) ?_;refine Wdo (cg (k:=j) (k0:=1+(out.length-j)) rfl rfl htl hpl2 om) ?_;rw [hins,hln];refine A2 ⟨?_⟩;intros;exact hgo _ _ lfA Sq
 ·have hke:k=c.length:=by omega
  subst hke;clear hK;generalize(List.range c.length).foldl (fY c) []=out at *;cases c with
  |nil =>
   simp only [kD,np];refine A2 ⟨?_⟩;intros;exact G2
  |cons a c =>
   simp only [List.cons_ne_nil,jy];cases out with
   |nil =>
    simp only [ne_eq,n6,lE];refine A2 ⟨?_⟩;intros;exact G2
   |cons b out =>
    have hbl:(b::out).length=out.length+1:=rfl;simp only [ne_eq,List.cons_ne_nil,not_false_eq_true,np];refine A2 ⟨?_⟩;intros;exact G2
abbrev lT:TypeId:=76
abbrev pT:TypeId:=96
theorem vA (c:List Li) (l:Li):((c++[l]).map lqx).flatten=(c.map lqx).flatten++lqx l:=by
 rw [aB,cS];simp
theorem rK {c:List Li}{l:Li}(hc:∀m∈c,m.sm) (hl:l.sm):∀m∈c++[l],m.sm:=fun m hm=>by
 rcases az.1 hm with h|h
 ·exact hc m h
 ·rw [au.1 h];exact hl
theorem vM (c:List Li):((c.map lqx).flatten).length=c.length*6:=fM ku c
theorem tX {c:List Li}{l:Li}(hc:∀m∈c,m.sm) (hl:l.sm) (hn:c.length≤90000):Pu Tryz.prog 53 [lqs c,lq l] (lqs (fK c l)):=by
 have d1:=EI (rK hc hl) (by rw [ac,bh];omega)
 have hsl:lqs (c++[l])=sl ((c.map lqx).flatten++lqx l) (c.length+1):=by
  show sl ((c++[l]).map lqx).flatten (c++[l]).length=_
  rw [vA,ac,bh]
 rw [hsl]at d1;show Pu _ _ _ (lqs (qI (c++[l])))
 generalize qI (c++[l])=q at *;generalize decide (c++[l]=[]∨q≠[])=bb at *;have hfl:=vM c;by_cases h0:c=[]
 ·subst h0;clear hsl hc hl;refine Pi Tryz.func53 fun C=>?_
  repeat(first|(refine AS ⟨?_⟩;intros)|(refine O1 ⟨?_⟩;intros))
  repeat(first|(refine Wo (rW) ?_)|(refine Wdo (rW) ?_)|(refine Wo (pf rfl rfl) ?_)|(refine Wdo (pf rfl rfl) ?_)|(refine Wo (ee (r:=[(0,lqx l)]) (cs:=lqx l) (.cons (sv:=ag (lqx l)) rfl inferInstance .nil)) ?_)|(refine Wdo (ee (r:=[(0,lqx l)]) (cs:=lqx l) (.cons (sv:=ag (lqx l)) rfl inferInstance .nil)) ?_)|(refine Wo (cg (k:=0) (k0:=1) (ds:=lqx l) rfl rfl rfl rfl om) ?_)|(refine Wdo (cg (k:=0) (k0:=1) (ds:=lqx l) rfl rfl rfl rfl om) ?_)|(refine A1 ⟨?_⟩;intros)|refine W4 d1 ⟨?_⟩)
  exact E1
 ·have hpos:=ez.2 h0;clear hsl hc hl h0;refine Pi Tryz.func53 fun C=>?_
  repeat(first|(refine AS ⟨?_⟩;intros)|(refine O1 ⟨?_⟩;intros))
  rename_i b3;refine Re 12 [0,1,3,4,2,5,6,7,8,9,10,11] [5] 2 10 (fun sv X=>Own lT 6 c.length (c.map lqx).flatten sv X) [] _ ?_;refine YkD 4 ?_;repeat(first|(refine Wo (oA) ?_)|(refine Wdo (oA) ?_)|(refine Wo (ee (r:=[(0,lqx l)]) (cs:=lqx l) (.cons (sv:=ag (lqx l)) rfl inferInstance .nil)) ?_)|(refine Wdo (ee (r:=[(0,lqx l)]) (cs:=lqx l) (.cons (sv:=ag (lqx l)) rfl inferInstance .nil)) ?_)|(refine A1 ⟨?_⟩;intros))
  refine EY ?_;refine SE rfl rfl rfl hfl om om ?_ (hyx:=fun h=>by cases h);refine SF rfl om (fun sv=>?_) rfl (hyx:=fun h=>by cases h);refine YkD 6 ?_;refine D1 d1 ⟨?_⟩;intros;refine EY ?_;refine Rd ?_;exact Z1
abbrev Rh:List SV:=Ef
theorem zW {c:List Li}{l:Li}(hc:∀m∈c,m.sm) (hl:l.sm) (hn:c.length≤90000):Pu Tryz.prog 51 [lqs c,lq l] (lit (.int .i64 (mB c l))):=by
 have d1:=vG (rK hc hl) (by rw [ac,bh];omega);have d2:=vG (rK hc hl.neg) (by rw [ac,bh];omega);have d3:=u5 l hl.ile
 have hsl:∀m:Li,lqs (c++[m])=sl ((c.map lqx).flatten++lqx m) (c.length+1):=fun m=>by
  show sl ((c++[m]).map lqx).flatten (c++[m]).length=_
  rw [vA,ac,bh]
 rw [hsl]at d1 d2;unfold mB;generalize fF (c++[l])=q1 at *;generalize fF (c++[l.neg])=q2 at *;generalize q1.getD (0,0)=p1 at *;generalize q2.getD (0,0)=p2 at *;generalize q1.isSome=s1 at *;generalize q2.isSome=s2 at *;have hfl:=vM c;by_cases h0:c=[]
 ·subst h0;clear hsl hc hl;cases s1 <;> cases s2
  all_goals
   simp only [bJ,aQ,aV];refine Pi Tryz.func51 fun C=>?_
   repeat(first|(refine AS ⟨?_⟩;intros)|(refine O1 ⟨?_⟩;intros))
   repeat(first|(refine Wo (rW) ?_)|(refine Wdo (rW) ?_)|(refine Wo (pf rfl rfl) ?_)|(refine Wdo (pf rfl rfl) ?_)|(refine Wo (ee (r:=[(0,lqx l)]) (cs:=lqx l) (.cons (sv:=ag (lqx l)) rfl inferInstance .nil)) ?_)|(refine Wdo (ee (r:=[(0,lqx l)]) (cs:=lqx l) (.cons (sv:=ag (lqx l)) rfl inferInstance .nil)) ?_)|(refine Wo (ee (r:=[(0,lqx l.neg)]) (cs:=lqx l.neg) (.cons (sv:=ag (lqx l.neg)) rfl inferInstance .nil)) ?_)|(refine Wdo (ee (r:=[(0,lqx l.neg)]) (cs:=lqx l.neg) (.cons (sv:=ag (lqx l.neg)) rfl inferInstance .nil)) ?_)|(refine Wo (cg (k:=0) (k0:=1) (ds:=lqx l) rfl rfl rfl rfl om) ?_)|(refine Wdo (cg (k:=0) (k0:=1) (ds:=lqx l) rfl rfl rfl rfl om) ?_)|(refine Wo (cg (k:=0) (k0:=1) (ds:=lqx l.neg) rfl rfl rfl rfl om) ?_)|(refine Wdo (cg (k:=0) (k0:=1) (ds:=lqx l.neg) rfl rfl rfl rfl om) ?_)|(refine A1 ⟨?_⟩;intros)|refine W4 d1 ⟨?_⟩|refine W4 d2 ⟨?_⟩|refine W4 d3 ⟨?_⟩)
   exact E1
 ·have hpos:=ez.2 h0;clear hsl hc hl h0;cases s1 <;> cases s2
  all_goals
   simp only [bJ,aQ,aV];refine Pi Tryz.func51 fun C=>?_
   repeat(first|(refine AS ⟨?_⟩;intros)|(refine O1 ⟨?_⟩;intros))
   rename_i b3;refine Re 12 [10,0,1,3,4,2,5,6,7,8,9,11] [2,5,11] 10 5 (fun sv X=>∃b,sv=lit (.pointer (some ⟨b,0,none⟩))∧X=[(b,pT,Rh)]) [] _ ?_;refine RZ rfl ?_;refine YkD 4 ?_;repeat(first|(refine Wo (oA) ?_)|(refine Wdo (oA) ?_)|(refine Wo (ee (r:=[(0,lqx l)]) (cs:=lqx l) (.cons (sv:=ag (lqx l)) rfl inferInstance .nil)) ?_)|(refine Wdo (ee (r:=[(0,lqx l)]) (cs:=lqx l) (.cons (sv:=ag (lqx l)) rfl inferInstance .nil)) ?_)|(refine A1 ⟨?_⟩;intros))
   refine EY ?_;refine YkE rfl rfl hfl om om (fun s' H' hown=>?_) (hyx:=fun h=>by cases h);refine YkP hown om ?_;refine YkD 4 ?_;refine D1 d1 ⟨?_⟩;intros;refine EY ?_;refine S0 (sv:=ag (rpx p1)) (ds:=rpx p1) rfl (fun b5=>?_) rfl (hvx:=fun h=>by cases h);refine Rd ?_;repeat(first|(refine AS ⟨?_⟩;intros)|(refine O1 ⟨?_⟩;intros))
   refine Re 13 [11,0,1,3,2,4,5,6,7,8,9,10,12] [2,6,12] 11 7 (fun sv X=>∃b,sv=lit (.pointer (some ⟨b,0,none⟩))∧X=[(b,pT,Rh)]) [] _ ?_;refine RZ rfl ?_;refine YkD 3 ?_;repeat(first|(refine Wo (oA) ?_)|(refine Wdo (oA) ?_)|(refine A1 ⟨?_⟩;intros))
   refine EY ?_;refine YkE rfl rfl hfl om om (fun s' H' hown=>?_) (hyx:=fun h=>by cases h);refine YkD 2 ?_;repeat(first|(refine Wo (ee (r:=[(0,lqx l.neg)]) (cs:=lqx l.neg) (.cons (sv:=ag (lqx l.neg)) rfl inferInstance .nil)) ?_)|(refine Wdo (ee (r:=[(0,lqx l.neg)]) (cs:=lqx l.neg) (.cons (sv:=ag (lqx l.neg)) rfl inferInstance .nil)) ?_)|(refine A1 ⟨?_⟩;intros)|refine W4 d3 ⟨?_⟩)
   refine EY ?_;refine YkP hown om ?_;refine YkD 4 ?_;refine D1 d2 ⟨?_⟩;intros;refine EY ?_;refine S0 (sv:=ag (rpx p2)) (ds:=rpx p2) rfl (fun b7=>?_) rfl (hvx:=fun h=>by cases h);refine Rd ?_;exact Y1 d1
theorem CC (l:Li) (a b:Tr) (hl:l.le 1000000):Pu Tryz.prog 52 [lq l,rt a,rt b] (rt (mu l a b)):=by
 cases a with
 |leaf i =>
  cases b with
  |leaf j =>
   show Pu _ _ _ (rt (if i=j then .leaf i else .node l (.leaf i) (.leaf j)))
   cases i <;> cases j
   all_goals
    first|rw [if_pos rfl]|rw [if_neg (by decide)]
    simp only [rt,oz,m8]at *;refine Pi Tryz.func52 fun C=>?_
    repeat(first|(refine Wo (cQ (sv:=ag _) rfl) ?_)|(refine Wdo (cQ (sv:=ag _) rfl) ?_)|(refine A1 ⟨?_⟩;intros))
    exact E1
  |node m x y =>
   show Pu _ _ _ (rt (.node l (.leaf i) (.node m x y)))
   simp only [rt,oz,m8]at *;refine Pi Tryz.func52 fun C=>?_
   repeat(first|(refine Wo (cQ (sv:=ag _) rfl) ?_)|(refine Wdo (cQ (sv:=ag _) rfl) ?_)|(refine A1 ⟨?_⟩;intros))
   exact E1
 |node m x y =>
  show Pu _ _ _ (rt (.node l (.node m x y) b))
  simp only [rt,oz,m8]at *;refine Pi Tryz.func52 fun C=>?_
  repeat(first|(refine Wo (cQ (sv:=ag _) rfl) ?_)|(refine Wdo (cQ (sv:=ag _) rfl) ?_)|(refine A1 ⟨?_⟩;intros))
  exact E1
theorem tN {c:List Li}{l:Li}(hc:∀m∈c,m.sm) (hl:l.sm):∀m∈fK c l,m.sm:=fun m hm =>
 rK hc hl m (yZ (ar _) m hm)
theorem rH (c:List Li) (l:Li):(fK c l).length≤c.length+1:=by
 exact aO (tG (c:=c++[l]) (c++[l]).length) (by simp)
theorem nf:∀(t:Tr) (c:List Li),(t.all fun l=>l.sm)→(∀m∈c,m.sm)→c.length+fg t≤90000→Pu Tryz.prog 50 [rt t,lqs c] (rt (dt t c))
 | .leaf i,c,_,_,_=>by
  show Pu _ _ _ (rt (.leaf i))
  simp only [rt,oz]at *;refine Pi Tryz.func50 fun C=>?_
  exact Z1
 | .node l a b,c,hall,hc,hd=>by
  have hd':c.length+(1+max (fg a) (fg b))≤90000:=hd;have p0:=zW hc hall.1 om;have d3:=nf a c hall.2.1 hc om;have d4:=nf b c hall.2.2 hc om;have n1:=rH c l;have n2:=rH c l.neg;have w1:=tX hc hall.1 om;have w2:=tX hc hall.1.neg om;have d0:=u5 l hall.1.ile;have d5:=nf a (fK c l) hall.2.1 (tN hc hall.1) om;have d6:=nf b (fK c l.neg) hall.2.2 (tN hc hall.1.neg) om;have d7:=CC l (dt a (fK c l)) (dt b (fK c l.neg)) hall.1.ile;unfold dt;clear hd hd' n1 n2 hc hall;generalize dt a c=ra at *;generalize dt b c=rb at *;generalize dt a (fK c l)=ra' at *;generalize dt b (fK c l.neg)=rb' at *;generalize mu l ra' rb'=rj at *;generalize fK c l=c1 at *;generalize fK c l.neg=c2 at *;have en:rt (.node l a b)=pt (rc (.node l a b)):=rfl;rw [en,m8];clear en;generalize mB c l=z at *;by_cases h1:z=1
  ·rw [if_pos h1];refine Pi Tryz.func50 fun C=>?_
   exact Y2 p0 d3
  ·rw [if_neg h1];by_cases h2:z = -1
   ·rw [if_pos h2];refine Pi Tryz.func50 fun C=>?_
    exact Y2 p0 d4
   ·rw [if_neg h2];refine Pi Tryz.func50 fun C=>?_
    repeat(first|(refine A1 ⟨?_⟩;intros)|refine W4 p0 ⟨?_⟩|refine W4 w1 ⟨?_⟩|refine W4 d0 ⟨?_⟩|refine W4 w2 ⟨?_⟩|refine W4 d5 ⟨?_⟩|refine W4 d6 ⟨?_⟩|refine W4 d7 ⟨?_⟩)
    exact E1
theorem u9:∀t:Tr,(t.all fun l=>l.sm)→Pu Tryz.prog 29 [rt t] (rt (lS t))
 | .leaf i,_=>by
  have c:=gz (!i);show Pu _ _ _ (rt (.leaf (!i)))
  have en:rt (.leaf i)=pt (rc (.leaf i)):=rfl;rw [en,oz];refine Pi Tryz.func29 fun C=>?_
  exact Y1 c
 | .node l a b,h=>by
  have c1:=u9 a h.2.1;have c2:=u9 b h.2.2;show Pu _ _ _ (rt (.node l (lS a) (lS b)))
  have en:rt (.node l a b)=pt (rc (.node l a b)):=rfl;rw [en,m8];generalize lS a=na at *;generalize lS b=nb at *;clear h en;refine Pi Tryz.func29 fun C=>?_
  repeat(first|(refine Wo (cQ (sv:=ag _) rfl) ?_)|(refine Wdo (cQ (sv:=ag _) rfl) ?_)|(refine A1 ⟨?_⟩;intros)|refine W4 c1 ⟨?_⟩|refine W4 c2 ⟨?_⟩)
  exact E1
theorem qi (t:Tr) (h:t.all fun l=>l.sm) (hd:fg t≤90000):Pu Tryz.prog 25 [rt t] (rt (dt t [])):=by
 have c:=nf t [] h (fun m h=>by cases h) (by simpa using hd);have c':=c.arg (l':=[rt t,lit (.slice none 0 0)]) ⟨Le.refl _,iC,trivial⟩;clear c h hd;refine Pi Tryz.func25 fun C=>?_
 exact Y1 c'
end Go.Ab
