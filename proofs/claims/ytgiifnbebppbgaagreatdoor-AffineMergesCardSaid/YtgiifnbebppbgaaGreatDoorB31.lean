/- Texts laid one behind the other: GwE, GwF, GwG. -/
import Derived.Test.YtgiifnbebppbgaaGreatDoorB20
import Derived.Test.YtgiifnbebppbgaaGreatDoorB21
import Derived.Test.YtgiifnbebppbgaaGreatDoorZipA
import Derived.Test.YtgiifnbebppbgaaGreatDoorB16
import Derived.Test.YtgiifnbebppbgaaGreatDoorB27
set_option linter.unusedSectionVars false
set_option linter.unusedVariables false
set_option linter.unusedSimpArgs false
namespace Go.Ab
open Go.Proofs
variable [Base]
theorem rsample_pu (s:Spn){n:Nat}(h:s.le n) (hn:n≤10000):Pu Tryz.prog 230 [ag (spx s)] (rq (sampleS s)):=by
 obtain⟨lo,hi,nl,nh⟩:=s
 obtain⟨h1,h2⟩:=h
 simp only at h1 h2
 have:=ht_one
 have c1:=rqsub_pu hi 1 (by omega) (by omega)
 have c2:=rplus_pu lo 1 (by omega) (by omega)
 have c3:=rmid_pu lo hi (by omega) (by omega)
 unfold sampleS
 cases nl <;> cases nh
 rotate_left 3
 ·simp only [Bool.and_self,if_true]
  refine Pu.intro Tryz.func230 rfl (by kernel_rfl) fun C=>?_
  repeat(first|(refine A1 ⟨?_⟩;intros)|refine W4 rof1 ⟨?_⟩|refine W4 c1 ⟨?_⟩|refine W4 c2 ⟨?_⟩|refine W4 c3 ⟨?_⟩)
  ((first|refine endR ?_|refine endN ?_);refine end1 RVa ?_)
  exact Le.ag ⟨Le.refl _,leN0,leD0,trivial⟩
 all_goals
  simp only [Bool.and_true,Bool.and_false,Bool.true_and,Bool.false_and,Bool.and_self,Bool.false_eq_true,if_true,if_false]
  refine Pu.intro Tryz.func230 rfl (by kernel_rfl) fun C=>?_
  repeat(first|(refine A1 ⟨?_⟩;intros)|refine W4 rof1 ⟨?_⟩|refine W4 c1 ⟨?_⟩|refine W4 c2 ⟨?_⟩|refine W4 c3 ⟨?_⟩)
  ((first|refine endR ?_|refine endN ?_);refine end1 RVa (Le.refl _))
theorem edgeStep_le {l m:Li}{s:Spn}(hl:l.sm) (hm:m.sm) (h:s.le 46):(edgeStep l m s).le 46:=by
 have h1:=meetP_ht hl hm
 have h2:=parL_ht hl h1
 obtain⟨h3,h4⟩:=h
 unfold edgeStep
 split
 ·split
  ·exact⟨by simp only;omega,h4⟩
  ·exact⟨h3,h4⟩
 ·split
  ·exact⟨h3,by simp only;omega⟩
  ·exact⟨h3,h4⟩
theorem edgeGo_le {l:Li}(hl:l.sm) (i:Nat):∀(c:List Li) (k:Nat) (s:Spn),(∀m∈c,m.sm)→s.le 46→(edgeGo l i k c s).1.le 46
 | [],_,_,_,h=>h
 |m::c,k,s,hc,h=>by
  have hm:=hc m List.mem_cons_self
  have hr:∀m∈c,m.sm:=fun x hx=>hc x (List.mem_cons_of_mem _ hx)
  unfold edgeGo
  split
  ·exact edgeGo_le hl i c _ _ hr h
  ·split
   ·split
    ·exact edgeGo_le hl i c _ _ hr h
    ·exact h
   ·split
    ·exact edgeStep_le hl hm h
    ·exact edgeGo_le hl i c _ _ hr (edgeStep_le hl hm h)
theorem full_le46:Spn.full.le 46:=⟨by have:=ht_zero;show ht 0≤46;omega,by have:=ht_zero;show ht 0≤46;omega⟩
theorem edgeC_le {c:List Li}{i:Nat}{l:Li}(hc:∀m∈c,m.sm) (hi:c[i]? = some l):(edgeC c i).1.le 46:=by
 unfold edgeC
 rw [List.getD,hi]
 exact edgeGo_le (hc l (List.mem_of_getElem? hi)) i c 0 _ hc full_le46
abbrev zspx:List SV:=[lit (.bool false),lit (.slice none 0 0),lit (.slice none 0 0),lit (.bool false),lit (.slice none 0 0),lit (.slice none 0 0),lit (.bool false),lit (.bool false)]
set_option maxHeartbeats 8000000 in
theorem redge_pu {c:List Li}{i:Nat}{l:Li}(hc:∀m∈c,m.sm) (hn:c.length≤100000) (hi:c[i]? = some l):Pu Tryz.prog 228 [lqs c,lit (.int .i64 i)] (Ab.tup [ag (spx (edgeC c i).1),lit (.bool (edgeC c i).2)]):=by
 have hl:=hc l (List.mem_of_getElem? hi)
 have hil:=(List.getElem?_eq_some_iff.1 hi).1
 have hat0:=flat_at (f:=lqx) (n:=6) lqx_len hi
 have hne0:(c.map lqx).flatten≠[]:=flat_ne lqx_len (by omega) (fun e=>by rw [e]at hil;simp at hil)
 have hR:edgeC c i=edgeGo l i 0 c Spn.full:=by unfold edgeC;rw [List.getD,hi];rfl
 generalize edgeC c i=R at *
 refine Pu.intro Tryz.func228 rfl (by kernel_rfl) fun C=>?_
 repeat(refine A1 ⟨?_⟩;intros)
 rename_i b4
 refine Wo (ov_idxS (cs':=lqx l) rfl rfl (by omega) (by omega) hat0 hne0) ?_
 repeat(first|(refine A1 ⟨?_⟩;intros)|refine W4 rfull_pu ⟨?_⟩)
 rename_i b6 b7
 refine WP.loopS (ι:=Nat×Spn) (fun y=>y.1≤c.length∧y.2.le 46∧edgeGo l i y.1 (c.drop y.1) y.2=R) (fun y=>c.length-y.1)
  (fun y=>fm [(1,lit (.int .i64 i)),(4,lit (.pointer (some ⟨b4,0,none⟩))),(6,lit (.pointer (some ⟨b6,0,none⟩))),(7,lit (.pointer (some ⟨b7,0,none⟩))),(18,lqs c),(19,lit (.int .i64 c.length)),(20,lit (.int .i64 y.1))])
  (fun y=>[(b7,220,spx y.2),(b6,71,lqx l),(b4,220,zspx)]) (0,Spn.full) ⟨Nat.zero_le _,full_le46,by rw [List.drop_zero];exact hR.symm⟩ lfA (List.Sublist.refl _) ?_
 rintro ⟨k,s⟩ ⟨hk,hs,hgo⟩ K hK
 simp only at hk hs hgo⊢
 by_cases hkl:k<c.length
 ·obtain⟨m,hget,hmm,hat,hne⟩:=elt lqx_len (by omega) hkl
  have hm:=hc m hmm
  rw [drop_at hget]at hgo
  have hnext:=fun s' (h1:s'.le 46) (h2:edgeGo l i (k+1) (c.drop (k+1)) s'=R) F' H'=>hK F' H' (k+1,s') ⟨by simp only;omega,h1,h2⟩ (by simp only;omega)
  unfold edgeGo at hgo
  have d1:=rcmpL_pu (l:=l) (m:=m) hl.ile hm.ile
  have d2:=rmeet_pu hl hm
  have hsl:=edgeStep_le hl hm hs
  have hmt:=meetP_ht hl hm
  have hpt:=parL_ht hl hmt
  clear hK hc hi hat0 hne0 hget hmm
  by_cases h1:k=i
  ·subst h1
   rw [if_pos (.inl rfl)]at hgo
   replace hnext:=hnext s hs hgo
   clear hgo hsl hmt hpt d2
   repeat(refine A1 ⟨?_⟩;intros)
   refine Wo (ov_idxS (cs':=lqx m) rfl rfl (by omega) (by omega) hat hne) ?_
   repeat(first|(refine A1 ⟨?_⟩;intros)|refine W4 d1 ⟨?_⟩)
   exact hnext _ _ lfA (by repeat(first|exact List.Sublist.refl _|refine List.Sublist.cons _ ?_))
  by_cases h2:cmpL l m=0
  ·rw [if_pos (.inr h2)]at hgo
   replace hnext:=hnext s hs hgo
   rw [h2]at d1
   clear hgo hsl hmt hpt d2
   repeat(refine A1 ⟨?_⟩;intros)
   refine Wo (ov_idxS (cs':=lqx m) rfl rfl (by omega) (by omega) hat hne) ?_
   repeat(first|(refine A1 ⟨?_⟩;intros)|refine W4 d1 ⟨?_⟩)
   exact hnext _ _ lfA (by repeat(first|exact List.Sublist.refl _|refine List.Sublist.cons _ ?_))
  rw [if_neg (fun h=>h.elim h1 h2)]at hgo
  generalize cmpL l m=z0 at *
  by_cases h3:detL l m=0
  ·rw [if_pos h3]at hgo
   unfold meetL at d2
   rw [if_pos h3]at d2
   obtain⟨q1,q2⟩:=baseL_ht hl
   have d3:=rbase_pu hl.1 hl.2
   have d4:=rside_pu (l:=m) (p:=baseL l) hm ⟨by omega,by omega⟩
   simp only [Option.getD_none,Option.isSome_none]at d2
   clear hsl hmt hpt q1 q2
   have e4:ag (rpx (baseL l))=rp (l.bf*l.a) (l.bf*l.b):=rfl
   rw [e4]at d4
   clear e4
   generalize sideL m (baseL l)=z1 at *
   by_cases h4:0<z1
   ·rw [if_pos h4]at hgo
    replace hnext:=hnext s hs hgo
    clear hgo
    repeat(refine A1 ⟨?_⟩;intros)
    refine Wo (ov_idxS (cs':=lqx m) rfl rfl (by omega) (by omega) hat hne) ?_
    repeat(first|(refine A1 ⟨?_⟩;intros)|refine W4 d1 ⟨?_⟩|refine W4 d2 ⟨?_⟩|refine W4 d3 ⟨?_⟩|refine W4 d4 ⟨?_⟩)
    exact hnext _ _ lfA (by repeat(first|exact List.Sublist.refl _|refine List.Sublist.cons _ ?_))
   ·rw [if_neg h4]at hgo
    subst hgo
    clear hnext
    repeat(refine A1 ⟨?_⟩;intros)
    refine Wo (ov_idxS (cs':=lqx m) rfl rfl (by omega) (by omega) hat hne) ?_
    repeat(first|(refine A1 ⟨?_⟩;intros)|refine W4 d1 ⟨?_⟩|refine W4 d2 ⟨?_⟩|refine W4 d3 ⟨?_⟩|refine W4 d4 ⟨?_⟩)
    ((first|refine endR ?_|refine endN ?_);exact end2 RVa (RV.tmp rfl) (Le.refl _))
  rw [if_neg h3]at hgo
  unfold meetL at d2
  rw [if_neg h3]at d2
  simp only [Option.getD_some,Option.isSome_some]at d2
  have d3:=rparam_pu (l:=l) (p:=meetP l m) hl ⟨by have:=hmt.1;omega,by have:=hmt.2;omega⟩
  have d4:=rdir_pu m hm.ile
  have d5:=rdir_pu l hl.ile
  obtain⟨x1,x2⟩:=dirL_ht hm
  obtain⟨y1,y2⟩:=dirL_ht hl
  have d6:=rcross_pu (dirL m).1 (dirL m).2 (dirL l).1 (dirL l).2 (by omega) (by omega) (by omega) (by omega)
  have hx:=crossP_ht (dirL_ht hm) (dirL_ht hl)
  have d7:=rs_pu (crossP (dirL m) (dirL l)) (by omega)
  rw [show(dirL m).1*(dirL l).2-(dirL m).2*(dirL l).1=crossP (dirL m) (dirL l)from rfl]at d6
  obtain⟨hs1,hs2⟩:=hs
  have d8:=rc_pu (parL l (meetP l m)) s.lo (by omega) (by omega)
  have d9:=rc_pu (parL l (meetP l m)) s.hi (by omega) (by omega)
  have hbad:∀u:Spn,spBad u=(!u.nl && !u.nh&&decide (0≤(u.lo-u.hi).num.sign)):=fun _=>rfl
  have hst:(if 0<(crossP (dirL m) (dirL l)).num.sign then(if s.nl=true∨0<(parL l (meetP l m)-s.lo).num.sign then⟨parL l (meetP l m),s.hi,false,s.nh⟩else s)
   else if s.nh=true∨(parL l (meetP l m)-s.hi).num.sign<0 then⟨s.lo,parL l (meetP l m),s.nl,false⟩else s)=edgeStep l m s:=rfl
  generalize edgeStep l m s=S at *
  obtain⟨hS1,hS2⟩:=hsl
  have e1:=rc_pu S.lo S.hi (by omega) (by omega)
  generalize meetP l m=mp at *
  generalize parL l mp=t at *
  generalize(crossP (dirL m) (dirL l)).num.sign=zc at *
  generalize crossP (dirL m) (dirL l)=cx at *
  simp only [dirL]at d6
  generalize(t-s.lo).num.sign=z5 at *
  generalize(t-s.hi).num.sign=z6 at *
  obtain⟨lo,hi',nl,nh⟩:=s
  obtain⟨lo2,hi2,nl2,nh2⟩:=S
  simp only at d8 d9 hst e1 hs1 hs2 hS1 hS2
  rw [hbad]at hgo
  simp only at hgo
  clear hbad
  generalize(lo2-hi2).num.sign=z7 at *
  replace hnext:=hnext ⟨lo2,hi2,nl2,nh2⟩ ⟨hS1,hS2⟩
  clear x1 x2 y1 y2 hx hmt hpt h3 hs1 hs2 hS1 hS2
  repeat(refine A1 ⟨?_⟩;intros)
  refine Wo (ov_idxS (cs':=lqx m) rfl rfl (by omega) (by omega) hat hne) ?_
  repeat(first|(refine A1 ⟨?_⟩;intros)|refine W4 d1 ⟨?_⟩|refine W4 d2 ⟨?_⟩|refine W4 d3 ⟨?_⟩|refine W4 d4 ⟨?_⟩|refine W4 d5 ⟨?_⟩|refine W4 d6 ⟨?_⟩|refine W4 d7 ⟨?_⟩)
  refine WP.via (fun F' H'=>LeF F' (fm [(1,lit (.int .i64 i)),(4,lit (.pointer (some ⟨b4,0,none⟩))),(6,lit (.pointer (some ⟨b6,0,none⟩))),(7,lit (.pointer (some ⟨b7,0,none⟩))),(18,lqs c),(19,lit (.int .i64 c.length)),(20,lit (.int .i64 k))])∧[(b7,220,spx ⟨lo2,hi2,nl2,nh2⟩),(b6,71,lqx l),(b4,220,zspx)].Sublist H') ?_ ?_
  ·clear hgo hnext e1 d1 d2 d3 d4 d5 d6 d7
   refine WPd (fun h4=>?_) (fun h4=>?_)
   ·rw [if_pos h4]at hst
    by_cases h5:nl=true
    ·subst h5
     rw [if_pos (.inl rfl)]at hst
     cases hst
     repeat(first|(refine A1 ⟨?_⟩;intros)|refine W4 d8 ⟨?_⟩)
     exact⟨lfA,by repeat(first|exact List.Sublist.refl _|refine List.Sublist.cons _ ?_)⟩
    ·have h5:nl=false:=by cases nl;rfl;exact absurd rfl h5
     subst h5
     by_cases h6:0<z5
     ·rw [if_pos (.inr h6)]at hst
      cases hst
      repeat(first|(refine A1 ⟨?_⟩;intros)|refine W4 d8 ⟨?_⟩)
      exact⟨lfA,by repeat(first|exact List.Sublist.refl _|refine List.Sublist.cons _ ?_)⟩
     ·rw [if_neg (fun h=>h.elim (fun h=>by cases h) h6)]at hst
      cases hst
      repeat(first|(refine A1 ⟨?_⟩;intros)|refine W4 d8 ⟨?_⟩)
      exact⟨lfA,by repeat(first|exact List.Sublist.refl _|refine List.Sublist.cons _ ?_)⟩
   ·rw [if_neg h4]at hst
    by_cases h5:nh=true
    ·subst h5
     rw [if_pos (.inl rfl)]at hst
     cases hst
     repeat(first|(refine A1 ⟨?_⟩;intros)|refine W4 d9 ⟨?_⟩)
     exact⟨lfA,by repeat(first|exact List.Sublist.refl _|refine List.Sublist.cons _ ?_)⟩
    ·have h5:nh=false:=by cases nh;rfl;exact absurd rfl h5
     subst h5
     by_cases h6:z6<0
     ·rw [if_pos (.inr h6)]at hst
      cases hst
      repeat(first|(refine A1 ⟨?_⟩;intros)|refine W4 d9 ⟨?_⟩)
      exact⟨lfA,by repeat(first|exact List.Sublist.refl _|refine List.Sublist.cons _ ?_)⟩
     ·rw [if_neg (fun h=>h.elim (fun h=>by cases h) h6)]at hst
      cases hst
      repeat(first|(refine A1 ⟨?_⟩;intros)|refine W4 d9 ⟨?_⟩)
      exact⟨lfA,by repeat(first|exact List.Sublist.refl _|refine List.Sublist.cons _ ?_)⟩
  ·rintro F' H' ⟨hF,hH⟩
   refine WP.sub hH (WP.le hF ?_)
   clear hF hH hst d1 d2 d3 d4 d5 d6 d7 d8 d9
   cases nl2
   ·cases nh2
    ·by_cases h8:0≤z7
     ·rw [if_pos (by simp [h8])]at hgo
      subst hgo
      clear hnext
      repeat(first|(refine A1 ⟨?_⟩;intros)|refine W4 e1 ⟨?_⟩)
      ((first|refine endR ?_|refine endN ?_);exact end2 RVa (RV.tmp rfl) (Le.refl _))
     ·rw [if_neg (by simp [h8])]at hgo
      replace hnext:=hnext hgo
      clear hgo
      repeat(first|(refine A1 ⟨?_⟩;intros)|refine W4 e1 ⟨?_⟩)
      exact hnext _ _ lfA (by repeat(first|exact List.Sublist.refl _|refine List.Sublist.cons _ ?_))
    ·rw [if_neg (by simp)]at hgo
     replace hnext:=hnext hgo
     clear hgo
     repeat(first|(refine A1 ⟨?_⟩;intros)|refine W4 e1 ⟨?_⟩)
     exact hnext _ _ lfA (by repeat(first|exact List.Sublist.refl _|refine List.Sublist.cons _ ?_))
   ·rw [if_neg (by simp)]at hgo
    replace hnext:=hnext hgo
    clear hgo
    repeat(first|(refine A1 ⟨?_⟩;intros)|refine W4 e1 ⟨?_⟩)
    exact hnext _ _ lfA (by repeat(first|exact List.Sublist.refl _|refine List.Sublist.cons _ ?_))
 ·have hke:k=c.length:=by omega
  subst hke
  rw [List.drop_length]at hgo
  have hR2:R=(s,true):=hgo.symm
  subst hR2
  clear hK hc
  repeat(refine A1 ⟨?_⟩;intros)
  ((first|refine endR ?_|refine endN ?_);exact end2 RVa (RV.tmp rfl) (Le.refl _))
theorem innerAt_arg {c:List Li}{i:Nat}{l:Li}(hc:∀m∈c,m.sm) (hi:c[i]? = some l):hp (atL l (sampleS (edgeC c i).1)) 120∧ht (sampleS (edgeC c i).1)≤96:=by
 obtain⟨h1,h2⟩:=edgeC_le hc hi
 have h0:=ht_zero
 have h3:=ht_one
 have h4:=midR_ht (edgeC c i).1.lo (edgeC c i).1.hi h1 h2
 have h5:=ht_sub (edgeC c i).1.hi 1
 have h6:=ht_add (edgeC c i).1.lo 1
 have hs:ht (sampleS (edgeC c i).1)≤96:=by
  unfold sampleS
  split
  ·omega
  ·split
   ·omega
   ·split <;> omega
 have:=atL_ht (hc l (List.mem_of_getElem? hi)) hs
 exact⟨⟨by have:=this.1;omega,by have:=this.2;omega⟩,hs⟩
theorem innerAt_ht {c:List Li}{i:Nat}{l:Li}(hc:∀m∈c,m.sm) (hi:c[i]? = some l):hp (innerAt c i l) 883:=by
 have hd:=dirL_ht (hc l (List.mem_of_getElem? hi))
 exact nearP_ht hc (innerAt_arg hc hi).1 ⟨by show ht (-(dirL l).2)≤1;rw [ht_neg];exact hd.2,hd.1⟩
theorem innerGo_ht {c:List Li}(hc:∀m∈c,m.sm):∀(r:List Li) (i:Nat) (p:Pq),(∀k l,r[k]? = some l→c[i+k]? = some l)→innerGo c i r=some p→hp p 883
 | [],_,_,_,h=>by cases h
 |l::r,i,p,hr,h=>by
  unfold innerGo at h
  split at h
  ·cases h;exact innerAt_ht hc (hr 0 l rfl)
  ·refine innerGo_ht hc r (i+1) p (fun k m hk=>?_) h
   rw [show i+1+k=i+(k+1) by omega]
   exact hr (k+1) m (by simpa using hk)
theorem innerC_ht {c:List Li}(hc:∀m∈c,m.sm):hp ((innerC c).getD (0,0)) 883:=by
 have h0:=ht_zero
 cases h:innerC c with
 |none=>exact⟨by show ht 0≤_;omega,by show ht 0≤_;omega⟩
 |some p =>
  unfold innerC at h
  split at h
  ·cases h;exact⟨by show ht 0≤_;omega,by show ht 0≤_;omega⟩
  ·exact innerGo_ht hc c 0 p (fun k l hk=>by rw [Nat.zero_add];exact hk) h
set_option maxHeartbeats 8000000 in
theorem rinner_pu {c:List Li}(hc:∀m∈c,m.sm) (hn:c.length≤100000):Pu Tryz.prog 170 [lqs c] (Ab.tup [ag (rpx ((innerC c).getD (0,0))),lit (.bool (innerC c).isSome)]):=by
 by_cases h0:c=[]
 ·subst h0
  have e:innerC []=some (0,0):=rfl
  rw [e]
  refine Pu.intro Tryz.func170 rfl (by kernel_rfl) fun C=>?_
  repeat(refine A1 ⟨?_⟩;intros)
  ((first|refine endR ?_|refine endN ?_);exact end2 (s1:=ag zrpx) RVa (RV.tmp rfl) (Le.tup2 (Le.ag zrp_le) (Le.refl _)))
 have hR:innerC c=innerGo c 0 c:=by unfold innerC;rw [if_neg h0]
 have hpos:=List.length_pos_iff.2 h0
 rw [hR]
 generalize hRR:innerGo c 0 c=R
 refine Pu.intro Tryz.func170 rfl (by kernel_rfl) fun C=>?_
 repeat(refine A1 ⟨?_⟩;intros)
 rename_i b2
 refine WP.loopS (ι:=Nat) (fun k=>k≤c.length∧innerGo c k (c.drop k)=R) (fun k=>c.length-k)
  (fun k=>fm [(0,lqs c),(2,lit (.pointer (some ⟨b2,0,none⟩))),(13,lqs c),(14,lit (.int .i64 c.length)),(15,lit (.int .i64 k))])
  (fun _=>[(b2,63,zrpx)]) 0 ⟨Nat.zero_le _,hRR⟩ lfA (List.Sublist.refl _) ?_
 rintro k ⟨hk,hgo⟩ K hK
 by_cases hkl:k<c.length
 ·obtain⟨l,hget,hmm,hat,hne⟩:=elt lqx_len (by omega) hkl
  have hl:=hc l hmm
  rw [drop_at hget]at hgo
  have hnext:=fun(h2:innerGo c (k+1) (c.drop (k+1))=R) F' H'=>hK F' H' (k+1) ⟨by omega,h2⟩ (by omega)
  unfold innerGo at hgo
  have d1:=redge_pu hc hn hget
  obtain⟨a1,a2⟩:=innerAt_arg hc hget
  have hle:=edgeC_le hc hget
  have d2:=rdir_pu l hl.ile
  have d3:=rsample_pu (edgeC c k).1 hle (by omega)
  have d4:=rat_pu (l:=l) (t:=sampleS (edgeC c k).1) hl (by omega)
  obtain⟨x1,x2⟩:=dirL_ht hl
  have d5:=ropp_pu (dirL l).2 (by omega)
  have d6:=rnear_pu c (atL l (sampleS (edgeC c k).1)) (-(dirL l).2,(dirL l).1) (by omega) hc a1 ⟨by show ht (-(dirL l).2)≤1;rw [ht_neg];exact x2,x1⟩
  clear hK hc hRR hmm hget a1 a2 hle x1 x2
  cases hb:(edgeC c k).2 with
  |true =>
   rw [hb,if_pos rfl]at hgo
   rw [hb]at d1
   subst hgo
   unfold innerAt
   simp only [Option.getD_some,Option.isSome_some]
   simp only [dirL]at d5 d6⊢
   generalize atL l (sampleS (edgeC c k).1)=q at *
   generalize sampleS (edgeC c k).1=t at *
   generalize(edgeC c k).1=s at *
   clear hnext hb
   repeat(refine A1 ⟨?_⟩;intros)
   refine Wo (ov_idxS (cs':=lqx l) rfl rfl (by omega) (by omega) hat hne) ?_
   repeat(first|(refine A1 ⟨?_⟩;intros)|refine W4 d1 ⟨?_⟩|refine W4 d2 ⟨?_⟩|refine W4 d3 ⟨?_⟩|refine W4 d4 ⟨?_⟩|refine W4 d5 ⟨?_⟩|refine W4 d6 ⟨?_⟩)
   ((first|refine endR ?_|refine endN ?_);exact end2 RVa (RV.tmp rfl) (Le.refl _))
  |false =>
   rw [hb,if_neg (by decide)]at hgo
   rw [hb]at d1
   replace hnext:=hnext hgo
   generalize(edgeC c k).1=s at *
   clear d2 d3 d4 d5 d6 hb hgo
   repeat(refine A1 ⟨?_⟩;intros)
   refine Wo (ov_idxS (cs':=lqx l) rfl rfl (by omega) (by omega) hat hne) ?_
   repeat(first|(refine A1 ⟨?_⟩;intros)|refine W4 d1 ⟨?_⟩)
   exact hnext _ _ lfA (by repeat(first|exact List.Sublist.refl _|refine List.Sublist.cons _ ?_))
 ·have hke:k=c.length:=by omega
  subst hke
  rw [List.drop_length]at hgo
  have hR2:R=none:=hgo.symm
  subst hR2
  simp only [Option.getD_none,Option.isSome_none]
  clear hK hc hgo
  repeat(refine A1 ⟨?_⟩;intros)
  ((first|refine endR ?_|refine endN ?_);exact end2 (s1:=ag zrpx) RVa (RV.tmp rfl) (Le.tup2 (Le.ag zrp_le) (Le.refl _)))
theorem canonC_take {c:List Li}{k:Nat}:(List.range (k+1)).foldl (canonStep c) []=canonStep c ((List.range k).foldl (canonStep c) []) k:=by
 rw [List.range_succ,List.foldl_append];rfl
theorem canonStep_eq (c:List Li) (out:List Li) (k:Nat):canonStep c out k=if(edgeC c k).2=true then insB alt out (c.getD k ⟨0,0,0⟩)else out:=rfl
theorem canonF_mem {c:List Li}{k:Nat}(hk:k≤c.length):∀y∈(List.range k).foldl (canonStep c) [],y∈c:=fun y hy=>by
 rcases(canon_fold c (List.range k) [] y).1 hy with⟨i,hi,_,rfl⟩|h
 ·rw [List.mem_range]at hi
  rw [List.getD,List.getElem?_eq_getElem (show i<c.length by omega)]
  exact List.getElem_mem _
 ·cases h
theorem canonF_len {c:List Li}:∀k:Nat,((List.range k).foldl (canonStep c) []).length≤k
 |0=>Nat.le_refl _
 |k+1=>by
  have:=canonF_len (c:=c) k
  rw [canonC_take,canonStep_eq]
  split
  ·have:=insB_len alt ((List.range k).foldl (canonStep c) []) (c.getD k ⟨0,0,0⟩);omega
  ·omega
set_option maxHeartbeats 8000000 in
theorem rcanonC_pu {c:List Li}(hc:∀m∈c,m.sm) (hn:c.length≤100000):Pu Tryz.prog 171 [lqs c] (Ab.tup [lqs (canonC c),lit (.bool (decide (c=[]∨canonC c≠[])))]):=by
 unfold canonC
 refine Pu.intro Tryz.func171 rfl (by kernel_rfl) fun C=>?_
 repeat(refine A1 ⟨?_⟩;intros)
 refine WP.loopS (ι:=Nat) (fun k=>k≤c.length) (fun k=>c.length-k)
  (fun k=>fm [(0,lqs c),(4,lqs ((List.range k).foldl (canonStep c) [])),(10,lqs c),(11,lit (.int .i64 c.length)),(12,lit (.int .i64 k))])
  (fun _=>[]) 0 (Nat.zero_le _) (LeF.cons (Le.refl _) (LeF.cons le_nilS lfA)) (List.nil_sublist _) ?_
 rintro k hk K hK
 by_cases hkl:k<c.length
 ·obtain⟨l,hget,hmm,hat,hne⟩:=elt lqx_len (by omega) hkl
  have hl:=hc l hmm
  have hgo:=fun F' H' h1 h2=>hK F' H' (k+1) (by omega) (by omega) h1 h2
  rw [canonC_take]at hgo
  have hsm:∀q∈(List.range k).foldl (canonStep c) [],q.sm:=fun q hq=>hc q (canonF_mem (by omega) q hq)
  have hsl:=canonF_len (c:=c) k
  have d1:=redge_pu hc hn hget
  rw [canonStep_eq]at hgo
  rw [show c.getD k ⟨0,0,0⟩=l by rw [List.getD,hget];rfl]at hgo
  generalize(List.range k).foldl (canonStep c) []=out at *
  have dl:=rdir_pu l hl.ile
  clear hK hmm hget hc
  cases hb:(edgeC c k).2 with
  |false =>
   rw [hb,if_neg (by decide)]at hgo
   rw [hb]at d1
   generalize(edgeC c k).1=s at *
   clear hb dl hsm
   repeat(refine A1 ⟨?_⟩;intros)
   refine Wo (ov_idxS (cs':=lqx l) rfl rfl (by omega) (by omega) hat hne) ?_
   repeat(first|(refine A1 ⟨?_⟩;intros)|refine W4 d1 ⟨?_⟩)
   exact hgo _ _ lfA (by repeat(first|exact List.Sublist.refl _|refine List.Sublist.cons _ ?_))
  |true =>
   rw [hb,if_pos rfl]at hgo
   rw [hb]at d1
   generalize(edgeC c k).1=s at *
   clear hb
   obtain⟨x,hx⟩:∃x,x=l:=⟨l,rfl⟩
   rw [←hx]at hgo
   repeat(refine A1 ⟨?_⟩;intros)
   refine Wo (ov_idxS (cs':=lqx l) rfl rfl (by omega) (by omega) hat hne) ?_
   repeat(first|(refine A1 ⟨?_⟩;intros)|refine W4 d1 ⟨?_⟩)
   rename_i b6 b7
   subst hx
   refine WP.loopS (ι:=Nat) (fun j=>j≤posI alt out x) (fun j=>out.length-j) (fun j=>fm [(4,sl (out.map lqx).flatten out.length),(9,lit (.int .i64 j)),(0,lqs c),(5,lit (.int .i64 k)),(6,lit (.pointer (some ⟨b6,0,none⟩))),(7,lit (.pointer (some ⟨b7,0,none⟩))),(10,lqs c),(11,lit (.int .i64 c.length)),(12,lit (.int .i64 k))]) (fun _=>[(b7,220,spx s),(b6,71,lqx x)]) 0 (Nat.zero_le _) lfA (List.Sublist.refl _) ?_
   rintro j hj K2 hK2
   have hpl:=posI_le alt out x
   obtain⟨hfl,hdl,htl,hpl2,hins,hln⟩:=insF lqx_len out x j (by omega)
   by_cases hjl:j<out.length
   ·obtain⟨o,hget2,hom,hat2,hne2⟩:=elt lqx_len (by omega) hjl
    have ho:=hsm o hom
    obtain⟨z,hzz⟩:∃z,z=angP (dirL o) (dirL x):=⟨_,rfl⟩
    have do':=rdir_pu o ho.ile
    have hdo:=dirL_ht ho
    have hdx:=dirL_ht hl
    have ca:=rangle_pu (dirL o) (dirL x) ⟨by have:=hdo.1;omega,by have:=hdo.2;omega⟩ ⟨by have:=hdx.1;omega,by have:=hdx.2;omega⟩
    have cc:=rcmpL_pu (l:=o) (m:=x) ho.ile hl.ile
    have hlt:alt o x=decide (z<0):=by rw [hzz]
    have heq:cmpL o x=0↔o=x:=cmpL_zero
    generalize cmpL o x=y at *
    rw [←hzz]at ca
    simp only [dirL]at do' dl ca
    obtain⟨s1,s2⟩:=posI_step (lt:=alt) (x:=x) hj hget2
    rw [hlt]at s1 s2
    by_cases hneg:z<0
    ·have hj1:=s1 (decide_eq_true hneg)
     clear hgo s1 s2
     repeat(refine A1 ⟨?_⟩;intros)
     refine Wdog (ov_idxS (cs':=lqx o) rfl rfl (by omega) (by omega) hat2 hne2) ?_
     repeat(first|(refine A1 ⟨?_⟩;intros)|refine W4 do' ⟨?_⟩|refine W4 dl ⟨?_⟩|refine W4 ca ⟨?_⟩|refine W4 cc ⟨?_⟩)
     exact hK2 _ _ (j+1) hj1 (by omega) lfA (List.Sublist.refl _)
    ·have hje:=s2 (decide_eq_false hneg)
     clear hK2 s1 s2
     by_cases hz:o=x
     ·rw [insB_eq hje hget2 hz]at hgo
      have hz0:=heq.2 hz
      clear heq
      repeat(refine A1 ⟨?_⟩;intros)
      refine Wdog (ov_idxS (cs':=lqx o) rfl rfl (by omega) (by omega) hat2 hne2) ?_
      repeat(first|(refine A1 ⟨?_⟩;intros)|refine W4 do' ⟨?_⟩|refine W4 dl ⟨?_⟩|refine W4 ca ⟨?_⟩|refine W4 cc ⟨?_⟩)
      refine Wdog (ov_idxS (cs':=lqx o) rfl rfl (by omega) (by omega) hat2 hne2) ?_
      repeat(first|(refine A1 ⟨?_⟩;intros)|refine W4 do' ⟨?_⟩|refine W4 dl ⟨?_⟩|refine W4 ca ⟨?_⟩|refine W4 cc ⟨?_⟩)
      exact hgo _ _ lfA (by repeat(first|exact List.Sublist.refl _|refine List.Sublist.cons _ ?_))
     ·rw [insB_at hje hget2 hz]at hgo
      have hz0:¬y=0:=fun e=>hz (heq.1 e)
      clear heq
      repeat(refine A1 ⟨?_⟩;intros)
      refine Wdog (ov_idxS (cs':=lqx o) rfl rfl (by omega) (by omega) hat2 hne2) ?_
      repeat(first|(refine A1 ⟨?_⟩;intros)|refine W4 do' ⟨?_⟩|refine W4 dl ⟨?_⟩|refine W4 ca ⟨?_⟩|refine W4 cc ⟨?_⟩)
      refine Wdog (ov_idxS (cs':=lqx o) rfl rfl (by omega) (by omega) hat2 hne2) ?_
      repeat(first|(refine A1 ⟨?_⟩;intros)|refine W4 do' ⟨?_⟩|refine W4 dl ⟨?_⟩|refine W4 ca ⟨?_⟩|refine W4 cc ⟨?_⟩)
      refine Wdo (ov_sl3X j rfl rfl rfl rfl rfl hfl (by omega)) ?_
      repeat(first|(refine Wdo (ov_bsX (s:=ag (lqx x)) (ds:=lqx x) rfl inferInstance) ?_)|(refine Wdo (ov_slFn j rfl rfl rfl hfl (by omega)) ?_)|(refine A1 ⟨?_⟩;intros))
      refine Wdo (ov_appXK (k:=1) (k0:=out.length-j) rfl rfl rfl hdl (by omega)) ?_
      refine Wdo (ov_appXK (k:=j) (k0:=1+(out.length-j)) rfl rfl htl hpl2 (by omega)) ?_
      rw [hins,hln]
      repeat(refine A1 ⟨?_⟩;intros)
      exact hgo _ _ lfA (by repeat(first|exact List.Sublist.refl _|refine List.Sublist.cons _ ?_))
   ·have hje:j=out.length:=by omega
    rw [insB_end hje hj]at hgo
    clear hK2
    repeat(refine A1 ⟨?_⟩;intros)
    refine Wdo (ov_sl3X j rfl rfl rfl rfl rfl hfl (by omega)) ?_
    repeat(first|(refine Wdo (ov_bsX (s:=ag (lqx x)) (ds:=lqx x) rfl inferInstance) ?_)|(refine Wdo (ov_slFn j rfl rfl rfl hfl (by omega)) ?_)|(refine A1 ⟨?_⟩;intros))
    refine Wdo (ov_appXK (k:=1) (k0:=out.length-j) rfl rfl rfl hdl (by omega)) ?_
    refine Wdo (ov_appXK (k:=j) (k0:=1+(out.length-j)) rfl rfl htl hpl2 (by omega)) ?_
    rw [hins,hln]
    repeat(refine A1 ⟨?_⟩;intros)
    exact hgo _ _ lfA (by repeat(first|exact List.Sublist.refl _|refine List.Sublist.cons _ ?_))
 ·have hke:k=c.length:=by omega
  subst hke
  clear hK
  generalize(List.range c.length).foldl (canonStep c) []=out at *
  cases c with
  |nil =>
   simp only [true_or,decide_true]
   repeat(refine A1 ⟨?_⟩;intros)
   ((first|refine endR ?_|refine endN ?_);exact end2 (RV.tmp rfl) (RV.tmp rfl) (Le.refl _))
  |cons a c =>
   simp only [List.cons_ne_nil,false_or]
   cases out with
   |nil =>
    simp only [ne_eq,not_true_eq_false,decide_false]
    repeat(refine A1 ⟨?_⟩;intros)
    ((first|refine endR ?_|refine endN ?_);exact end2 (RV.tmp rfl) (RV.tmp rfl) (Le.refl _))
   |cons b out =>
    have hbl:(b::out).length=out.length+1:=rfl
    simp only [ne_eq,List.cons_ne_nil,not_false_eq_true,decide_true]
    repeat(refine A1 ⟨?_⟩;intros)
    ((first|refine endR ?_|refine endN ?_);exact end2 (RV.tmp rfl) (RV.tmp rfl) (Le.refl _))
abbrev lT:TypeId:=71
abbrev pT:TypeId:=63
theorem snoc_flat (c:List Li) (l:Li):((c++[l]).map lqx).flatten=(c.map lqx).flatten++lqx l:=by
 rw [List.map_append,List.flatten_append];simp
theorem snoc_sm {c:List Li}{l:Li}(hc:∀m∈c,m.sm) (hl:l.sm):∀m∈c++[l],m.sm:=fun m hm=>by
 rcases List.mem_append.1 hm with h|h
 ·exact hc m h
 ·rw [List.mem_singleton.1 h];exact hl
theorem lflat_len (c:List Li):((c.map lqx).flatten).length=c.length*6:=flat_len lqx_len c
set_option maxHeartbeats 8000000 in
theorem rwith_pu {c:List Li}{l:Li}(hc:∀m∈c,m.sm) (hl:l.sm) (hn:c.length≤90000):Pu Tryz.prog 105 [lqs c,lq l] (lqs (withC c l)):=by
 have d1:=rcanonC_pu (snoc_sm hc hl) (by rw [List.length_append,List.length_singleton];omega)
 have hsl:lqs (c++[l])=sl ((c.map lqx).flatten++lqx l) (c.length+1):=by
  show sl ((c++[l]).map lqx).flatten (c++[l]).length=_
  rw [snoc_flat,List.length_append,List.length_singleton]
 rw [hsl]at d1
 show Pu _ _ _ (lqs (canonC (c++[l])))
 generalize canonC (c++[l])=q at *
 generalize decide (c++[l]=[]∨q≠[])=bb at *
 have hfl:=lflat_len c
 by_cases h0:c=[]
 ·subst h0
  clear hsl hc hl
  refine Pu.intro Tryz.func105 rfl (by kernel_rfl) fun C=>?_
  repeat(first|(refine AS ⟨?_⟩;intros)|(refine O1 ⟨?_⟩;intros))
  repeat(first|(refine Wo (ov_bs0X) ?_)|(refine Wdo (ov_bs0X) ?_)|(refine Wo (ov_appX0 rfl rfl) ?_)|(refine Wdo (ov_appX0 rfl rfl) ?_)|(refine Wo (ov_bsK (r:=[(0,lqx l)]) (cs:=lqx l) (.cons (sv:=ag (lqx l)) rfl inferInstance .nil)) ?_)|(refine Wdo (ov_bsK (r:=[(0,lqx l)]) (cs:=lqx l) (.cons (sv:=ag (lqx l)) rfl inferInstance .nil)) ?_)|(refine Wo (ov_appXK (k:=0) (k0:=1) (ds:=lqx l) rfl rfl rfl rfl (by omega)) ?_)|(refine Wdo (ov_appXK (k:=0) (k0:=1) (ds:=lqx l) rfl rfl rfl rfl (by omega)) ?_)|(refine A1 ⟨?_⟩;intros)|refine W4 d1 ⟨?_⟩)
  exact E1
 ·have hpos:=List.length_pos_iff.2 h0
  clear hsl hc hl h0
  refine Pu.intro Tryz.func105 rfl (by kernel_rfl) fun C=>?_
  repeat(first|(refine AS ⟨?_⟩;intros)|(refine O1 ⟨?_⟩;intros))
  rename_i b3
  refine WdZA 12 [0,1,3,4,2,5,6,7,8,9,10,11] [5] 2 10 (fun sv X=>Own lT 6 c.length (c.map lqx).flatten sv X) [] _ ?_
  refine YkD 4 ?_
  repeat(first|(refine Wo (ov_bs0E) ?_)|(refine Wdo (ov_bs0E) ?_)|(refine Wo (ov_bsK (r:=[(0,lqx l)]) (cs:=lqx l) (.cons (sv:=ag (lqx l)) rfl inferInstance .nil)) ?_)|(refine Wdo (ov_bsK (r:=[(0,lqx l)]) (cs:=lqx l) (.cons (sv:=ag (lqx l)) rfl inferInstance .nil)) ?_)|(refine A1 ⟨?_⟩;intros))
  refine mkY0 ?_
  refine YkFE rfl rfl rfl hfl (by omega) (by omega) ?_ (hyx:=fun h=>by cases h)
  refine YkAP rfl (by omega) (fun sv=>?_) rfl (hyx:=fun h=>by cases h)
  refine YkD 6 ?_
  repeat(first|(refine A1 ⟨?_⟩;intros)|refine W4 d1 ⟨?_⟩)
  refine mkY0 ?_
  refine YkN1 ?_
  repeat(refine A1 ⟨?_⟩;intros)
  exact E1
abbrev zrpc:List SV:=zrpx
set_option maxHeartbeats 16000000 in
theorem rplace_pu {c:List Li}{l:Li}(hc:∀m∈c,m.sm) (hl:l.sm) (hn:c.length≤90000):Pu Tryz.prog 103 [lqs c,lq l] (lit (.int .i64 (placeC c l))):=by
 have d1:=rinner_pu (snoc_sm hc hl) (by rw [List.length_append,List.length_singleton];omega)
 have d2:=rinner_pu (snoc_sm hc hl.neg) (by rw [List.length_append,List.length_singleton];omega)
 have d3:=rrev_pu l hl.ile
 have hsl:∀m:Li,lqs (c++[m])=sl ((c.map lqx).flatten++lqx m) (c.length+1):=fun m=>by
  show sl ((c++[m]).map lqx).flatten (c++[m]).length=_
  rw [snoc_flat,List.length_append,List.length_singleton]
 rw [hsl]at d1 d2
 unfold placeC
 generalize innerC (c++[l])=q1 at *
 generalize innerC (c++[l.neg])=q2 at *
 generalize q1.getD (0,0)=p1 at *
 generalize q2.getD (0,0)=p2 at *
 generalize q1.isSome=s1 at *
 generalize q2.isSome=s2 at *
 have hfl:=lflat_len c
 by_cases h0:c=[]
 ·subst h0
  clear hsl hc hl
  cases s1 <;> cases s2
  all_goals
   simp only [Bool.false_eq_true,if_false,if_true]
   refine Pu.intro Tryz.func103 rfl (by kernel_rfl) fun C=>?_
   repeat(first|(refine AS ⟨?_⟩;intros)|(refine O1 ⟨?_⟩;intros))
   repeat(first|(refine Wo (ov_bs0X) ?_)|(refine Wdo (ov_bs0X) ?_)|(refine Wo (ov_appX0 rfl rfl) ?_)|(refine Wdo (ov_appX0 rfl rfl) ?_)|(refine Wo (ov_bsK (r:=[(0,lqx l)]) (cs:=lqx l) (.cons (sv:=ag (lqx l)) rfl inferInstance .nil)) ?_)|(refine Wdo (ov_bsK (r:=[(0,lqx l)]) (cs:=lqx l) (.cons (sv:=ag (lqx l)) rfl inferInstance .nil)) ?_)|(refine Wo (ov_bsK (r:=[(0,lqx l.neg)]) (cs:=lqx l.neg) (.cons (sv:=ag (lqx l.neg)) rfl inferInstance .nil)) ?_)|(refine Wdo (ov_bsK (r:=[(0,lqx l.neg)]) (cs:=lqx l.neg) (.cons (sv:=ag (lqx l.neg)) rfl inferInstance .nil)) ?_)|(refine Wo (ov_appXK (k:=0) (k0:=1) (ds:=lqx l) rfl rfl rfl rfl (by omega)) ?_)|(refine Wdo (ov_appXK (k:=0) (k0:=1) (ds:=lqx l) rfl rfl rfl rfl (by omega)) ?_)|(refine Wo (ov_appXK (k:=0) (k0:=1) (ds:=lqx l.neg) rfl rfl rfl rfl (by omega)) ?_)|(refine Wdo (ov_appXK (k:=0) (k0:=1) (ds:=lqx l.neg) rfl rfl rfl rfl (by omega)) ?_)|(refine A1 ⟨?_⟩;intros)|refine W4 d1 ⟨?_⟩|refine W4 d2 ⟨?_⟩|refine W4 d3 ⟨?_⟩)
   exact E1
 ·have hpos:=List.length_pos_iff.2 h0
  clear hsl hc hl h0
  cases s1 <;> cases s2
  all_goals
   simp only [Bool.false_eq_true,if_false,if_true]
   refine Pu.intro Tryz.func103 rfl (by kernel_rfl) fun C=>?_
   repeat(first|(refine AS ⟨?_⟩;intros)|(refine O1 ⟨?_⟩;intros))
   rename_i b3
   refine WdZA 12 [10,0,1,3,4,2,5,6,7,8,9,11] [2,5,11] 10 5 (fun sv X=>∃b,sv=lit (.pointer (some ⟨b,0,none⟩))∧X=[(b,pT,zrpc)]) [] _ ?_
   refine YkFA rfl ?_
   refine YkD 4 ?_
   repeat(first|(refine Wo (ov_bs0E) ?_)|(refine Wdo (ov_bs0E) ?_)|(refine Wo (ov_bsK (r:=[(0,lqx l)]) (cs:=lqx l) (.cons (sv:=ag (lqx l)) rfl inferInstance .nil)) ?_)|(refine Wdo (ov_bsK (r:=[(0,lqx l)]) (cs:=lqx l) (.cons (sv:=ag (lqx l)) rfl inferInstance .nil)) ?_)|(refine A1 ⟨?_⟩;intros))
   refine mkY0 ?_
   refine YkE rfl rfl hfl (by omega) (by omega) (fun s' H' hown=>?_) (hyx:=fun h=>by cases h)
   refine YkP hown (by omega) ?_
   refine YkD 4 ?_
   repeat(first|(refine A1 ⟨?_⟩;intros)|refine W4 d1 ⟨?_⟩)
   refine mkY0 ?_
   refine YkAS (sv:=ag (rpx p1)) (ds:=rpx p1) rfl (fun b5=>?_) rfl (hvx:=fun h=>by cases h)
   refine YkN1 ?_
   repeat(first|(refine AS ⟨?_⟩;intros)|(refine O1 ⟨?_⟩;intros))
   refine WdZA 13 [11,0,1,3,2,4,5,6,7,8,9,10,12] [2,6,12] 11 7 (fun sv X=>∃b,sv=lit (.pointer (some ⟨b,0,none⟩))∧X=[(b,pT,zrpc)]) [] _ ?_
   refine YkFA rfl ?_
   refine YkD 3 ?_
   repeat(first|(refine Wo (ov_bs0E) ?_)|(refine Wdo (ov_bs0E) ?_)|(refine A1 ⟨?_⟩;intros))
   refine mkY0 ?_
   refine YkE rfl rfl hfl (by omega) (by omega) (fun s' H' hown=>?_) (hyx:=fun h=>by cases h)
   refine YkD 2 ?_
   repeat(first|(refine Wo (ov_bsK (r:=[(0,lqx l.neg)]) (cs:=lqx l.neg) (.cons (sv:=ag (lqx l.neg)) rfl inferInstance .nil)) ?_)|(refine Wdo (ov_bsK (r:=[(0,lqx l.neg)]) (cs:=lqx l.neg) (.cons (sv:=ag (lqx l.neg)) rfl inferInstance .nil)) ?_)|(refine A1 ⟨?_⟩;intros)|refine W4 d3 ⟨?_⟩)
   refine mkY0 ?_
   refine YkP hown (by omega) ?_
   refine YkD 4 ?_
   repeat(first|(refine A1 ⟨?_⟩;intros)|refine W4 d2 ⟨?_⟩)
   refine mkY0 ?_
   refine YkAS (sv:=ag (rpx p2)) (ds:=rpx p2) rfl (fun b7=>?_) rfl (hvx:=fun h=>by cases h)
   refine YkN1 ?_
   repeat(first|(refine A1 ⟨?_⟩;intros)|refine W4 d1 ⟨?_⟩)
   exact E1
theorem rjoin_pu (l:Li) (a b:Tr) (hl:l.le 1000000):Pu Tryz.prog 104 [lq l,rt a,rt b] (rt (joinT l a b)):=by
 cases a with
 |leaf i =>
  cases b with
  |leaf j =>
   show Pu _ _ _ (rt (if i=j then .leaf i else .node l (.leaf i) (.leaf j)))
   cases i <;> cases j
   all_goals
    first|rw [if_pos rfl]|rw [if_neg (by decide)]
    simp only [rt,rc_leaf,rc_node]at *
    refine Pu.intro Tryz.func104 rfl (by kernel_rfl) fun C=>?_
    repeat(first|(refine Wo (ov_boxP (sv:=ag _) rfl) ?_)|(refine Wdo (ov_boxP (sv:=ag _) rfl) ?_)|(refine A1 ⟨?_⟩;intros))
    exact E1
  |node m x y =>
   show Pu _ _ _ (rt (.node l (.leaf i) (.node m x y)))
   simp only [rt,rc_leaf,rc_node]at *
   refine Pu.intro Tryz.func104 rfl (by kernel_rfl) fun C=>?_
   repeat(first|(refine Wo (ov_boxP (sv:=ag _) rfl) ?_)|(refine Wdo (ov_boxP (sv:=ag _) rfl) ?_)|(refine A1 ⟨?_⟩;intros))
   exact E1
 |node m x y =>
  show Pu _ _ _ (rt (.node l (.node m x y) b))
  simp only [rt,rc_leaf,rc_node]at *
  refine Pu.intro Tryz.func104 rfl (by kernel_rfl) fun C=>?_
  repeat(first|(refine Wo (ov_boxP (sv:=ag _) rfl) ?_)|(refine Wdo (ov_boxP (sv:=ag _) rfl) ?_)|(refine A1 ⟨?_⟩;intros))
  exact E1
theorem withC_sm {c:List Li}{l:Li}(hc:∀m∈c,m.sm) (hl:l.sm):∀m∈withC c l,m.sm:=fun m hm =>
 snoc_sm hc hl m (canonF_mem (Nat.le_refl _) m hm)
theorem withC_len (c:List Li) (l:Li):(withC c l).length≤c.length+1:=by
 exact Nat.le_trans (canonF_len (c:=c++[l]) (c++[l]).length) (by simp)
set_option maxHeartbeats 8000000 in
theorem rrestr_pu:∀(t:Tr) (c:List Li),(t.all fun l=>l.sm)→(∀m∈c,m.sm)→c.length+depT t≤90000→Pu Tryz.prog 102 [rt t,lqs c] (rt (restrT t c))
 | .leaf i,c,_,_,_=>by
  show Pu _ _ _ (rt (.leaf i))
  simp only [rt,rc_leaf]at *
  refine Pu.intro Tryz.func102 rfl (by kernel_rfl) fun C=>?_
  repeat(refine A1 ⟨?_⟩;intros)
  exact E1
 | .node l a b,c,hall,hc,hd=>by
  have hd':c.length+(1+max (depT a) (depT b))≤90000:=hd
  have p0:=rplace_pu hc hall.1 (by omega)
  have d3:=rrestr_pu a c hall.2.1 hc (by omega)
  have d4:=rrestr_pu b c hall.2.2 hc (by omega)
  have n1:=withC_len c l
  have n2:=withC_len c l.neg
  have w1:=rwith_pu hc hall.1 (by omega)
  have w2:=rwith_pu hc hall.1.neg (by omega)
  have d0:=rrev_pu l hall.1.ile
  have d5:=rrestr_pu a (withC c l) hall.2.1 (withC_sm hc hall.1) (by omega)
  have d6:=rrestr_pu b (withC c l.neg) hall.2.2 (withC_sm hc hall.1.neg) (by omega)
  have d7:=rjoin_pu l (restrT a (withC c l)) (restrT b (withC c l.neg)) hall.1.ile
  unfold restrT
  clear hd hd' n1 n2 hc hall
  generalize restrT a c=ra at *
  generalize restrT b c=rb at *
  generalize restrT a (withC c l)=ra' at *
  generalize restrT b (withC c l.neg)=rb' at *
  generalize joinT l ra' rb'=rj at *
  generalize withC c l=c1 at *
  generalize withC c l.neg=c2 at *
  have en:rt (.node l a b)=pt (rc (.node l a b)):=rfl
  rw [en,rc_node]
  clear en
  generalize placeC c l=z at *
  by_cases h1:z=1
  ·rw [if_pos h1]
   refine Pu.intro Tryz.func102 rfl (by kernel_rfl) fun C=>?_
   repeat(first|(refine A1 ⟨?_⟩;intros)|refine W4 p0 ⟨?_⟩|refine W4 d3 ⟨?_⟩)
   exact E1
  ·rw [if_neg h1]
   by_cases h2:z = -1
   ·rw [if_pos h2]
    refine Pu.intro Tryz.func102 rfl (by kernel_rfl) fun C=>?_
    repeat(first|(refine A1 ⟨?_⟩;intros)|refine W4 p0 ⟨?_⟩|refine W4 d4 ⟨?_⟩)
    exact E1
   ·rw [if_neg h2]
    refine Pu.intro Tryz.func102 rfl (by kernel_rfl) fun C=>?_
    repeat(first|(refine A1 ⟨?_⟩;intros)|refine W4 p0 ⟨?_⟩|refine W4 w1 ⟨?_⟩|refine W4 d0 ⟨?_⟩|refine W4 w2 ⟨?_⟩|refine W4 d5 ⟨?_⟩|refine W4 d6 ⟨?_⟩|refine W4 d7 ⟨?_⟩)
    exact E1
theorem rnot_pu:∀t:Tr,(t.all fun l=>l.sm)→Pu Tryz.prog 49 [rt t] (rt (notT t))
 | .leaf i,_=>by
  have c:=rcode_pu (!i)
  show Pu _ _ _ (rt (.leaf (!i)))
  have en:rt (.leaf i)=pt (rc (.leaf i)):=rfl
  rw [en,rc_leaf]
  refine Pu.intro Tryz.func49 rfl (by kernel_rfl) fun C=>?_
  repeat(first|(refine A1 ⟨?_⟩;intros)|refine W4 c ⟨?_⟩)
  exact E1
 | .node l a b,h=>by
  have c1:=rnot_pu a h.2.1
  have c2:=rnot_pu b h.2.2
  show Pu _ _ _ (rt (.node l (notT a) (notT b)))
  have en:rt (.node l a b)=pt (rc (.node l a b)):=rfl
  rw [en,rc_node]
  generalize notT a=na at *
  generalize notT b=nb at *
  clear h en
  refine Pu.intro Tryz.func49 rfl (by kernel_rfl) fun C=>?_
  repeat(first|(refine Wo (ov_boxP (sv:=ag _) rfl) ?_)|(refine Wdo (ov_boxP (sv:=ag _) rfl) ?_)|(refine A1 ⟨?_⟩;intros)|refine W4 c1 ⟨?_⟩|refine W4 c2 ⟨?_⟩)
  exact E1
theorem rreduce_pu (t:Tr) (h:t.all fun l=>l.sm) (hd:depT t≤90000):Pu Tryz.prog 46 [rt t] (rt (restrT t [])):=by
 have c:=rrestr_pu t [] h (fun m h=>by cases h) (by simpa using hd)
 have c':=c.arg (l':=[rt t,lit (.slice none 0 0)]) ⟨Le.refl _,le_nilS,trivial⟩
 clear c h hd
 refine Pu.intro Tryz.func46 rfl (by kernel_rfl) fun C=>?_
 repeat(first|(refine A1 ⟨?_⟩;intros)|refine W4 c' ⟨?_⟩)
 exact E1
end Go.Ab
