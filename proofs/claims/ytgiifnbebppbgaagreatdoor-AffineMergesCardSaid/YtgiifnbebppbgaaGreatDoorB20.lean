/- Texts laid one behind the other: GwB, GwC, GmC, GwD. -/
import Derived.Test.YtgiifnbebppbgaaGreatDoorB19
import Derived.Test.YtgiifnbebppbgaaGreatDoorB17
set_option linter.unusedSectionVars false
set_option linter.unusedVariables false
set_option linter.unusedSimpArgs false
namespace Go.Ab
open Go.Proofs
variable [Base]
abbrev rqx (x:Rat):List SV:=[lit (.bool (decide (x.num<0))),nat x.num.natAbs,dg (dden x.den)]
theorem rqx_len (x:Rat):(rqx x).length=3:=rfl
abbrev rqs (l:List Rat):SV:=sl (l.map rqx).flatten l.length
theorem dstL_take {l:List Li}{k:Nat}{a:Li}(h:l[k]? = some a):dstL (l.take (k+1))=insB llt (dstL (l.take k)) (canonL a):=foldl_take h
set_option maxHeartbeats 4000000 in
theorem rdistinct_pu (l:List Li) (hl:l.length≤100000) (hh:∀m∈l,m.le 1000000):Pu Tryz.prog 117 [lqs l] (lqs (dstL l)):=by
 refine Pu.intro Tryz.func117 rfl (by kernel_rfl) fun C=>?_
 repeat(refine A1 ⟨?_⟩;intros)
 refine WP.loopS (ι:=Nat) (fun k=>k≤l.length) (fun k=>l.length-k) (fun k=>fm [(3,lqs (dstL (l.take k))),(7,lqs l),(8,lit (.int .i64 l.length)),(9,lit (.int .i64 k))]) (fun _=>[]) 0
  (Nat.zero_le _) (LeF.cons le_nilS lfA) (List.nil_sublist _) ?_
 rintro k hk K hK
 by_cases hkl:k<l.length
 ·obtain⟨a,hget,ham,hat,hne⟩:=elt lqx_len (by omega) hkl
  have ha:=hh a ham
  have cc:=rcanon_pu ha
  have hx:(canonL a).le 1000000:=by
   unfold canonL
   split
   ·exact⟨by show il (-a.a)≤_;rw [il_neg];exact ha.a,by show il (-a.b)≤_;rw [il_neg];exact ha.b,by show il (-a.c)≤_;rw [il_neg];exact ha.c⟩
   ·exact ha
  have hgo:=fun F' H' h1 h2=>hK F' H' (k+1) (by omega) (by omega) h1 h2
  rw [dstL_take hget]at hgo
  have hsm:∀q∈dstL (l.take k),q.le 1000000:=fun q hq=>by
   obtain⟨y,hy,rfl⟩:=dstL_mem.1 hq
   have h:=hh y (List.mem_of_mem_take hy)
   unfold canonL
   split
   ·exact⟨by show il (-y.a)≤_;rw [il_neg];exact h.a,by show il (-y.b)≤_;rw [il_neg];exact h.b,by show il (-y.c)≤_;rw [il_neg];exact h.c⟩
   ·exact h
  have hsl:=dstL_len (l.take k)
  rw [List.length_take]at hsl
  generalize dstL (l.take k)=out at hgo hsm hsl⊢
  generalize canonL a=x at *
  generalize canL a=fl at *
  clear hK hh ha ham hget
  repeat(refine A1 ⟨?_⟩;intros)
  refine Wo (ov_idxS (cs':=lqx a) rfl rfl (by omega) (by omega) hat hne) ?_
  repeat(first|(refine A1 ⟨?_⟩;intros)|refine W4 cc ⟨?_⟩)
  rename_i b5
  refine WP.loopS (ι:=Nat) (fun j=>j≤posI llt out x) (fun j=>out.length-j) (fun j=>fm [(3,sl (out.map lqx).flatten out.length),(6,lit (.int .i64 j)),(5,lit (.pointer (some ⟨b5,0,none⟩))),(7,lqs l),(8,lit (.int .i64 l.length)),(9,lit (.int .i64 k))]) (fun _=>[(b5,71,lqx x)]) 0 (Nat.zero_le _) lfA (List.Sublist.refl _) ?_
  rintro j hj K2 hK2
  have hpl:=posI_le llt out x
  obtain⟨hfl,hdl,htl,hpl2,hins,hln⟩:=insF lqx_len out x j (by omega)
  by_cases hjl:j<out.length
  ·obtain⟨o,hget2,hom,hat2,hne2⟩:=elt lqx_len (by omega) hjl
   have ho:=hsm o hom
   obtain⟨z,hzz⟩:∃z,z=cmpL o x:=⟨_,rfl⟩
   have c:=rcmpL_pu ho hx
   have hlt:llt o x=decide (z<0):=by rw [hzz]
   have heq:z=0↔o=x:=by rw [hzz];exact cmpL_zero
   rw [←hzz]at c
   obtain⟨s1,s2⟩:=posI_step (lt:=llt) (x:=x) hj hget2
   rw [hlt]at s1 s2
   by_cases hneg:z<0
   ·have hj1:=s1 (decide_eq_true hneg)
    clear hgo s1 s2
    repeat(refine A1 ⟨?_⟩;intros)
    refine Wdog (ov_idxS (cs':=lqx o) rfl rfl (by omega) (by omega) hat2 hne2) ?_
    repeat(first|(refine A1 ⟨?_⟩;intros)|refine W4 c ⟨?_⟩)
    exact hK2 _ _ (j+1) hj1 (by omega) lfA (List.Sublist.refl _)
   ·have hje:=s2 (decide_eq_false hneg)
    clear hK2 s1 s2
    by_cases hz:o=x
    ·rw [insB_eq hje hget2 hz]at hgo
     have hz0:=heq.2 hz
     clear heq
     repeat(refine A1 ⟨?_⟩;intros)
     refine Wdog (ov_idxS (cs':=lqx o) rfl rfl (by omega) (by omega) hat2 hne2) ?_
     repeat(first|(refine A1 ⟨?_⟩;intros)|refine W4 c ⟨?_⟩)
     refine Wdog (ov_idxS (cs':=lqx o) rfl rfl (by omega) (by omega) hat2 hne2) ?_
     repeat(first|(refine A1 ⟨?_⟩;intros)|refine W4 c ⟨?_⟩)
     exact hgo _ _ lfA (List.nil_sublist _)
    ·rw [insB_at hje hget2 hz]at hgo
     have hz0:¬z=0:=fun e=>hz (heq.1 e)
     clear heq
     repeat(refine A1 ⟨?_⟩;intros)
     refine Wdog (ov_idxS (cs':=lqx o) rfl rfl (by omega) (by omega) hat2 hne2) ?_
     repeat(first|(refine A1 ⟨?_⟩;intros)|refine W4 c ⟨?_⟩)
     refine Wdog (ov_idxS (cs':=lqx o) rfl rfl (by omega) (by omega) hat2 hne2) ?_
     repeat(first|(refine A1 ⟨?_⟩;intros)|refine W4 c ⟨?_⟩)
     refine Wdo (ov_sl3X j rfl rfl rfl rfl rfl hfl (by omega)) ?_
     repeat(first|(refine Wdo (ov_bsX (s:=ag (lqx x)) (ds:=lqx x) rfl inferInstance) ?_)|(refine Wdo (ov_slFn j rfl rfl rfl hfl (by omega)) ?_)|(refine A1 ⟨?_⟩;intros))
     refine Wdo (ov_appXK (k:=1) (k0:=out.length-j) rfl rfl rfl hdl (by omega)) ?_
     refine Wdo (ov_appXK (k:=j) (k0:=1+(out.length-j)) rfl rfl htl hpl2 (by omega)) ?_
     rw [hins,hln]
     repeat(refine A1 ⟨?_⟩;intros)
     exact hgo _ _ lfA (List.nil_sublist _)
  ·have hje:j=out.length:=by omega
   rw [insB_end hje hj]at hgo
   clear hK2
   repeat(refine A1 ⟨?_⟩;intros)
   refine Wdo (ov_sl3X j rfl rfl rfl rfl rfl hfl (by omega)) ?_
   repeat(first|(refine Wdo (ov_bsX (s:=ag (lqx x)) (ds:=lqx x) rfl inferInstance) ?_)|(refine Wdo (ov_slFn j rfl rfl rfl hfl (by omega)) ?_)|(refine A1 ⟨?_⟩;intros))
   refine Wdo (ov_appXK (k:=1) (k0:=out.length-j) rfl rfl rfl hdl (by omega)) ?_
   refine Wdo (ov_appXK (k:=j) (k0:=1+(out.length-j)) rfl rfl htl hpl2 (by omega)) ?_
   rw [hins,hln]
   repeat(refine A1 ⟨?_⟩;intros)
   exact hgo _ _ lfA (List.nil_sublist _)
 ·have hke:k=l.length:=by omega
  subst hke
  rw [List.take_length]
  repeat(refine A1 ⟨?_⟩;intros)
  exact endR (end1 (RV.tmp rfl) (Le.refl _))
theorem rhalfQ_pu (x:Rat) (h:ht x≤1000000):Pu Tryz.prog 272 [rq x] (rq (x/2)):=by
 have o:=rof_pu 2 (by omega) (by omega)
 have h2:=ht_small 2 (by omega)
 have c:=rover_pu x ((2:Int):Rat) (by omega) (by omega) (by decide)
 rw [show((2:Int):Rat)=2 from rfl]at c o
 refine Pu.intro Tryz.func272 rfl (by kernel_rfl) fun C=>?_
 repeat(first|(refine A1 ⟨?_⟩;intros)|refine W4 o ⟨?_⟩|refine W4 c ⟨?_⟩)
 ((first|refine endR ?_|refine endN ?_);refine end1 RVa (Le.refl _))
theorem rmid_pu (x y:Rat) (h:ht x≤100000) (k:ht y≤100000):Pu Tryz.prog 259 [rq x,rq y] (rq (midR x y)):=by
 have:=ht_add x y
 have c1:=rplus_pu x y (by omega) (by omega)
 have c2:=rhalfQ_pu (x+y) (by omega)
 unfold midR
 refine Pu.intro Tryz.func259 rfl (by kernel_rfl) fun C=>?_
 repeat(first|(refine A1 ⟨?_⟩;intros)|refine W4 c1 ⟨?_⟩|refine W4 c2 ⟨?_⟩)
 ((first|refine endR ?_|refine endN ?_);refine end1 RVa (Le.refl _))
theorem near_ht {p v:Pq}{a:Li}(ha:a.sm) (hp':hp p 120) (hv:hp v 1):ht (valL a p)≤247∧ht (valL a (addP p 1 v))≤255∧ht (valL a (addP p 1 v)-valL a p)≤503∧ht (-(valL a p/(valL a (addP p 1 v)-valL a p)))≤752∧ht (-(valL a p/(valL a (addP p 1 v)-valL a p))/2)≤755:=by
 have h1:=ht_one
 have h2:ht (2:Rat)≤1:=ht_small 2 (by omega)
 have v1:=valL_ht ha (addP_ht (k:=1) hp' (show ht 1≤1 by omega) hv)
 have v2:=valL_ht ha hp'
 have d:=ht_sub (valL a (addP p 1 v)) (valL a p)
 have q:=ht_div (valL a p) (valL a (addP p 1 v)-valL a p)
 have n:=ht_neg (valL a p/(valL a (addP p 1 v)-valL a p))
 have e:=ht_div (-(valL a p/(valL a (addP p 1 v)-valL a p))) 2
 omega
theorem near_step {p v:Pq}{s:Rat}{a:Li}(ha:a.sm) (hp':hp p 120) (hv:hp v 1) (hs:ht s≤760):ht (nearStep p v s a)≤760:=by
 have:=near_ht ha hp' hv
 unfold nearStep
 split
 ·exact hs
 ·split
  ·omega
  ·exact hs
theorem nearP_ht {l:List Li}{p v:Pq}(hh:∀m∈l,m.sm) (hp':hp p 120) (hv:hp v 1):hp (nearP l p v) 883:=by
 have key:∀(l:List Li),(∀m∈l,m.sm)→∀s,ht s≤760→ht (l.foldl (nearStep p v) s)≤760:=by
  intro l
  induction l with
  |nil=>intro _ s h;exact h
  |cons a l ih=>intro h s hs;exact ih (fun m hm=>h m (List.mem_cons_of_mem _ hm)) _ (near_step (h a List.mem_cons_self) hp' hv hs)
 have h1:=ht_one
 exact addP_ht hp' (key l hh 1 (by omega)) hv
set_option maxHeartbeats 4000000 in
theorem rnear_pu (l:List Li) (p v:Pq) (hl:l.length≤100000) (hh:∀m∈l,m.sm) (hp':hp p 120) (hv:hp v 1):Pu Tryz.prog 229 [lqs l,ag (rpx p),ag (rpx v)] (ag (rpx (nearP l p v))):=by
 have h1:=ht_one
 obtain⟨p1,p2⟩:=hp'
 obtain⟨v1,v2⟩:=hv
 have d0:=gadd_pu p.1 p.2 1 v.1 v.2 (by omega) (by omega) (by omega) (by omega) (by omega)
 refine Pu.intro Tryz.func229 rfl (by kernel_rfl) fun C=>?_
 repeat(first|(refine A1 ⟨?_⟩;intros)|refine W4 rof1 ⟨?_⟩)
 rename_i b4 b5 b6 b7
 refine WP.loopS (ι:=Nat×Rat) (fun y=>y.1≤l.length∧y.2=(l.take y.1).foldl (nearStep p v) 1∧ht y.2≤760) (fun y=>l.length-y.1) (fun y=>fm [(4,lit (.pointer (some ⟨b4,0,none⟩))),(5,lit (.pointer (some ⟨b5,0,none⟩))),(6,lit (.pointer (some ⟨b6,0,none⟩))),(7,lit (.pointer (some ⟨b7,0,none⟩))),(13,lqs l),(14,lit (.int .i64 l.length)),(15,lit (.int .i64 y.1))])
  (fun y=>[(b7,30,rqx y.2),(b6,63,zrpx),(b5,63,rpx v),(b4,63,rpx p)]) (0,1) ⟨Nat.zero_le _,rfl,by show ht 1≤760;omega⟩ lfA (List.Sublist.refl _) ?_
 rintro ⟨k,s⟩ ⟨hk,hs,hsb⟩ K hK
 simp only at hk hs hsb⊢
 by_cases hkl:k<l.length
 ·obtain⟨a,hget,ham,hat,hne⟩:=elt lqx_len (by omega) hkl
  have ha:=hh a ham
  have hgo:=fun s' (e:s'=nearStep p v s a) (hb:ht s'≤760) F' H'=>hK F' H' (k+1,s') ⟨by simp only;omega,by rw [e,hs,foldl_take hget],hb⟩ (by simp only;omega)
  obtain⟨b1,b2,b3,b4,b5⟩:=near_ht ha ⟨p1,p2⟩ ⟨v1,v2⟩
  have hadd:=addP_ht (p:=p) (v:=v) (k:=1) ⟨p1,p2⟩ (show ht 1≤1 by omega) ⟨v1,v2⟩
  have d1:=rvalue_pu (p:=addP p 1 v) ha ⟨by have:=hadd.1;omega,by have:=hadd.2;omega⟩
  have d2:=rvalue_pu (p:=p) ha ⟨by omega,by omega⟩
  have d3:=rqsub_pu (valL a (addP p 1 v)) (valL a p) (by omega) (by omega)
  have d4:=rs_pu (valL a (addP p 1 v)-valL a p) (by omega)
  have d5:=rside_pu (p:=p) ha ⟨by omega,by omega⟩
  have d6:=fun h=>rover_pu (valL a p) (valL a (addP p 1 v)-valL a p) (by omega) (by omega) h
  have hq:=ht_div (valL a p) (valL a (addP p 1 v)-valL a p)
  have d7:=ropp_pu (valL a p/(valL a (addP p 1 v)-valL a p)) (by omega)
  unfold nearStep at hgo
  have hnum:(valL a (addP p 1 v)-valL a p).num.sign≠0→(valL a (addP p 1 v)-valL a p).num≠0:=fun h e=>h (by rw [e];rfl)
  generalize valL a (addP p 1 v)=A at *
  generalize valL a p=B at *
  generalize -(B/(A-B))=t at *
  have d8:=rs_pu t (by omega)
  have d9:=rhalfQ_pu t (by omega)
  have d10:=rc_pu (t/2) s (by omega) (by omega)
  generalize(A-B).num.sign=z1 at *
  generalize sideL a p=z2 at *
  generalize t.num.sign=z3 at *
  generalize(t/2-s).num.sign=z4 at *
  clear hK hh ham hs hget hadd hq
  by_cases hz1:z1=0
  ·rw [if_pos (.inl hz1)]at hgo
   subst hz1
   replace hgo:=hgo s rfl hsb
   clear d6 hnum b1 b2 b3 b4 b5
   repeat(refine A1 ⟨?_⟩;intros)
   refine Wo (ov_idxS (cs':=lqx a) rfl rfl (by omega) (by omega) hat hne) ?_
   repeat(first|(refine A1 ⟨?_⟩;intros)|refine W4 rof1 ⟨?_⟩|refine W4 d0 ⟨?_⟩|refine W4 d1 ⟨?_⟩|refine W4 d2 ⟨?_⟩|refine W4 d3 ⟨?_⟩|refine W4 d4 ⟨?_⟩|refine W4 d5 ⟨?_⟩)
   exact hgo _ _ lfA (List.Sublist.cons _ (List.Sublist.cons _ (List.Sublist.refl _)))
  ·by_cases hz2:z2=0
   ·rw [if_pos (.inr hz2)]at hgo
    subst hz2
    replace hgo:=hgo s rfl hsb
    clear d6 hnum b1 b2 b3 b4 b5
    repeat(refine A1 ⟨?_⟩;intros)
    refine Wo (ov_idxS (cs':=lqx a) rfl rfl (by omega) (by omega) hat hne) ?_
    repeat(first|(refine A1 ⟨?_⟩;intros)|refine W4 rof1 ⟨?_⟩|refine W4 d0 ⟨?_⟩|refine W4 d1 ⟨?_⟩|refine W4 d2 ⟨?_⟩|refine W4 d3 ⟨?_⟩|refine W4 d4 ⟨?_⟩|refine W4 d5 ⟨?_⟩)
    exact hgo _ _ lfA (by repeat(first|exact List.Sublist.refl _|refine List.Sublist.cons _ ?_))
   ·rw [if_neg (fun h=>h.elim hz1 hz2)]at hgo
    replace d6:=d6 (hnum hz1)
    by_cases hz3:0<z3
    ·by_cases hz4:z4<0
     ·rw [if_pos ⟨hz3,hz4⟩]at hgo
      replace hgo:=hgo _ rfl (by omega)
      clear hnum b1 b2 b3 b4 b5
      generalize t/2=t2 at *
      repeat(refine A1 ⟨?_⟩;intros)
      refine Wo (ov_idxS (cs':=lqx a) rfl rfl (by omega) (by omega) hat hne) ?_
      repeat(first|(refine A1 ⟨?_⟩;intros)|refine W4 rof1 ⟨?_⟩|refine W4 d0 ⟨?_⟩|refine W4 d1 ⟨?_⟩|refine W4 d2 ⟨?_⟩|refine W4 d3 ⟨?_⟩|refine W4 d4 ⟨?_⟩|refine W4 d5 ⟨?_⟩|refine W4 d6 ⟨?_⟩|refine W4 d7 ⟨?_⟩|refine W4 d8 ⟨?_⟩|refine W4 d9 ⟨?_⟩|refine W4 d10 ⟨?_⟩)
      exact hgo _ _ lfA (by repeat(first|exact List.Sublist.refl _|refine List.Sublist.cons _ ?_))
     ·rw [if_neg (fun h=>hz4 h.2)]at hgo
      replace hgo:=hgo s rfl hsb
      clear hnum b1 b2 b3 b4 b5
      generalize t/2=t2 at *
      repeat(refine A1 ⟨?_⟩;intros)
      refine Wo (ov_idxS (cs':=lqx a) rfl rfl (by omega) (by omega) hat hne) ?_
      repeat(first|(refine A1 ⟨?_⟩;intros)|refine W4 rof1 ⟨?_⟩|refine W4 d0 ⟨?_⟩|refine W4 d1 ⟨?_⟩|refine W4 d2 ⟨?_⟩|refine W4 d3 ⟨?_⟩|refine W4 d4 ⟨?_⟩|refine W4 d5 ⟨?_⟩|refine W4 d6 ⟨?_⟩|refine W4 d7 ⟨?_⟩|refine W4 d8 ⟨?_⟩|refine W4 d9 ⟨?_⟩|refine W4 d10 ⟨?_⟩)
      exact hgo _ _ lfA (by repeat(first|exact List.Sublist.refl _|refine List.Sublist.cons _ ?_))
    ·rw [if_neg (fun h=>hz3 h.1)]at hgo
     replace hgo:=hgo s rfl hsb
     clear hnum b1 b2 b3 b4 b5
     repeat(refine A1 ⟨?_⟩;intros)
     refine Wo (ov_idxS (cs':=lqx a) rfl rfl (by omega) (by omega) hat hne) ?_
     repeat(first|(refine A1 ⟨?_⟩;intros)|refine W4 rof1 ⟨?_⟩|refine W4 d0 ⟨?_⟩|refine W4 d1 ⟨?_⟩|refine W4 d2 ⟨?_⟩|refine W4 d3 ⟨?_⟩|refine W4 d4 ⟨?_⟩|refine W4 d5 ⟨?_⟩|refine W4 d6 ⟨?_⟩|refine W4 d7 ⟨?_⟩|refine W4 d8 ⟨?_⟩)
     exact hgo _ _ lfA (by repeat(first|exact List.Sublist.refl _|refine List.Sublist.cons _ ?_))
 ·have hke:k=l.length:=by omega
  subst hke
  rw [List.take_length]at hs
  have c:=gadd_pu p.1 p.2 s v.1 v.2 (by omega) (by omega) (by omega) (by omega) (by omega)
  have e:nearP l p v=addP p s v:=by unfold nearP;rw [hs]
  rw [e]
  clear hK hh hs e
  repeat(first|(refine A1 ⟨?_⟩;intros)|refine W4 c ⟨?_⟩)
  ((first|refine endR ?_|refine endN ?_);refine end1 RVa (Le.refl _))
abbrev spx (s:Spn):List SV:=[lit (.bool (decide (s.lo.num<0))),nat s.lo.num.natAbs,dg (dden s.lo.den),lit (.bool (decide (s.hi.num<0))),nat s.hi.num.natAbs,dg (dden s.hi.den),lit (.bool s.nl),lit (.bool s.nh)]
theorem spx_len (s:Spn):(spx s).length=8:=rfl
abbrev sps (l:List Spn):SV:=sl (l.map spx).flatten l.length
def clsAB (a b:Int):Int:=if 0<a∧b<0 then 2 else if(a=0∧b≤0)∨(b=0∧0≤a)then 1 else 0
theorem clsS_eq (s:Spn) (t:Rat):clsS s t=clsAB (if s.nl then 1 else(t-s.lo).num.sign) (if s.nh then -1 else(t-s.hi).num.sign):=rfl
set_option maxHeartbeats 4000000 in
theorem rclass_pu (l:List Spn) (t:Rat) (hl:l.length≤100000) (hh:∀s∈l,s.le 100000) (ht':ht t≤100000):Pu Tryz.prog 260 [sps l,rq t] (lit (.int .i64 (clsL l t))):=by
  refine Pu.intro Tryz.func260 rfl (by kernel_rfl) fun C=>?_
  repeat(refine A1 ⟨?_⟩;intros)
  rename_i b3
  refine WP.loopS (ι:=Nat) (fun k=>k≤l.length∧clsL (l.drop k) t=clsL l t) (fun k=>l.length-k) (fun k=>fm [(3,lit (.pointer (some ⟨b3,0,none⟩))),(9,sps l),(10,lit (.int .i64 l.length)),(11,lit (.int .i64 k))]) (fun _=>[(b3,30,rqx t)]) 0
    ⟨Nat.zero_le _,rfl⟩ lfA (List.Sublist.refl _) ?_
  rintro k ⟨hk,hR⟩ K hK
  by_cases hkl:k<l.length
  · obtain⟨s,hget,hsm,hat,hne⟩:=elt spx_len (by omega) hkl
    have hs:=hh s hsm
    have hgo:=fun(h:clsL (l.drop (k+1)) t=clsL l t) F' H'=>hK F' H' (k+1) ⟨by omega,h⟩ (by omega)
    rw [drop_at hget,clsL,clsS_eq]at hR
    obtain⟨lo,hi,nl,nh⟩:=s
    obtain⟨hs1,hs2⟩:=hs
    simp only at hs1 hs2 hR
    have c1:=rc_pu t lo (by omega) (by omega)
    have c2:=rc_pu t hi (by omega) (by omega)
    generalize(t-lo).num.sign=z1 at *
    generalize(t-hi).num.sign=z2 at *
    generalize clsL (l.drop (k+1)) t=R1 at *
    generalize clsL l t=R at *
    clear hK hh hget hsm hs1 hs2 ht'
    have key:∀a b:Int,(if clsAB a b=0 then R1 else clsAB a b)=R→(0<a∧b<0∧R=2)∨((a=0∧b<0)∧R=1)∨((a=0∧b=0)∧R=1)∨((0<a∧b=0)∧R=1)∨(((a<0)∨(0<b))∧R1=R):=fun a b h=>by
      unfold clsAB at h
      by_cases h1:0<a∧b<0
      · rw [if_pos h1,if_neg (by decide)]at h
        exact .inl ⟨h1.1,h1.2,h.symm⟩
      · rw [if_neg h1]at h
        by_cases h2:(a=0∧b≤0)∨(b=0∧0≤a)
        · rw [if_pos h2,if_neg (by decide)]at h
          right
          rcases h2 with⟨h3,h4⟩|⟨h3,h4⟩
          · by_cases h5:b=0
            · exact .inr (.inl ⟨⟨h3,h5⟩,h.symm⟩)
            · exact .inl ⟨⟨h3,by omega⟩,h.symm⟩
          · by_cases h5:a=0
            · exact .inr (.inl ⟨⟨h5,h3⟩,h.symm⟩)
            · exact .inr (.inr (.inl ⟨⟨by omega,h3⟩,h.symm⟩))
        · rw [if_neg h2,if_pos rfl]at h
          exact .inr (.inr (.inr (.inr ⟨by omega,h⟩)))
    have hkey:=key _ _ hR
    clear key hR
    cases nl <;> cases nh <;> simp only [Bool.false_eq_true,if_false,if_true]at hkey
    all_goals
      rcases hkey with⟨g1,g2,rfl⟩|⟨⟨g1,g2⟩,rfl⟩|⟨⟨g1,g2⟩,rfl⟩|⟨⟨g1,g2⟩,rfl⟩|⟨g|g,rfl⟩
      all_goals first
        |omega
        | (repeat (refine A1 ⟨?_⟩; intros)
           refine Wo (ov_idxS (cs':=spx _) rfl rfl (by omega) (by omega) hat hne) ?_
           repeat(first|(refine A1 ⟨?_⟩;intros)|refine W4 c1 ⟨?_⟩|refine W4 c2 ⟨?_⟩)
           exact endR (end1 (RV.tmp rfl) (Le.refl _)))
        | (replace hgo := hgo rfl
           repeat(refine A1 ⟨?_⟩;intros)
           refine Wo (ov_idxS (cs':=spx _) rfl rfl (by omega) (by omega) hat hne) ?_
           repeat(first|(refine A1 ⟨?_⟩;intros)|refine W4 c1 ⟨?_⟩|refine W4 c2 ⟨?_⟩)
           exact hgo _ _ lfA (by repeat(first|exact List.Sublist.refl _|refine List.Sublist.cons _ ?_)))
        | (replace hgo := hgo rfl
           by_cases e1:z1=0
           · repeat(refine A1 ⟨?_⟩;intros)
             refine Wo (ov_idxS (cs':=spx _) rfl rfl (by omega) (by omega) hat hne) ?_
             repeat(first|(refine A1 ⟨?_⟩;intros)|refine W4 c1 ⟨?_⟩|refine W4 c2 ⟨?_⟩)
             exact hgo _ _ lfA (by repeat(first|exact List.Sublist.refl _|refine List.Sublist.cons _ ?_))
           · by_cases e2:0<z1
             all_goals
               repeat(refine A1 ⟨?_⟩;intros)
               refine Wo (ov_idxS (cs':=spx _) rfl rfl (by omega) (by omega) hat hne) ?_
               repeat(first|(refine A1 ⟨?_⟩;intros)|refine W4 c1 ⟨?_⟩|refine W4 c2 ⟨?_⟩)
               exact hgo _ _ lfA (by repeat(first|exact List.Sublist.refl _|refine List.Sublist.cons _ ?_)))
        | (replace hgo := hgo rfl
           rcases Int.lt_trichotomy z2 0 with e|e|e
           all_goals
             repeat(refine A1 ⟨?_⟩;intros)
             refine Wo (ov_idxS (cs':=spx _) rfl rfl (by omega) (by omega) hat hne) ?_
             repeat(first|(refine A1 ⟨?_⟩;intros)|refine W4 c1 ⟨?_⟩|refine W4 c2 ⟨?_⟩)
             exact hgo _ _ lfA (by repeat(first|exact List.Sublist.refl _|refine List.Sublist.cons _ ?_)))
  · have hke:k=l.length:=by omega
    subst hke
    rw [List.drop_length]at hR
    rw [←hR]
    repeat(refine A1 ⟨?_⟩;intros)
    exact endR (end1 (RV.tmp rfl) (Le.refl _))
theorem rin_pu (l:List Spn) (t:Rat) (hl:l.length≤100000) (hh:∀s∈l,s.le 100000) (ht':ht t≤100000):Pu Tryz.prog 208 [sps l,rq t] (lit (.bool (inL l t))):=by
 have c:=rclass_pu l t hl hh ht'
 unfold inL
 by_cases h:clsL l t=2
 ·rw [decide_eq_true h]
  refine Pu.intro Tryz.func208 rfl (by kernel_rfl) fun C=>?_
  repeat(first|(refine A1 ⟨?_⟩;intros)|refine W4 c ⟨?_⟩)
  exact E1
 ·rw [decide_eq_false h]
  refine Pu.intro Tryz.func208 rfl (by kernel_rfl) fun C=>?_
  repeat(first|(refine A1 ⟨?_⟩;intros)|refine W4 c ⟨?_⟩)
  exact E1
theorem rfull_pu:Pu Tryz.prog 150 [] (ag (spx Spn.full)):=by
 refine Pu.intro Tryz.func150 rfl (by kernel_rfl) fun C=>?_
 repeat(refine A1 ⟨?_⟩;intros)
 ((first|refine endR ?_|refine endN ?_);refine end1 RVa ?_)
 exact Le.ag ⟨Le.refl _,leN0,leD0,Le.refl _,leN0,leD0,Le.refl _,Le.refl _,trivial⟩
theorem endsO_mem {out:List Rat}{s:Spn}{y:Rat}(h:y∈endsO out s):y∈out∨(s.nl=false∧y=s.lo)∨(s.nh=false∧y=s.hi):=by
 unfold endsO at h
 have h1:∀{y},y∈(if s.nl then out else insB rlt out s.lo)→y∈out∨(s.nl=false∧y=s.lo):=fun {y} hy=>by
  split at hy
  ·exact .inl hy
  ·rename_i hn
   rcases insB_mem.1 hy with e|e
   ·exact .inr ⟨by simpa using hn,e⟩
   ·exact .inl e
 simp only at h
 split at h
 ·rcases h1 h with e|e
  ·exact .inl e
  ·exact .inr (.inl e)
 ·rename_i hn
  rcases insB_mem.1 h with e|e
  ·exact .inr (.inr ⟨by simpa using hn,e⟩)
  ·rcases h1 e with e|e
   ·exact .inl e
   ·exact .inr (.inl e)
theorem ends_mem':∀(l:List Spn) (out:List Rat) (y:Rat),y∈l.foldl endsO out→y∈out∨∃s∈l,(s.nl=false∧y=s.lo)∨(s.nh=false∧y=s.hi)
 | [],out,y,h => .inl h
 |s::l,out,y,h=>by
  rcases ends_mem' l _ y h with h|⟨s',h1,h2⟩
  ·rcases endsO_mem h with h|h
   ·exact .inl h
   ·exact .inr ⟨s,List.mem_cons_self,h⟩
  ·exact .inr ⟨s',List.mem_cons_of_mem _ h1,h2⟩
theorem ends_mem {l:List Spn}{y:Rat}(h:y∈endsS l):∃s∈l,(s.nl=false∧y=s.lo)∨(s.nh=false∧y=s.hi):=by
 rcases ends_mem' l [] y h with h|h
 ·cases h
 ·exact h
theorem endsO_len (out:List Rat) (s:Spn):(endsO out s).length≤out.length+2:=by
 have h1:=insB_len rlt out s.lo
 unfold endsO
 simp only
 split
 ·split <;> omega
 ·split
  ·have:=insB_len rlt out s.hi;omega
  ·have:=insB_len rlt (insB rlt out s.lo) s.hi;omega
theorem ends_len':∀(l:List Spn) (out:List Rat),(l.foldl endsO out).length≤out.length+2*l.length
 | [],out=>by simp
 |s::l,out=>by
  have:=ends_len' l (endsO out s)
  have:=endsO_len out s
  rw [List.foldl_cons,List.length_cons]
  omega
theorem ends_len (l:List Spn):(endsS l).length≤2*l.length:=by
 have:=ends_len' l []
 unfold endsS
 simpa using this
theorem ends_ht {l:List Spn}{n:Nat}(h:∀s∈l,s.le n):∀y∈endsS l,ht y≤n:=fun y hy=>by
 obtain⟨s,hs,⟨_,rfl⟩|⟨_,rfl⟩⟩:=ends_mem hy
 ·exact(h s hs).1
 ·exact(h s hs).2
theorem probes_len (c:List Rat):(probes c).length=c.length+1:=by
 cases c with
 |nil=>rfl
 |cons a c=>unfold probes;simp
theorem midR_ht (x y:Rat){n:Nat}(h:ht x≤n) (k:ht y≤n):ht (midR x y)≤2*n+4:=by
 have h1:=ht_add x y
 have h2:ht (2:Rat)≤1:=ht_small 2 (by omega)
 have h3:=ht_div (x+y) 2
 unfold midR
 omega
theorem zw_mem {α β γ:Type}{f:α→β→γ}:∀{a:List α}{b:List β}{y:γ},y∈List.zipWith f a b→∃p∈a,∃q∈b,y=f p q
 | [],b,y,h=>by simp at h
 |_::_,[],y,h=>by simp at h
 |p::a,q::b,y,h=>by
  rw [List.zipWith_cons_cons,List.mem_cons]at h
  rcases h with h|h
  ·exact⟨p,List.mem_cons_self,q,List.mem_cons_self,h⟩
  ·obtain⟨p',h1,q',h2,h3⟩:=zw_mem h
   exact⟨p',List.mem_cons_of_mem _ h1,q',List.mem_cons_of_mem _ h2,h3⟩
theorem probes_ht {c:List Rat}{n:Nat}(h:∀y∈c,ht y≤n):∀y∈probes c,ht y≤2*n+4:=by
 have h1:=ht_one
 have h0:=ht_zero
 cases c with
 |nil=>intro y hy;simp only [probes,List.mem_singleton]at hy;rw [hy];omega
 |cons a c =>
  intro y hy
  unfold probes at hy
  simp only [List.mem_cons,List.mem_append,List.mem_singleton,List.not_mem_nil,or_false]at hy
  rcases hy with hy|hy|hy
  ·have:=h a List.mem_cons_self
   have:=ht_sub a 1
   rw [hy];omega
  ·obtain⟨p,hp,q,hq,rfl⟩:=zw_mem hy
   exact midR_ht p q (h p hp) (h q (List.mem_cons_of_mem _ hq))
  ·have hg:(a::c).getLast (by simp)∈a::c:=List.getLast_mem _
   have:=h _ hg
   have:=ht_add ((a::c).getLast (by simp)) 1
   rw [hy];omega
def SpIn (c:List Rat) (s:Spn):Prop:=(s.lo=0∨s.lo∈c)∧(s.hi=0∨s.hi∈c)
theorem fromStep_len (c:List Rat) (marks:List Bool) (out:List Spn) (i:Nat):(fromStep c marks out i).length≤out.length+1:=by
 unfold fromStep
 split
 ·omega
 ·split
  ·rw [List.length_set];omega
  ·rw [List.length_append,List.length_singleton];omega
theorem SpIn.le {c:List Rat}{s:Spn}{n:Nat}(h:SpIn c s) (hn:1≤n) (hc:∀y∈c,ht y≤n):s.le n:=by
 have h0:=ht_zero
 constructor
 ·rcases h.1 with e|e
  ·rw [e];omega
  ·exact hc _ e
 ·rcases h.2 with e|e
  ·rw [e];omega
  ·exact hc _ e
def endsK (out:List Rat) (s:Spn):Nat→List Rat
 |0=>out
 |1=>if s.nl then out else insB rlt out s.lo
 |_=>endsO out s
theorem rlt_zero {o x:Rat}:(o-x).num.sign=0↔o=x:=by rw [rsign_zero];grind
set_option maxHeartbeats 8000000 in
theorem rends_pu (l:List Spn) (hl:l.length≤100000) (hh:∀s∈l,s.le 100000):Pu Tryz.prog 206 [sps l] (rqs (endsS l)):=by
 refine Pu.intro Tryz.func206 rfl (by kernel_rfl) fun C=>?_
 repeat(refine A1 ⟨?_⟩;intros)
 refine WP.loopS (ι:=Nat) (fun k=>k≤l.length) (fun k=>l.length-k) (fun k=>fm [(3,rqs (endsS (l.take k))),(9,sps l),(10,lit (.int .i64 l.length)),(11,lit (.int .i64 k))]) (fun _=>[]) 0
  (Nat.zero_le _) (LeF.cons le_nilS lfA) (List.nil_sublist _) ?_
 rintro k hk K hK
 by_cases hkl:k<l.length
 ·obtain⟨s,hget,hsm0,hat,hne⟩:=elt spx_len (by omega) hkl
  obtain⟨hlo,hhi⟩:=hh s hsm0
  obtain⟨lo,hi,nl,nh⟩:=s
  simp only at hlo hhi
  have hgo:=fun F' H' h1 h2=>hK F' H' (k+1) (by omega) (by omega) h1 h2
  rw [show endsS (l.take (k+1))=endsO (endsS (l.take k)) ⟨lo,hi,nl,nh⟩from foldl_take hget]at hgo
  have hsm:∀q∈endsS (l.take k),ht q≤100000:=ends_ht fun s hs=>hh s (List.mem_of_mem_take hs)
  have hsl:=ends_len (l.take k)
  rw [List.length_take]at hsl
  generalize endsS (l.take k)=out0 at hgo hsm hsl⊢
  clear hK hh hsm0 hget
  repeat(refine A1 ⟨?_⟩;intros)
  refine Wo (ov_idxS (cs':=spx ⟨lo,hi,nl,nh⟩) rfl rfl (by omega) (by omega) hat hne) ?_
  repeat(first|(refine Wo (ov_bsK (r:=[(0,rqx lo),(1,rqx hi)]) (cs:=([lo,hi].map rqx).flatten) (.cons (sv:=ag (rqx lo)) rfl inferInstance (.cons (sv:=ag (rqx hi)) rfl inferInstance .nil))) ?_)|(refine Wdo (ov_bsK (r:=[(0,rqx lo),(1,rqx hi)]) (cs:=([lo,hi].map rqx).flatten) (.cons (sv:=ag (rqx lo)) rfl inferInstance (.cons (sv:=ag (rqx hi)) rfl inferInstance .nil))) ?_)|(refine A1 ⟨?_⟩;intros))
  rename_i b5
  refine WP.loopS (ι:=Nat) (fun j=>j≤2) (fun j=>2-j) (fun j=>fm [(3,rqs (endsK out0 ⟨lo,hi,nl,nh⟩ j)),(5,lit (.pointer (some ⟨b5,0,none⟩))),(9,sps l),(10,lit (.int .i64 l.length)),(11,lit (.int .i64 k)),(19,sl ([lo,hi].map rqx).flatten 2),(20,lit (.int .i64 2)),(21,lit (.int .i64 j))]) (fun _=>[(b5,220,spx ⟨lo,hi,nl,nh⟩)]) 0
   (by omega) lfA (List.Sublist.refl _) ?_
  rintro i hile K3 hK3
  have hst:∀(i:Nat) (x:Rat) (nx:Bool),i<2→x=[lo,hi].getD i 0→nx=(if i=0 then nl else nh)→endsK out0 ⟨lo,hi,nl,nh⟩ (i+1)=if nx then endsK out0 ⟨lo,hi,nl,nh⟩ i else insB rlt (endsK out0 ⟨lo,hi,nl,nh⟩ i) x:=by
   intro i x nx h1 h2 h3
   have:i=0∨i=1:=by omega
   rcases this with rfl|rfl
   ·rw [h2,h3];rfl
   ·rw [h2,h3];rfl
  by_cases hi2:i<2
  ·have hi01:i=0∨i=1:=by omega
   obtain⟨x,hx⟩:∃x,x=[lo,hi].getD i 0:=⟨_,rfl⟩
   obtain⟨nx,hnx⟩:∃nx,nx=(if i=0 then nl else nh):=⟨_,rfl⟩
   have hgo3:=fun F' H'=>hK3 F' H' (i+1) (by omega) (by omega)
   rw [hst i x nx hi2 hx hnx]at hgo3
   have hxb:ht x≤100000:=by rcases hi01 with rfl|rfl <;> rw [hx] <;> assumption
   have hat3:((([lo,hi].map rqx).flatten).drop (i*3)).take 3=rqx x:=by rcases hi01 with rfl|rfl <;> rw [hx] <;> rfl
   have hsm3:∀q∈endsK out0 ⟨lo,hi,nl,nh⟩ i,ht q≤100000:=by
    have h1:∀q∈insB rlt out0 lo,ht q≤100000:=fun q hq=>(insB_mem.1 hq).elim (fun e=>e▸hlo) (hsm q)
    rcases hi01 with rfl|rfl
    ·exact hsm
    ·show∀q∈(if nl then out0 else insB rlt out0 lo),ht q≤100000
     split
     ·exact hsm
     ·exact h1
   have hsl3:(endsK out0 ⟨lo,hi,nl,nh⟩ i).length≤300000:=by
    have:=insB_len rlt out0 lo
    rcases hi01 with rfl|rfl
    ·show out0.length≤_;omega
    ·show(if nl then out0 else insB rlt out0 lo).length≤_
     split <;> omega
   clear hst hK3 hgo hx
   generalize endsK out0 ⟨lo,hi,nl,nh⟩ i=out at *
   cases hnv:nx with
   |true =>
    rw [hnv,if_pos rfl]at hgo3
    rw [hnv]at hnx
    clear hsm hsm3
    rcases hi01 with rfl|rfl
    ·have hnl:nl=true:=hnx.symm
     subst hnl
     clear hnx
     repeat(refine A1 ⟨?_⟩;intros)
     refine Wo (ov_idxS (cs':=rqx x) rfl rfl (by omega) (by omega) hat3 (by intro h;cases h)) ?_
     repeat(refine A1 ⟨?_⟩;intros)
     exact hgo3 _ _ lfA (by repeat(first|exact List.Sublist.refl _|refine List.Sublist.cons _ ?_))
    ·have hnl:nh=true:=hnx.symm
     subst hnl
     clear hnx
     repeat(refine A1 ⟨?_⟩;intros)
     refine Wo (ov_idxS (cs':=rqx x) rfl rfl (by omega) (by omega) hat3 (by intro h;cases h)) ?_
     repeat(refine A1 ⟨?_⟩;intros)
     exact hgo3 _ _ lfA (by repeat(first|exact List.Sublist.refl _|refine List.Sublist.cons _ ?_))
   |false =>
    rw [hnv,if_neg (by decide)]at hgo3
    rw [hnv]at hnx
    have hcx:(i=0∧nl=false)∨(i=1∧nh=false):=by
     rcases hi01 with rfl|rfl
     ·exact .inl ⟨rfl,hnx.symm⟩
     ·exact .inr ⟨rfl,hnx.symm⟩
    have hgo:=hgo3
    clear hgo3 hsm hnx hi01 hsl
    have hsm:=hsm3
    have hsl:=hsl3
    clear hsm3 hsl3
    rcases hcx with⟨hi0,hnl⟩|⟨hi0,hnl⟩
    ·subst hnl
     repeat(refine A1 ⟨?_⟩;intros)
     refine Wo (ov_idxS (cs':=rqx x) rfl rfl (by omega) (by omega) hat3 (by intro h;cases h)) ?_
     repeat(refine A1 ⟨?_⟩;intros)
     rename_i b7
     refine WP.loopS (ι:=Nat) (fun j=>j≤posI rlt out x) (fun j=>out.length-j) (fun j=>fm [(3,sl (out.map rqx).flatten out.length),(8,lit (.int .i64 j)),(5,lit (.pointer (some ⟨b5,0,none⟩))),(7,lit (.pointer (some ⟨b7,0,none⟩))),(9,sps l),(10,lit (.int .i64 l.length)),(11,lit (.int .i64 k)),(19,sl ([lo,hi].map rqx).flatten 2),(20,lit (.int .i64 2)),(21,lit (.int .i64 i))]) (fun _=>[(b7,30,rqx x),(b5,220,spx ⟨lo,hi,false,nh⟩)]) 0 (Nat.zero_le _) lfA (List.Sublist.refl _) ?_
     rintro j hj K2 hK2
     have hpl:=posI_le rlt out x
     obtain⟨hfl,hdl,htl,hpl2,hins,hln⟩:=insF rqx_len out x j (by omega)
     by_cases hjl:j<out.length
     ·obtain⟨o,hget2,hom,hat2,hne2⟩:=elt rqx_len (by omega) hjl
      have ho:=hsm o hom
      obtain⟨z,hzz⟩:∃z,z=(o-x).num.sign:=⟨_,rfl⟩
      have c:=rc_pu o x (by omega) (by omega)
      have hlt:rlt o x=decide (z<0):=by subst hzz;rfl
      have heq:z=0↔o=x:=by rw [hzz];exact rlt_zero
      rw [←hzz]at c
      obtain⟨s1,s2⟩:=posI_step (lt:=rlt) (x:=x) hj hget2
      rw [hlt]at s1 s2
      by_cases hneg:z<0
      ·have hj1:=s1 (decide_eq_true hneg)
       clear hgo s1 s2
       repeat(refine A1 ⟨?_⟩;intros)
       refine Wdog (ov_idxS (cs':=rqx o) rfl rfl (by omega) (by omega) hat2 hne2) ?_
       repeat(first|(refine A1 ⟨?_⟩;intros)|refine W4 c ⟨?_⟩)
       exact hK2 _ _ (j+1) hj1 (by omega) lfA (List.Sublist.refl _)
      ·have hje:=s2 (decide_eq_false hneg)
       clear hK2 s1 s2
       by_cases hz:o=x
       ·rw [insB_eq hje hget2 hz]at hgo
        have hz0:=heq.2 hz
        clear heq
        repeat(refine A1 ⟨?_⟩;intros)
        refine Wdog (ov_idxS (cs':=rqx o) rfl rfl (by omega) (by omega) hat2 hne2) ?_
        repeat(first|(refine A1 ⟨?_⟩;intros)|refine W4 c ⟨?_⟩)
        refine Wdog (ov_idxS (cs':=rqx o) rfl rfl (by omega) (by omega) hat2 hne2) ?_
        repeat(first|(refine A1 ⟨?_⟩;intros)|refine W4 c ⟨?_⟩)
        exact hgo _ _ lfA (by repeat(first|exact List.Sublist.refl _|refine List.Sublist.cons _ ?_))
       ·rw [insB_at hje hget2 hz]at hgo
        have hz0:¬z=0:=fun e=>hz (heq.1 e)
        clear heq
        repeat(refine A1 ⟨?_⟩;intros)
        refine Wdog (ov_idxS (cs':=rqx o) rfl rfl (by omega) (by omega) hat2 hne2) ?_
        repeat(first|(refine A1 ⟨?_⟩;intros)|refine W4 c ⟨?_⟩)
        refine Wdog (ov_idxS (cs':=rqx o) rfl rfl (by omega) (by omega) hat2 hne2) ?_
        repeat(first|(refine A1 ⟨?_⟩;intros)|refine W4 c ⟨?_⟩)
        refine Wdo (ov_sl3X j rfl rfl rfl rfl rfl hfl (by omega)) ?_
        repeat(first|(refine Wdo (ov_bsX (s:=ag (rqx x)) (ds:=rqx x) rfl inferInstance) ?_)|(refine Wdo (ov_slFn j rfl rfl rfl hfl (by omega)) ?_)|(refine A1 ⟨?_⟩;intros))
        refine Wdo (ov_appXK (k:=1) (k0:=out.length-j) rfl rfl rfl hdl (by omega)) ?_
        refine Wdo (ov_appXK (k:=j) (k0:=1+(out.length-j)) rfl rfl htl hpl2 (by omega)) ?_
        rw [hins,hln]
        repeat(refine A1 ⟨?_⟩;intros)
        exact hgo _ _ lfA (by repeat(first|exact List.Sublist.refl _|refine List.Sublist.cons _ ?_))
     ·have hje:j=out.length:=by omega
      rw [insB_end hje hj]at hgo
      clear hK2
      repeat(refine A1 ⟨?_⟩;intros)
      refine Wdo (ov_sl3X j rfl rfl rfl rfl rfl hfl (by omega)) ?_
      repeat(first|(refine Wdo (ov_bsX (s:=ag (rqx x)) (ds:=rqx x) rfl inferInstance) ?_)|(refine Wdo (ov_slFn j rfl rfl rfl hfl (by omega)) ?_)|(refine A1 ⟨?_⟩;intros))
      refine Wdo (ov_appXK (k:=1) (k0:=out.length-j) rfl rfl rfl hdl (by omega)) ?_
      refine Wdo (ov_appXK (k:=j) (k0:=1+(out.length-j)) rfl rfl htl hpl2 (by omega)) ?_
      rw [hins,hln]
      repeat(refine A1 ⟨?_⟩;intros)
      exact hgo _ _ lfA (by repeat(first|exact List.Sublist.refl _|refine List.Sublist.cons _ ?_))
    ·subst hnl
     repeat(refine A1 ⟨?_⟩;intros)
     refine Wo (ov_idxS (cs':=rqx x) rfl rfl (by omega) (by omega) hat3 (by intro h;cases h)) ?_
     repeat(refine A1 ⟨?_⟩;intros)
     rename_i b7
     refine WP.loopS (ι:=Nat) (fun j=>j≤posI rlt out x) (fun j=>out.length-j) (fun j=>fm [(3,sl (out.map rqx).flatten out.length),(8,lit (.int .i64 j)),(5,lit (.pointer (some ⟨b5,0,none⟩))),(7,lit (.pointer (some ⟨b7,0,none⟩))),(9,sps l),(10,lit (.int .i64 l.length)),(11,lit (.int .i64 k)),(19,sl ([lo,hi].map rqx).flatten 2),(20,lit (.int .i64 2)),(21,lit (.int .i64 i))]) (fun _=>[(b7,30,rqx x),(b5,220,spx ⟨lo,hi,nl,false⟩)]) 0 (Nat.zero_le _) lfA (List.Sublist.refl _) ?_
     rintro j hj K2 hK2
     have hpl:=posI_le rlt out x
     obtain⟨hfl,hdl,htl,hpl2,hins,hln⟩:=insF rqx_len out x j (by omega)
     by_cases hjl:j<out.length
     ·obtain⟨o,hget2,hom,hat2,hne2⟩:=elt rqx_len (by omega) hjl
      have ho:=hsm o hom
      obtain⟨z,hzz⟩:∃z,z=(o-x).num.sign:=⟨_,rfl⟩
      have c:=rc_pu o x (by omega) (by omega)
      have hlt:rlt o x=decide (z<0):=by subst hzz;rfl
      have heq:z=0↔o=x:=by rw [hzz];exact rlt_zero
      rw [←hzz]at c
      obtain⟨s1,s2⟩:=posI_step (lt:=rlt) (x:=x) hj hget2
      rw [hlt]at s1 s2
      by_cases hneg:z<0
      ·have hj1:=s1 (decide_eq_true hneg)
       clear hgo s1 s2
       repeat(refine A1 ⟨?_⟩;intros)
       refine Wdog (ov_idxS (cs':=rqx o) rfl rfl (by omega) (by omega) hat2 hne2) ?_
       repeat(first|(refine A1 ⟨?_⟩;intros)|refine W4 c ⟨?_⟩)
       exact hK2 _ _ (j+1) hj1 (by omega) lfA (List.Sublist.refl _)
      ·have hje:=s2 (decide_eq_false hneg)
       clear hK2 s1 s2
       by_cases hz:o=x
       ·rw [insB_eq hje hget2 hz]at hgo
        have hz0:=heq.2 hz
        clear heq
        repeat(refine A1 ⟨?_⟩;intros)
        refine Wdog (ov_idxS (cs':=rqx o) rfl rfl (by omega) (by omega) hat2 hne2) ?_
        repeat(first|(refine A1 ⟨?_⟩;intros)|refine W4 c ⟨?_⟩)
        refine Wdog (ov_idxS (cs':=rqx o) rfl rfl (by omega) (by omega) hat2 hne2) ?_
        repeat(first|(refine A1 ⟨?_⟩;intros)|refine W4 c ⟨?_⟩)
        exact hgo _ _ lfA (by repeat(first|exact List.Sublist.refl _|refine List.Sublist.cons _ ?_))
       ·rw [insB_at hje hget2 hz]at hgo
        have hz0:¬z=0:=fun e=>hz (heq.1 e)
        clear heq
        repeat(refine A1 ⟨?_⟩;intros)
        refine Wdog (ov_idxS (cs':=rqx o) rfl rfl (by omega) (by omega) hat2 hne2) ?_
        repeat(first|(refine A1 ⟨?_⟩;intros)|refine W4 c ⟨?_⟩)
        refine Wdog (ov_idxS (cs':=rqx o) rfl rfl (by omega) (by omega) hat2 hne2) ?_
        repeat(first|(refine A1 ⟨?_⟩;intros)|refine W4 c ⟨?_⟩)
        refine Wdo (ov_sl3X j rfl rfl rfl rfl rfl hfl (by omega)) ?_
        repeat(first|(refine Wdo (ov_bsX (s:=ag (rqx x)) (ds:=rqx x) rfl inferInstance) ?_)|(refine Wdo (ov_slFn j rfl rfl rfl hfl (by omega)) ?_)|(refine A1 ⟨?_⟩;intros))
        refine Wdo (ov_appXK (k:=1) (k0:=out.length-j) rfl rfl rfl hdl (by omega)) ?_
        refine Wdo (ov_appXK (k:=j) (k0:=1+(out.length-j)) rfl rfl htl hpl2 (by omega)) ?_
        rw [hins,hln]
        repeat(refine A1 ⟨?_⟩;intros)
        exact hgo _ _ lfA (by repeat(first|exact List.Sublist.refl _|refine List.Sublist.cons _ ?_))
     ·have hje:j=out.length:=by omega
      rw [insB_end hje hj]at hgo
      clear hK2
      repeat(refine A1 ⟨?_⟩;intros)
      refine Wdo (ov_sl3X j rfl rfl rfl rfl rfl hfl (by omega)) ?_
      repeat(first|(refine Wdo (ov_bsX (s:=ag (rqx x)) (ds:=rqx x) rfl inferInstance) ?_)|(refine Wdo (ov_slFn j rfl rfl rfl hfl (by omega)) ?_)|(refine A1 ⟨?_⟩;intros))
      refine Wdo (ov_appXK (k:=1) (k0:=out.length-j) rfl rfl rfl hdl (by omega)) ?_
      refine Wdo (ov_appXK (k:=j) (k0:=1+(out.length-j)) rfl rfl htl hpl2 (by omega)) ?_
      rw [hins,hln]
      repeat(refine A1 ⟨?_⟩;intros)
      exact hgo _ _ lfA (by repeat(first|exact List.Sublist.refl _|refine List.Sublist.cons _ ?_))
  ·have hie:i=2:=by omega
   subst hie
   clear hK3
   repeat(refine A1 ⟨?_⟩;intros)
   exact hgo _ _ lfA (List.nil_sublist _)
 ·have hke:k=l.length:=by omega
  subst hke
  rw [List.take_length]
  repeat(refine A1 ⟨?_⟩;intros)
  exact endR (end1 (RV.tmp rfl) (Le.refl _))
end Go.Ab
