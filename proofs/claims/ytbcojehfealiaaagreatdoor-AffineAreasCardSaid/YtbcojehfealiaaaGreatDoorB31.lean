/- Texts laid one behind the other: GwB, GwC, GwD. -/
import Derived.Test.YtbcojehfealiaaaGreatDoorB30
set_option linter.all false
set_option maxHeartbeats 16000000
namespace Go.Ab
open Go.Proofs
variable [Base]
abbrev rqx (x:Rat):List SV:=[lit (.bool (decide (x.num<0))),nat x.num.natAbs,dg (gO x.den)]
theorem gZ (x:Rat):(rqx x).length=3:=rfl
abbrev rqs (l:List Rat):SV:=sl (l.map rqx).flatten l.length
theorem CW {l:List Li}{k:Nat}{a:Li}(h:l[k]? = some a):pu (l.take (k+1))=gq llt (pu (l.take k)) (gt a):=km h
theorem uQ (l:List Li) (hl:l.length≤100000) (hh:∀m∈l,m.le 1000000):Pu Tryz.prog 121 [lqs l] (lqs (pu l)):=by
 refine Pi Tryz.func121 fun C=>?_
 repeat(refine A1 ⟨?_⟩;intros)
 refine WP.loopS (ι:=Nat) (fun k=>k≤l.length) (fun k=>l.length-k) (fun k=>fm [(3,lqs (pu (l.take k))),(7,lqs l),(8,lit (.int .i64 l.length)),(9,lit (.int .i64 k))]) (fun _=>[]) 0
  (Nat.zero_le _) (LeF.cons ft lfA) (List.nil_sublist _) ?_
 rintro k hk K hK;by_cases hkl:k<l.length
 ·obtain⟨a,hget,ham,hat,hne⟩:=elt fq om hkl;have ha:=hh a ham;have cc:=C5 ha
  have hx:(gt a).le 1000000:=by
   unfold gt;split
   ·exact⟨by show il (-a.a)≤_;rw [cH];exact ha.a,by show il (-a.b)≤_;rw [cH];exact ha.b,by show il (-a.c)≤_;rw [cH];exact ha.c⟩
   ·exact ha
  have hgo:=fun F' H' h1 h2=>hK F' H' (k+1) om om h1 h2
  rw [CW hget]at hgo
  have hsm:∀q∈pu (l.take k),q.le 1000000:=fun q hq=>by
   obtain⟨y,hy,rfl⟩:=FR.1 hq;have h:=hh y (List.mem_of_mem_take hy);unfold gt;split
   ·exact⟨by show il (-y.a)≤_;rw [cH];exact h.a,by show il (-y.b)≤_;rw [cH];exact h.b,by show il (-y.c)≤_;rw [cH];exact h.c⟩
   ·exact h
  have hsl:=FS (l.take k);rw [List.length_take]at hsl;generalize pu (l.take k)=out at hgo hsm hsl⊢;generalize gt a=x at *;generalize IR a=fl at *;clear hK hh ha ham hget;repeat(refine A1 ⟨?_⟩;intros)
  refine Wo (aa (cs':=lqx a) rfl rfl om om hat hne) ?_;repeat(first|(refine A1 ⟨?_⟩;intros)|refine W4 cc ⟨?_⟩)
  rename_i b5;refine WP.loopS (ι:=Nat) (fun j=>j≤gh llt out x) (fun j=>out.length-j) (fun j=>fm [(3,sl (out.map lqx).flatten out.length),(6,lit (.int .i64 j)),(5,lit (.pointer (some ⟨b5,0,none⟩))),(7,lqs l),(8,lit (.int .i64 l.length)),(9,lit (.int .i64 k))]) (fun _=>[(b5,123,lqx x)]) 0 (Nat.zero_le _) lfA Sr ?_;rintro j hj K2 hK2;have hpl:=lI llt out x;obtain⟨hfl,hdl,htl,hpl2,hins,hln⟩:=Iw fq out x j om;by_cases hjl:j<out.length
  ·obtain⟨o,hget2,hom,hat2,hne2⟩:=elt fq om hjl;have ho:=hsm o hom;obtain⟨z,hzz⟩:∃z,z=kz o x:=⟨_,rfl⟩
   have c:=r9 ho hx;have hlt:llt o x=decide (z<0):=by rw [hzz]
   have heq:z=0↔o=x:=by rw [hzz];exact dS
   rw [←hzz]at c;obtain⟨s1,s2⟩:=lH (lt:=llt) (x:=x) hj hget2;rw [hlt]at s1 s2;by_cases hneg:z<0
   ·have hj1:=s1 (decide_eq_true hneg);clear hgo s1 s2
    as_aux_lemma =>
     repeat(refine A1 ⟨?_⟩;intros)
     refine cT (aa (cs':=lqx o) rfl rfl om om hat2 hne2) ?_;repeat(first|(refine A1 ⟨?_⟩;intros)|refine W4 c ⟨?_⟩)
     exact hK2 _ _ (j+1) hj1 om lfA Sr
   ·have hje:=s2 (decide_eq_false hneg);clear hK2 s1 s2;by_cases hz:o=x
    ·rw [ql hje hget2 hz]at hgo;have hz0:=heq.2 hz;clear heq
     as_aux_lemma =>
      repeat(refine A1 ⟨?_⟩;intros)
      refine cT (aa (cs':=lqx o) rfl rfl om om hat2 hne2) ?_;repeat(first|(refine A1 ⟨?_⟩;intros)|refine W4 c ⟨?_⟩)
      refine cT (aa (cs':=lqx o) rfl rfl om om hat2 hne2) ?_;repeat(first|(refine A1 ⟨?_⟩;intros)|refine W4 c ⟨?_⟩)
      exact hgo _ _ lfA (List.nil_sublist _)
    ·rw [qm hje hget2 hz]at hgo;have hz0:¬z=0:=fun e=>hz (heq.1 e)
     clear heq
     as_aux_lemma =>
      repeat(refine A1 ⟨?_⟩;intros)
      refine cT (aa (cs':=lqx o) rfl rfl om om hat2 hne2) ?_;repeat(first|(refine A1 ⟨?_⟩;intros)|refine W4 c ⟨?_⟩)
      refine cT (aa (cs':=lqx o) rfl rfl om om hat2 hne2) ?_;repeat(first|(refine A1 ⟨?_⟩;intros)|refine W4 c ⟨?_⟩)
      refine Wdo (gB j rfl rfl rfl rfl rfl hfl om) ?_;repeat(first|(refine Wdo (iB (s:=ag (lqx x)) (ds:=lqx x) rfl inferInstance) ?_)|(refine Wdo (gA j rfl rfl rfl hfl om) ?_)|(refine A1 ⟨?_⟩;intros))
      refine Wdo (aG (k:=1) (k0:=out.length-j) rfl rfl rfl hdl om) ?_;refine Wdo (aG (k:=j) (k0:=1+(out.length-j)) rfl rfl htl hpl2 om) ?_;rw [hins,hln];repeat(refine A1 ⟨?_⟩;intros)
      exact hgo _ _ lfA (List.nil_sublist _)
  ·have hje:j=out.length:=by omega
   rw [o9 hje hj]at hgo;clear hK2
   as_aux_lemma =>
    repeat(refine A1 ⟨?_⟩;intros)
    refine Wdo (gB j rfl rfl rfl rfl rfl hfl om) ?_;repeat(first|(refine Wdo (iB (s:=ag (lqx x)) (ds:=lqx x) rfl inferInstance) ?_)|(refine Wdo (gA j rfl rfl rfl hfl om) ?_)|(refine A1 ⟨?_⟩;intros))
    refine Wdo (aG (k:=1) (k0:=out.length-j) rfl rfl rfl hdl om) ?_;refine Wdo (aG (k:=j) (k0:=1+(out.length-j)) rfl rfl htl hpl2 om) ?_;rw [hins,hln];repeat(refine A1 ⟨?_⟩;intros)
    exact hgo _ _ lfA (List.nil_sublist _)
 ·have hke:k=l.length:=by omega
  subst hke;rw [List.take_length];repeat(refine A1 ⟨?_⟩;intros)
  exact aS (aJ (RV.tmp rfl) Lr)
theorem tj (x:Rat) (h:ht x≤1000000):Pu Tryz.prog 234 [rq x] (rq (x/2)):=by
 have o:=oX 2 om om;have h2:=eM 2 om;have c:=jA x ((2:Int):Rat) om om (by decide);rw [show((2:Int):Rat)=2 from rfl]at c o;refine Pi Tryz.func234 fun C=>?_
 exact X2 o c
theorem Aj (x y:Rat) (h:ht x≤100000) (k:ht y≤100000):Pu Tryz.prog 235 [rq x,rq y] (rq (i8 x y)):=by
 have:=aI x y;have c1:=eK x y om om;have c2:=tj (x+y) om;unfold i8;refine Pi Tryz.func235 fun C=>?_
 exact X2 c1 c2
theorem AL {p v:Pq}{a:Li}(ha:a.sm) (hp':hp p 120) (hv:hp v 1):ht (a8 a p)≤247∧ht (a8 a (bO p 1 v))≤255∧ht (a8 a (bO p 1 v)-a8 a p)≤503∧ht (-(a8 a p/(a8 a (bO p 1 v)-a8 a p)))≤752∧ht (-(a8 a p/(a8 a (bO p 1 v)-a8 a p))/2)≤755:=by
 have h1:=fD;have h2:ht (2:Rat)≤1:=eM 2 om;have v1:=uB ha (oL (k:=1) hp' (show ht 1≤1 by omega) hv);have v2:=uB ha hp';have d:=cI (a8 a (bO p 1 v)) (a8 a p);have q:=iJ (a8 a p) (a8 a (bO p 1 v)-a8 a p);have n:=ck (a8 a p/(a8 a (bO p 1 v)-a8 a p));have e:=iJ (-(a8 a p/(a8 a (bO p 1 v)-a8 a p))) 2;omega
theorem Cr {p v:Pq}{s:Rat}{a:Li}(ha:a.sm) (hp':hp p 120) (hv:hp v 1) (hs:ht s≤760):ht (cX p v s a)≤760:=by
 have:=AL ha hp' hv;unfold cX;split
 ·exact hs
 ·split
  ·omega
  ·exact hs
theorem EW {l:List Li}{p v:Pq}(hh:∀m∈l,m.sm) (hp':hp p 120) (hv:hp v 1):hp (tI l p v) 883:=by
 have key:∀(l:List Li),(∀m∈l,m.sm)→∀s,ht s≤760→ht (l.foldl (cX p v) s)≤760:=by
  intro l;induction l with
  |nil=>intro _ s h;exact h
  |cons a l ih=>intro h s hs;exact ih (fun m hm=>h m (Mc hm)) _ (Cr (h a Ms) hp' hv hs)
 have h1:=fD;exact oL hp' (key l hh 1 om) hv
theorem DY (l:List Li) (p v:Pq) (hl:l.length≤100000) (hh:∀m∈l,m.sm) (hp':hp p 120) (hv:hp v 1):Pu Tryz.prog 194 [lqs l,ag (rpx p),ag (rpx v)] (ag (rpx (tI l p v))):=by
 have h1:=fD;obtain⟨p1,p2⟩:=hp';obtain⟨v1,v2⟩:=hv;have d0:=ot p.1 p.2 1 v.1 v.2 om om om om om;refine Pi Tryz.func194 fun C=>?_
 repeat(first|(refine A1 ⟨?_⟩;intros)|refine W4 mn ⟨?_⟩)
 rename_i b4 b5 b6 b7
 refine WP.loopS (ι:=Nat×Rat) (fun y=>y.1≤l.length∧y.2=(l.take y.1).foldl (cX p v) 1∧ht y.2≤760) (fun y=>l.length-y.1) (fun y=>fm [(4,lit (.pointer (some ⟨b4,0,none⟩))),(5,lit (.pointer (some ⟨b5,0,none⟩))),(6,lit (.pointer (some ⟨b6,0,none⟩))),(7,lit (.pointer (some ⟨b7,0,none⟩))),(13,lqs l),(14,lit (.int .i64 l.length)),(15,lit (.int .i64 y.1))])
  (fun y=>[(b7,30,rqx y.2),(b6,70,yj),(b5,70,rpx v),(b4,70,rpx p)]) (0,1) ⟨Nat.zero_le _,rfl,by show ht 1≤760;omega⟩ lfA Sr ?_
 rintro ⟨k,s⟩ ⟨hk,hs,hsb⟩ K hK;simp only at hk hs hsb⊢;by_cases hkl:k<l.length
 ·obtain⟨a,hget,ham,hat,hne⟩:=elt fq om hkl;have ha:=hh a ham;have hgo:=fun s' (e:s'=cX p v s a) (hb:ht s'≤760) F' H'=>hK F' H' (k+1,s') ⟨by simp only;omega,by rw [e,hs,km hget],hb⟩ (by simp only;omega)
  obtain⟨b1,b2,b3,b4,b5⟩:=AL ha ⟨p1,p2⟩ ⟨v1,v2⟩;have hadd:=oL (p:=p) (v:=v) (k:=1) ⟨p1,p2⟩ (show ht 1≤1 by omega) ⟨v1,v2⟩;have d1:=oU (p:=bO p 1 v) ha ⟨by have:=hadd.1;omega,by have:=hadd.2;omega⟩;have d2:=oU (p:=p) ha ⟨om,om⟩;have d3:=eh (a8 a (bO p 1 v)) (a8 a p) om om;have d4:=kD (a8 a (bO p 1 v)-a8 a p) om;have d5:=nO (p:=p) ha ⟨om,om⟩;have d6:=fun h=>jA (a8 a p) (a8 a (bO p 1 v)-a8 a p) om om h
  have hq:=iJ (a8 a p) (a8 a (bO p 1 v)-a8 a p);have d7:=iP (a8 a p/(a8 a (bO p 1 v)-a8 a p)) om;unfold cX at hgo;have hnum:(a8 a (bO p 1 v)-a8 a p).num.sign≠0→(a8 a (bO p 1 v)-a8 a p).num≠0:=fun h e=>h (by rw [e];rfl)
  generalize a8 a (bO p 1 v)=A at *;generalize a8 a p=B at *;generalize -(B/(A-B))=t at *;have d8:=kD t om;have d9:=tj t om;have d10:=gT (t/2) s om om;generalize(A-B).num.sign=z1 at *;generalize cW a p=z2 at *;generalize t.num.sign=z3 at *;generalize(t/2-s).num.sign=z4 at *;clear hK hh ham hs hget hadd hq;by_cases hz1:z1=0
  ·rw [if_pos (.inl hz1)]at hgo;subst hz1;replace hgo:=hgo s rfl hsb;clear d6 hnum b1 b2 b3 b4 b5;repeat(refine A1 ⟨?_⟩;intros)
   refine Wo (aa (cs':=lqx a) rfl rfl om om hat hne) ?_;repeat(first|(refine A1 ⟨?_⟩;intros)|refine W4 mn ⟨?_⟩|refine W4 d0 ⟨?_⟩|refine W4 d1 ⟨?_⟩|refine W4 d2 ⟨?_⟩|refine W4 d3 ⟨?_⟩|refine W4 d4 ⟨?_⟩|refine W4 d5 ⟨?_⟩)
   exact hgo _ _ lfA (Sc (Sc Sr))
  ·by_cases hz2:z2=0
   ·rw [if_pos (.inr hz2)]at hgo;subst hz2;replace hgo:=hgo s rfl hsb;clear d6 hnum b1 b2 b3 b4 b5;repeat(refine A1 ⟨?_⟩;intros)
    refine Wo (aa (cs':=lqx a) rfl rfl om om hat hne) ?_;repeat(first|(refine A1 ⟨?_⟩;intros)|refine W4 mn ⟨?_⟩|refine W4 d0 ⟨?_⟩|refine W4 d1 ⟨?_⟩|refine W4 d2 ⟨?_⟩|refine W4 d3 ⟨?_⟩|refine W4 d4 ⟨?_⟩|refine W4 d5 ⟨?_⟩)
    exact hgo _ _ lfA (by repeat(first|exact Sr|refine Sc ?_))
   ·rw [if_neg (fun h=>h.elim hz1 hz2)]at hgo;replace d6:=d6 (hnum hz1);by_cases hz3:0<z3
    ·by_cases hz4:z4<0
     ·rw [if_pos ⟨hz3,hz4⟩]at hgo;replace hgo:=hgo _ rfl om;clear hnum b1 b2 b3 b4 b5;generalize t/2=t2 at *;repeat(refine A1 ⟨?_⟩;intros)
      refine Wo (aa (cs':=lqx a) rfl rfl om om hat hne) ?_;repeat(first|(refine A1 ⟨?_⟩;intros)|refine W4 mn ⟨?_⟩|refine W4 d0 ⟨?_⟩|refine W4 d1 ⟨?_⟩|refine W4 d2 ⟨?_⟩|refine W4 d3 ⟨?_⟩|refine W4 d4 ⟨?_⟩|refine W4 d5 ⟨?_⟩|refine W4 d6 ⟨?_⟩|refine W4 d7 ⟨?_⟩|refine W4 d8 ⟨?_⟩|refine W4 d9 ⟨?_⟩|refine W4 d10 ⟨?_⟩)
      exact hgo _ _ lfA (by repeat(first|exact Sr|refine Sc ?_))
     ·rw [if_neg (fun h=>hz4 h.2)]at hgo;replace hgo:=hgo s rfl hsb;clear hnum b1 b2 b3 b4 b5;generalize t/2=t2 at *;repeat(refine A1 ⟨?_⟩;intros)
      refine Wo (aa (cs':=lqx a) rfl rfl om om hat hne) ?_;repeat(first|(refine A1 ⟨?_⟩;intros)|refine W4 mn ⟨?_⟩|refine W4 d0 ⟨?_⟩|refine W4 d1 ⟨?_⟩|refine W4 d2 ⟨?_⟩|refine W4 d3 ⟨?_⟩|refine W4 d4 ⟨?_⟩|refine W4 d5 ⟨?_⟩|refine W4 d6 ⟨?_⟩|refine W4 d7 ⟨?_⟩|refine W4 d8 ⟨?_⟩|refine W4 d9 ⟨?_⟩|refine W4 d10 ⟨?_⟩)
      exact hgo _ _ lfA (by repeat(first|exact Sr|refine Sc ?_))
    ·rw [if_neg (fun h=>hz3 h.1)]at hgo;replace hgo:=hgo s rfl hsb;clear hnum b1 b2 b3 b4 b5;repeat(refine A1 ⟨?_⟩;intros)
     refine Wo (aa (cs':=lqx a) rfl rfl om om hat hne) ?_;repeat(first|(refine A1 ⟨?_⟩;intros)|refine W4 mn ⟨?_⟩|refine W4 d0 ⟨?_⟩|refine W4 d1 ⟨?_⟩|refine W4 d2 ⟨?_⟩|refine W4 d3 ⟨?_⟩|refine W4 d4 ⟨?_⟩|refine W4 d5 ⟨?_⟩|refine W4 d6 ⟨?_⟩|refine W4 d7 ⟨?_⟩|refine W4 d8 ⟨?_⟩)
     exact hgo _ _ lfA (by repeat(first|exact Sr|refine Sc ?_))
 ·have hke:k=l.length:=by omega
  subst hke;rw [List.take_length]at hs;have c:=ot p.1 p.2 s v.1 v.2 om om om om om;have e:tI l p v=bO p s v:=by unfold tI;rw [hs]
  rw [e];clear hK hh hs e;exact X1 c
abbrev spx (s:Spn):List SV:=[lit (.bool (decide (s.lo.num<0))),nat s.lo.num.natAbs,dg (gO s.lo.den),lit (.bool (decide (s.hi.num<0))),nat s.hi.num.natAbs,dg (gO s.hi.den),lit (.bool s.nl),lit (.bool s.nh)]
theorem iN (s:Spn):(spx s).length=8:=rfl
abbrev sps (l:List Spn):SV:=sl (l.map spx).flatten l.length
def Bq (a b:Int):Int:=if 0<a∧b<0 then 2 else if(a=0∧b≤0)∨(b=0∧0≤a)then 1 else 0
theorem IQ (s:Spn) (t:Rat):D6 s t=Bq (if s.nl then 1 else(t-s.lo).num.sign) (if s.nh then -1 else(t-s.hi).num.sign):=rfl
theorem C4 (l:List Spn) (t:Rat) (hl:l.length≤100000) (hh:∀s∈l,s.le 100000) (ht':ht t≤100000):Pu Tryz.prog 269 [sps l,rq t] (lit (.int .i64 (pD l t))):=by
  refine Pi Tryz.func269 fun C=>?_
  repeat(refine A1 ⟨?_⟩;intros)
  rename_i b3
  refine WP.loopS (ι:=Nat) (fun k=>k≤l.length∧pD (l.drop k) t=pD l t) (fun k=>l.length-k) (fun k=>fm [(3,lit (.pointer (some ⟨b3,0,none⟩))),(9,sps l),(10,lit (.int .i64 l.length)),(11,lit (.int .i64 k))]) (fun _=>[(b3,30,rqx t)]) 0
    ⟨Nat.zero_le _,rfl⟩ lfA Sr ?_
  rintro k ⟨hk,hR⟩ K hK;by_cases hkl:k<l.length
  · obtain⟨s,hget,hsm,hat,hne⟩:=elt iN om hkl
    have hs:=hh s hsm;have hgo:=fun(h:pD (l.drop (k+1)) t=pD l t) F' H'=>hK F' H' (k+1) ⟨om,h⟩ om
    rw [i9 hget,pD,IQ]at hR;obtain⟨lo,hi,nl,nh⟩:=s;obtain⟨hs1,hs2⟩:=hs;simp only at hs1 hs2 hR;have c1:=gT t lo om om;have c2:=gT t hi om om;generalize(t-lo).num.sign=z1 at *;generalize(t-hi).num.sign=z2 at *;generalize pD (l.drop (k+1)) t=R1 at *;generalize pD l t=R at *;clear hK hh hget hsm hs1 hs2 ht'
    have key:∀a b:Int,(if Bq a b=0 then R1 else Bq a b)=R→(0<a∧b<0∧R=2)∨((a=0∧b<0)∧R=1)∨((a=0∧b=0)∧R=1)∨((0<a∧b=0)∧R=1)∨(((a<0)∨(0<b))∧R1=R):=fun a b h=>by
      unfold Bq at h;by_cases h1:0<a∧b<0
      · rw [if_pos h1,if_neg (by decide)]at h
        exact .inl ⟨h1.1,h1.2,h.symm⟩
      · rw [if_neg h1]at h
        by_cases h2:(a=0∧b≤0)∨(b=0∧0≤a)
        · rw [if_pos h2,if_neg (by decide)]at h
          right;rcases h2 with⟨h3,h4⟩|⟨h3,h4⟩
          · by_cases h5:b=0
            · exact .inr (.inl ⟨⟨h3,h5⟩,h.symm⟩)
            · exact .inl ⟨⟨h3,om⟩,h.symm⟩
          · by_cases h5:a=0
            · exact .inr (.inl ⟨⟨h5,h3⟩,h.symm⟩)
            · exact .inr (.inr (.inl ⟨⟨om,h3⟩,h.symm⟩))
        · rw [if_neg h2,if_pos rfl]at h
          exact .inr (.inr (.inr (.inr ⟨om,h⟩)))
    have hkey:=key _ _ hR;clear key hR;cases nl <;> cases nh <;> simp only [Bool.false_eq_true,if_false,if_true]at hkey
    all_goals
      rcases hkey with⟨g1,g2,rfl⟩|⟨⟨g1,g2⟩,rfl⟩|⟨⟨g1,g2⟩,rfl⟩|⟨⟨g1,g2⟩,rfl⟩|⟨g|g,rfl⟩
      all_goals first
        |omega
        | (repeat (refine A1 ⟨?_⟩; intros)
           refine Wo (aa (cs':=spx _) rfl rfl om om hat hne) ?_;repeat(first|(refine A1 ⟨?_⟩;intros)|refine W4 c1 ⟨?_⟩|refine W4 c2 ⟨?_⟩)
           exact aS (aJ (RV.tmp rfl) Lr))
        | (replace hgo := hgo rfl
           repeat(refine A1 ⟨?_⟩;intros)
           refine Wo (aa (cs':=spx _) rfl rfl om om hat hne) ?_;repeat(first|(refine A1 ⟨?_⟩;intros)|refine W4 c1 ⟨?_⟩|refine W4 c2 ⟨?_⟩)
           exact hgo _ _ lfA (by repeat(first|exact Sr|refine Sc ?_)))
        | (replace hgo := hgo rfl
           by_cases e1:z1=0
           · repeat(refine A1 ⟨?_⟩;intros)
             refine Wo (aa (cs':=spx _) rfl rfl om om hat hne) ?_;repeat(first|(refine A1 ⟨?_⟩;intros)|refine W4 c1 ⟨?_⟩|refine W4 c2 ⟨?_⟩)
             exact hgo _ _ lfA (by repeat(first|exact Sr|refine Sc ?_))
           · by_cases e2:0<z1
             all_goals
               repeat(refine A1 ⟨?_⟩;intros)
               refine Wo (aa (cs':=spx _) rfl rfl om om hat hne) ?_;repeat(first|(refine A1 ⟨?_⟩;intros)|refine W4 c1 ⟨?_⟩|refine W4 c2 ⟨?_⟩)
               exact hgo _ _ lfA (by repeat(first|exact Sr|refine Sc ?_)))
        | (replace hgo := hgo rfl
           rcases Int.lt_trichotomy z2 0 with e|e|e
           all_goals
             repeat(refine A1 ⟨?_⟩;intros)
             refine Wo (aa (cs':=spx _) rfl rfl om om hat hne) ?_;repeat(first|(refine A1 ⟨?_⟩;intros)|refine W4 c1 ⟨?_⟩|refine W4 c2 ⟨?_⟩)
             exact hgo _ _ lfA (by repeat(first|exact Sr|refine Sc ?_)))
  · have hke:k=l.length:=by omega
    subst hke;rw [List.drop_length]at hR;rw [←hR];repeat(refine A1 ⟨?_⟩;intros)
    exact aS (aJ (RV.tmp rfl) Lr)
theorem E3 (l:List Spn) (t:Rat) (hl:l.length≤100000) (hh:∀s∈l,s.le 100000) (ht':ht t≤100000):Pu Tryz.prog 261 [sps l,rq t] (lit (.bool (inL l t))):=by
 have c:=C4 l t hl hh ht';unfold inL;by_cases h:pD l t=2
 ·rw [decide_eq_true h];refine Pi Tryz.func261 fun C=>?_
  exact Y1 c
 ·rw [decide_eq_false h];refine Pi Tryz.func261 fun C=>?_
  exact Y1 c
theorem wM:Pu Tryz.prog 230 [] (ag (spx Spn.full)):=by
 refine Pi Tryz.func230 fun C=>?_
 repeat(refine A1 ⟨?_⟩;intros)
 ((first|refine aS ?_|refine eV ?_);refine aJ RVa ?_)
 exact Le.ag ⟨Le.refl _,mu,mv,Le.refl _,mu,mv,Le.refl _,Le.refl _,trivial⟩
def sc (out:List Rat) (s:Spn):Nat→List Rat
 |0=>out
 |1=>if s.nl then out else gq rlt out s.lo
 |_=>gU out s
theorem wH {o x:Rat}:(o-x).num.sign=0↔o=x:=by rw [bB];grind
theorem E6 (l:List Spn) (hl:l.length≤100000) (hh:∀s∈l,s.le 100000):Pu Tryz.prog 259 [sps l] (rqs (cL l)):=by
 refine Pi Tryz.func259 fun C=>?_
 repeat(refine A1 ⟨?_⟩;intros)
 refine WP.loopS (ι:=Nat) (fun k=>k≤l.length) (fun k=>l.length-k) (fun k=>fm [(3,rqs (cL (l.take k))),(9,sps l),(10,lit (.int .i64 l.length)),(11,lit (.int .i64 k))]) (fun _=>[]) 0
  (Nat.zero_le _) (LeF.cons ft lfA) (List.nil_sublist _) ?_
 rintro k hk K hK;by_cases hkl:k<l.length
 ·obtain⟨s,hget,hsm0,hat,hne⟩:=elt iN om hkl;obtain⟨hlo,hhi⟩:=hh s hsm0;obtain⟨lo,hi,nl,nh⟩:=s;simp only at hlo hhi;have hgo:=fun F' H' h1 h2=>hK F' H' (k+1) om om h1 h2
  rw [show cL (l.take (k+1))=gU (cL (l.take k)) ⟨lo,hi,nl,nh⟩from km hget]at hgo;have hsm:∀q∈cL (l.take k),ht q≤100000:=Bc fun s hs=>hh s (List.mem_of_mem_take hs)
  have hsl:=xQ (l.take k);rw [List.length_take]at hsl;generalize cL (l.take k)=out0 at hgo hsm hsl⊢;clear hK hh hsm0 hget;repeat(refine A1 ⟨?_⟩;intros)
  refine Wo (aa (cs':=spx ⟨lo,hi,nl,nh⟩) rfl rfl om om hat hne) ?_;repeat(first|(refine Wo (cg (r:=[(0,rqx lo),(1,rqx hi)]) (cs:=([lo,hi].map rqx).flatten) (.cons (sv:=ag (rqx lo)) rfl inferInstance (.cons (sv:=ag (rqx hi)) rfl inferInstance .nil))) ?_)|(refine Wdo (cg (r:=[(0,rqx lo),(1,rqx hi)]) (cs:=([lo,hi].map rqx).flatten) (.cons (sv:=ag (rqx lo)) rfl inferInstance (.cons (sv:=ag (rqx hi)) rfl inferInstance .nil))) ?_)|(refine A1 ⟨?_⟩;intros))
  rename_i b5
  refine WP.loopS (ι:=Nat) (fun j=>j≤2) (fun j=>2-j) (fun j=>fm [(3,rqs (sc out0 ⟨lo,hi,nl,nh⟩ j)),(5,lit (.pointer (some ⟨b5,0,none⟩))),(9,sps l),(10,lit (.int .i64 l.length)),(11,lit (.int .i64 k)),(19,sl ([lo,hi].map rqx).flatten 2),(20,lit (.int .i64 2)),(21,lit (.int .i64 j))]) (fun _=>[(b5,225,spx ⟨lo,hi,nl,nh⟩)]) 0
   om lfA Sr ?_
  rintro i hile K3 hK3
  have hst:∀(i:Nat) (x:Rat) (nx:Bool),i<2→x=[lo,hi].getD i 0→nx=(if i=0 then nl else nh)→sc out0 ⟨lo,hi,nl,nh⟩ (i+1)=if nx then sc out0 ⟨lo,hi,nl,nh⟩ i else gq rlt (sc out0 ⟨lo,hi,nl,nh⟩ i) x:=by
   intro i x nx h1 h2 h3;have:i=0∨i=1:=by omega
   rcases this with rfl|rfl
   ·rw [h2,h3];rfl
   ·rw [h2,h3];rfl
  by_cases hi2:i<2
  ·have hi01:i=0∨i=1:=by omega
   obtain⟨x,hx⟩:∃x,x=[lo,hi].getD i 0:=⟨_,rfl⟩
   obtain⟨nx,hnx⟩:∃nx,nx=(if i=0 then nl else nh):=⟨_,rfl⟩
   have hgo3:=fun F' H'=>hK3 F' H' (i+1) om om
   rw [hst i x nx hi2 hx hnx]at hgo3;have hxb:ht x≤100000:=by rcases hi01 with rfl|rfl <;> rw [hx] <;> assumption
   have hat3:((([lo,hi].map rqx).flatten).drop (i*3)).take 3=rqx x:=by rcases hi01 with rfl|rfl <;> rw [hx] <;> rfl
   have hsm3:∀q∈sc out0 ⟨lo,hi,nl,nh⟩ i,ht q≤100000:=by
    have h1:∀q∈gq rlt out0 lo,ht q≤100000:=fun q hq=>(jL.1 hq).elim (fun e=>e▸hlo) (hsm q)
    rcases hi01 with rfl|rfl
    ·exact hsm
    ·show∀q∈(if nl then out0 else gq rlt out0 lo),ht q≤100000
     split
     ·exact hsm
     ·exact h1
   have hsl3:(sc out0 ⟨lo,hi,nl,nh⟩ i).length≤300000:=by
    have:=jM rlt out0 lo;rcases hi01 with rfl|rfl
    ·show out0.length≤_;omega
    ·show(if nl then out0 else gq rlt out0 lo).length≤_
     split <;> omega
   clear hst hK3 hgo hx;generalize sc out0 ⟨lo,hi,nl,nh⟩ i=out at *;cases hnv:nx with
   |true =>
    rw [hnv,if_pos rfl]at hgo3;rw [hnv]at hnx;clear hsm hsm3;rcases hi01 with rfl|rfl
    ·have hnl:nl=true:=hnx.symm;subst hnl;clear hnx;repeat(refine A1 ⟨?_⟩;intros)
     refine Wo (aa (cs':=rqx x) rfl rfl om om hat3 (by intro h;cases h)) ?_;repeat(refine A1 ⟨?_⟩;intros)
     exact hgo3 _ _ lfA (by repeat(first|exact Sr|refine Sc ?_))
    ·have hnl:nh=true:=hnx.symm;subst hnl;clear hnx;repeat(refine A1 ⟨?_⟩;intros)
     refine Wo (aa (cs':=rqx x) rfl rfl om om hat3 (by intro h;cases h)) ?_;repeat(refine A1 ⟨?_⟩;intros)
     exact hgo3 _ _ lfA (by repeat(first|exact Sr|refine Sc ?_))
   |false =>
    rw [hnv,if_neg (by decide)]at hgo3;rw [hnv]at hnx
    have hcx:(i=0∧nl=false)∨(i=1∧nh=false):=by
     rcases hi01 with rfl|rfl
     ·exact .inl ⟨rfl,hnx.symm⟩
     ·exact .inr ⟨rfl,hnx.symm⟩
    have hgo:=hgo3;clear hgo3 hsm hnx hi01 hsl;have hsm:=hsm3;have hsl:=hsl3;clear hsm3 hsl3;rcases hcx with⟨hi0,hnl⟩|⟨hi0,hnl⟩
    ·subst hnl;repeat(refine A1 ⟨?_⟩;intros)
     refine Wo (aa (cs':=rqx x) rfl rfl om om hat3 (by intro h;cases h)) ?_;repeat(refine A1 ⟨?_⟩;intros)
     rename_i b7;refine WP.loopS (ι:=Nat) (fun j=>j≤gh rlt out x) (fun j=>out.length-j) (fun j=>fm [(3,sl (out.map rqx).flatten out.length),(8,lit (.int .i64 j)),(5,lit (.pointer (some ⟨b5,0,none⟩))),(7,lit (.pointer (some ⟨b7,0,none⟩))),(9,sps l),(10,lit (.int .i64 l.length)),(11,lit (.int .i64 k)),(19,sl ([lo,hi].map rqx).flatten 2),(20,lit (.int .i64 2)),(21,lit (.int .i64 i))]) (fun _=>[(b7,30,rqx x),(b5,225,spx ⟨lo,hi,false,nh⟩)]) 0 (Nat.zero_le _) lfA Sr ?_;rintro j hj K2 hK2;have hpl:=lI rlt out x;obtain⟨hfl,hdl,htl,hpl2,hins,hln⟩:=Iw gZ out x j om;by_cases hjl:j<out.length
     ·obtain⟨o,hget2,hom,hat2,hne2⟩:=elt gZ om hjl;have ho:=hsm o hom;obtain⟨z,hzz⟩:∃z,z=(o-x).num.sign:=⟨_,rfl⟩
      have c:=gT o x om om;have hlt:rlt o x=decide (z<0):=by subst hzz;rfl
      have heq:z=0↔o=x:=by rw [hzz];exact wH
      rw [←hzz]at c;obtain⟨s1,s2⟩:=lH (lt:=rlt) (x:=x) hj hget2;rw [hlt]at s1 s2;by_cases hneg:z<0
      ·have hj1:=s1 (decide_eq_true hneg);clear hgo s1 s2
       as_aux_lemma =>
        repeat(refine A1 ⟨?_⟩;intros)
        refine cT (aa (cs':=rqx o) rfl rfl om om hat2 hne2) ?_;repeat(first|(refine A1 ⟨?_⟩;intros)|refine W4 c ⟨?_⟩)
        exact hK2 _ _ (j+1) hj1 om lfA Sr
      ·have hje:=s2 (decide_eq_false hneg);clear hK2 s1 s2;by_cases hz:o=x
       ·rw [ql hje hget2 hz]at hgo;have hz0:=heq.2 hz;clear heq
        as_aux_lemma =>
         repeat(refine A1 ⟨?_⟩;intros)
         refine cT (aa (cs':=rqx o) rfl rfl om om hat2 hne2) ?_;repeat(first|(refine A1 ⟨?_⟩;intros)|refine W4 c ⟨?_⟩)
         refine cT (aa (cs':=rqx o) rfl rfl om om hat2 hne2) ?_;repeat(first|(refine A1 ⟨?_⟩;intros)|refine W4 c ⟨?_⟩)
         exact hgo _ _ lfA (by repeat(first|exact Sr|refine Sc ?_))
       ·rw [qm hje hget2 hz]at hgo;have hz0:¬z=0:=fun e=>hz (heq.1 e)
        clear heq
        as_aux_lemma =>
         repeat(refine A1 ⟨?_⟩;intros)
         refine cT (aa (cs':=rqx o) rfl rfl om om hat2 hne2) ?_;repeat(first|(refine A1 ⟨?_⟩;intros)|refine W4 c ⟨?_⟩)
         refine cT (aa (cs':=rqx o) rfl rfl om om hat2 hne2) ?_;repeat(first|(refine A1 ⟨?_⟩;intros)|refine W4 c ⟨?_⟩)
         refine Wdo (gB j rfl rfl rfl rfl rfl hfl om) ?_;repeat(first|(refine Wdo (iB (s:=ag (rqx x)) (ds:=rqx x) rfl inferInstance) ?_)|(refine Wdo (gA j rfl rfl rfl hfl om) ?_)|(refine A1 ⟨?_⟩;intros))
         refine Wdo (aG (k:=1) (k0:=out.length-j) rfl rfl rfl hdl om) ?_;refine Wdo (aG (k:=j) (k0:=1+(out.length-j)) rfl rfl htl hpl2 om) ?_;rw [hins,hln];repeat(refine A1 ⟨?_⟩;intros)
         exact hgo _ _ lfA (by repeat(first|exact Sr|refine Sc ?_))
     ·have hje:j=out.length:=by omega
      rw [o9 hje hj]at hgo;clear hK2
      as_aux_lemma =>
       repeat(refine A1 ⟨?_⟩;intros)
       refine Wdo (gB j rfl rfl rfl rfl rfl hfl om) ?_;repeat(first|(refine Wdo (iB (s:=ag (rqx x)) (ds:=rqx x) rfl inferInstance) ?_)|(refine Wdo (gA j rfl rfl rfl hfl om) ?_)|(refine A1 ⟨?_⟩;intros))
       refine Wdo (aG (k:=1) (k0:=out.length-j) rfl rfl rfl hdl om) ?_;refine Wdo (aG (k:=j) (k0:=1+(out.length-j)) rfl rfl htl hpl2 om) ?_;rw [hins,hln];repeat(refine A1 ⟨?_⟩;intros)
       exact hgo _ _ lfA (by repeat(first|exact Sr|refine Sc ?_))
    ·subst hnl;repeat(refine A1 ⟨?_⟩;intros)
     refine Wo (aa (cs':=rqx x) rfl rfl om om hat3 (by intro h;cases h)) ?_;repeat(refine A1 ⟨?_⟩;intros)
     rename_i b7;refine WP.loopS (ι:=Nat) (fun j=>j≤gh rlt out x) (fun j=>out.length-j) (fun j=>fm [(3,sl (out.map rqx).flatten out.length),(8,lit (.int .i64 j)),(5,lit (.pointer (some ⟨b5,0,none⟩))),(7,lit (.pointer (some ⟨b7,0,none⟩))),(9,sps l),(10,lit (.int .i64 l.length)),(11,lit (.int .i64 k)),(19,sl ([lo,hi].map rqx).flatten 2),(20,lit (.int .i64 2)),(21,lit (.int .i64 i))]) (fun _=>[(b7,30,rqx x),(b5,225,spx ⟨lo,hi,nl,false⟩)]) 0 (Nat.zero_le _) lfA Sr ?_;rintro j hj K2 hK2;have hpl:=lI rlt out x;obtain⟨hfl,hdl,htl,hpl2,hins,hln⟩:=Iw gZ out x j om;by_cases hjl:j<out.length
     ·obtain⟨o,hget2,hom,hat2,hne2⟩:=elt gZ om hjl;have ho:=hsm o hom;obtain⟨z,hzz⟩:∃z,z=(o-x).num.sign:=⟨_,rfl⟩
      have c:=gT o x om om;have hlt:rlt o x=decide (z<0):=by subst hzz;rfl
      have heq:z=0↔o=x:=by rw [hzz];exact wH
      rw [←hzz]at c;obtain⟨s1,s2⟩:=lH (lt:=rlt) (x:=x) hj hget2;rw [hlt]at s1 s2;by_cases hneg:z<0
      ·have hj1:=s1 (decide_eq_true hneg);clear hgo s1 s2
       as_aux_lemma =>
        repeat(refine A1 ⟨?_⟩;intros)
        refine cT (aa (cs':=rqx o) rfl rfl om om hat2 hne2) ?_;repeat(first|(refine A1 ⟨?_⟩;intros)|refine W4 c ⟨?_⟩)
        exact hK2 _ _ (j+1) hj1 om lfA Sr
      ·have hje:=s2 (decide_eq_false hneg);clear hK2 s1 s2;by_cases hz:o=x
       ·rw [ql hje hget2 hz]at hgo;have hz0:=heq.2 hz;clear heq
        as_aux_lemma =>
         repeat(refine A1 ⟨?_⟩;intros)
         refine cT (aa (cs':=rqx o) rfl rfl om om hat2 hne2) ?_;repeat(first|(refine A1 ⟨?_⟩;intros)|refine W4 c ⟨?_⟩)
         refine cT (aa (cs':=rqx o) rfl rfl om om hat2 hne2) ?_;repeat(first|(refine A1 ⟨?_⟩;intros)|refine W4 c ⟨?_⟩)
         exact hgo _ _ lfA (by repeat(first|exact Sr|refine Sc ?_))
       ·rw [qm hje hget2 hz]at hgo;have hz0:¬z=0:=fun e=>hz (heq.1 e)
        clear heq
        as_aux_lemma =>
         repeat(refine A1 ⟨?_⟩;intros)
         refine cT (aa (cs':=rqx o) rfl rfl om om hat2 hne2) ?_;repeat(first|(refine A1 ⟨?_⟩;intros)|refine W4 c ⟨?_⟩)
         refine cT (aa (cs':=rqx o) rfl rfl om om hat2 hne2) ?_;repeat(first|(refine A1 ⟨?_⟩;intros)|refine W4 c ⟨?_⟩)
         refine Wdo (gB j rfl rfl rfl rfl rfl hfl om) ?_;repeat(first|(refine Wdo (iB (s:=ag (rqx x)) (ds:=rqx x) rfl inferInstance) ?_)|(refine Wdo (gA j rfl rfl rfl hfl om) ?_)|(refine A1 ⟨?_⟩;intros))
         refine Wdo (aG (k:=1) (k0:=out.length-j) rfl rfl rfl hdl om) ?_;refine Wdo (aG (k:=j) (k0:=1+(out.length-j)) rfl rfl htl hpl2 om) ?_;rw [hins,hln];repeat(refine A1 ⟨?_⟩;intros)
         exact hgo _ _ lfA (by repeat(first|exact Sr|refine Sc ?_))
     ·have hje:j=out.length:=by omega
      rw [o9 hje hj]at hgo;clear hK2
      as_aux_lemma =>
       repeat(refine A1 ⟨?_⟩;intros)
       refine Wdo (gB j rfl rfl rfl rfl rfl hfl om) ?_;repeat(first|(refine Wdo (iB (s:=ag (rqx x)) (ds:=rqx x) rfl inferInstance) ?_)|(refine Wdo (gA j rfl rfl rfl hfl om) ?_)|(refine A1 ⟨?_⟩;intros))
       refine Wdo (aG (k:=1) (k0:=out.length-j) rfl rfl rfl hdl om) ?_;refine Wdo (aG (k:=j) (k0:=1+(out.length-j)) rfl rfl htl hpl2 om) ?_;rw [hins,hln];repeat(refine A1 ⟨?_⟩;intros)
       exact hgo _ _ lfA (by repeat(first|exact Sr|refine Sc ?_))
  ·have hie:i=2:=by omega
   subst hie;clear hK3;repeat(refine A1 ⟨?_⟩;intros)
   exact hgo _ _ lfA (List.nil_sublist _)
 ·have hke:k=l.length:=by omega
  subst hke;rw [List.take_length];repeat(refine A1 ⟨?_⟩;intros)
  exact aS (aJ (RV.tmp rfl) Lr)
end Go.Ab
