/- Texts laid one behind the other: GwC, GmC, GwD. -/
import Derived.Test.YtjopjomoejfehaaGreatDoorB19
set_option linter.all false
set_option maxHeartbeats 16000000
namespace Go.Ab
open Go.Proofs
variable [Base]
abbrev spx (s:Spn):List SV:=[lit (.bool (decide (s.lo.num<0))),nat s.lo.num.natAbs,dg (pD s.lo.den),lit (.bool (decide (s.hi.num<0))),nat s.hi.num.natAbs,dg (pD s.hi.den),lit (.bool s.nl),lit (.bool s.nh)]
theorem ou (s:Spn):(spx s).length=8:=rfl
abbrev sps (l:List Spn):SV:=sl (l.map spx).flatten l.length
def Hz (a b:Int):Int:=if 0<a∧b<0 then 2 else if(a=0∧b≤0)∨(b=0∧0≤a)then 1 else 0
theorem Pd (s:Spn) (t:Rat):Jd s t=Hz (if s.nl then 1 else(t-s.lo).num.sign) (if s.nh then -1 else(t-s.hi).num.sign):=rfl
theorem I8 (l:List Spn) (t:Rat) (hl:l.length≤100000) (hh:∀s∈l,s.le 100000) (ht':ht t≤100000):Pu Tryz.prog 265 [sps l,rq t] (lit (.int .i64 (vX l t))):=by
  refine Pi Tryz.func265 fun C=>?_
  refine A2 ⟨?_⟩;intros;rename_i b3
  refine WP.loopS (ι:=Nat) (fun k=>k≤l.length∧vX (l.drop k) t=vX l t) (fun k=>l.length-k) (fun k=>fm [(3,lit (.pointer (some ⟨b3,0,none⟩))),(9,sps l),(10,lit (.int .i64 l.length)),(11,lit (.int .i64 k))]) (fun _=>[(b3,94,rqx t)]) 0
    ⟨ak _,rfl⟩ lfA Sr ?_
  rintro k ⟨hk,hR⟩ K hK;by_cases hkl:k<l.length
  · obtain⟨s,hget,hsm,hat,hne⟩:=elt ou om hkl
    have hs:=hh s hsm;have hgo:=fun(h:vX (l.drop (k+1)) t=vX l t) F' H'=>hK F' H' (k+1) ⟨om,h⟩ om
    rw [mQ hget,vX,Pd]at hR;obtain⟨lo,hi,nl,nh⟩:=s;obtain⟨hs1,hs2⟩:=hs;simp only at hs1 hs2 hR;have c1:=ow t lo om om;have c2:=ow t hi om om;generalize(t-lo).num.sign=z1 at *;generalize(t-hi).num.sign=z2 at *;generalize vX (l.drop (k+1)) t=R1 at *;generalize vX l t=R at *;clear hK hh hget hsm hs1 hs2 ht'
    have key:∀a b:Int,(if Hz a b=0 then R1 else Hz a b)=R→(0<a∧b<0∧R=2)∨((a=0∧b<0)∧R=1)∨((a=0∧b=0)∧R=1)∨((0<a∧b=0)∧R=1)∨(((a<0)∨(0<b))∧R1=R):=fun a b h=>by
      unfold Hz at h;by_cases h1:0<a∧b<0
      · rw [if_pos h1,if_neg (by decide)]at h
        exact .inl ⟨h1.1,h1.2,h.symm⟩
      · rw [if_neg h1]at h
        by_cases h2:(a=0∧b≤0)∨(b=0∧0≤a)
        · rw [if_pos h2,if_neg (by decide)]at h
          right;rcases h2 with⟨h3,h4⟩|⟨h3,h4⟩
          · by_cases h5:b=0
            · exact .inr (.inl ⟨⟨h3,h5⟩,h.symm⟩)
            · exact .inl ⟨⟨h3,om⟩,h.symm⟩
          · by_cases h5:a=0
            · exact .inr (.inl ⟨⟨h5,h3⟩,h.symm⟩)
            · exact .inr (.inr (.inl ⟨⟨om,h3⟩,h.symm⟩))
        · rw [if_neg h2,if_pos rfl]at h
          exact .inr (.inr (.inr (.inr ⟨om,h⟩)))
    have hkey:=key _ _ hR;clear key hR;cases nl <;> cases nh <;> simp only [bJ,aQ,aV]at hkey
    all_goals
      rcases hkey with⟨g1,g2,rfl⟩|⟨⟨g1,g2⟩,rfl⟩|⟨⟨g1,g2⟩,rfl⟩|⟨⟨g1,g2⟩,rfl⟩|⟨g|g,rfl⟩
      all_goals first
        |omega
        | (repeat (refine A1 ⟨?_⟩; intros)
           refine Wo (ae (cs':=spx _) rfl rfl om om hat hne) ?_;refine D2 c1 c2 ⟨?_⟩;intros;exact db (bO (RV.tmp rfl) Lr))
        | (replace hgo := hgo rfl
           refine A2 ⟨?_⟩;intros;refine Wo (ae (cs':=spx _) rfl rfl om om hat hne) ?_;refine D2 c1 c2 ⟨?_⟩;intros;exact hgo _ _ lfA Sq)
        | (replace hgo := hgo rfl
           by_cases e1:z1=0
           · repeat(refine A1 ⟨?_⟩;intros)
             refine Wo (ae (cs':=spx _) rfl rfl om om hat hne) ?_;refine D2 c1 c2 ⟨?_⟩;intros;exact hgo _ _ lfA Sq
           · by_cases e2:0<z1
             all_goals
               refine A2 ⟨?_⟩;intros;refine Wo (ae (cs':=spx _) rfl rfl om om hat hne) ?_;refine D2 c1 c2 ⟨?_⟩;intros;exact hgo _ _ lfA Sq)
        | (replace hgo := hgo rfl
           rcases iw z2 0 with e|e|e
           all_goals
             refine A2 ⟨?_⟩;intros;refine Wo (ae (cs':=spx _) rfl rfl om om hat hne) ?_;refine D2 c1 c2 ⟨?_⟩;intros;exact hgo _ _ lfA Sq)
  · have hke:k=l.length:=by omega
    subst hke;rw [fv]at hR;rw [←hR];refine A2 ⟨?_⟩;intros;exact db (bO (RV.tmp rfl) Lr)
theorem Kf (l:List Spn) (t:Rat) (hl:l.length≤100000) (hh:∀s∈l,s.le 100000) (ht':ht t≤100000):Pu Tryz.prog 235 [sps l,rq t] (lit (.bool (inL l t))):=by
 have c:=I8 l t hl hh ht';unfold inL;by_cases h:vX l t=2
 ·rw [a9 h];refine Pi Tryz.func235 fun C=>?_
  exact Y1 c
 ·rw [ab h];refine Pi Tryz.func235 fun C=>?_
  exact Y1 c
theorem CG:Pu Tryz.prog 169 [] (ag (spx Spn.full)):=by
 refine Pi Tryz.func169 fun C=>?_
 refine A2 ⟨?_⟩;intros;((first|refine db ?_|refine jc ?_);refine bO RVa ?_)
 exact Le.ag ⟨Le.refl _,wB,wC,Le.refl _,wB,wC,Le.refl _,Le.refl _,trivial⟩
theorem J3 {out:List Rat}{s:Spn}{y:Rat}(h:y∈mF out s):y∈out∨(s.nl=false∧y=s.lo)∨(s.nh=false∧y=s.hi):=by
 unfold mF at h
 have h1:∀{y},y∈(if s.nl then out else lU rlt out s.lo)→y∈out∨(s.nl=false∧y=s.lo):=fun {y} hy=>by
  split at hy
  ·exact .inl hy
  ·rename_i hn;rcases pz.1 hy with e|e
   ·exact .inr ⟨by simpa using hn,e⟩
   ·exact .inl e
 simp only at h;split at h
 ·rcases h1 h with e|e
  ·exact .inl e
  ·exact .inr (.inl e)
 ·rename_i hn;rcases pz.1 h with e|e
  ·exact .inr (.inr ⟨by simpa using hn,e⟩)
  ·rcases h1 e with e|e
   ·exact .inl e
   ·exact .inr (.inl e)
theorem AH:∀(l:List Spn) (out:List Rat) (y:Rat),y∈l.foldl mF out→y∈out∨∃s∈l,(s.nl=false∧y=s.lo)∨(s.nh=false∧y=s.hi)
 | [],out,y,h => .inl h
 |s::l,out,y,h=>by
  rcases AH l _ y h with h|⟨s',h1,h2⟩
  ·rcases J3 h with h|h
   ·exact .inl h
   ·exact .inr ⟨s,Ms,h⟩
  ·exact .inr ⟨s',Mc h1,h2⟩
theorem M2 {l:List Spn}{y:Rat}(h:y∈fW l):∃s∈l,(s.nl=false∧y=s.lo)∨(s.nh=false∧y=s.hi):=by
 rcases AH l [] y h with h|h
 ·cases h
 ·exact h
theorem J4 (out:List Rat) (s:Spn):(mF out s).length≤out.length+2:=by
 have h1:=pA rlt out s.lo;unfold mF;simp only;split
 ·split <;> omega
 ·split
  ·have:=pA rlt out s.hi;omega
  ·have:=pA rlt (lU rlt out s.lo) s.hi;omega
theorem AI:∀(l:List Spn) (out:List Rat),(l.foldl mF out).length≤out.length+2*l.length
 | [],out=>by simp
 |s::l,out=>by
  have:=AI l (mF out s);have:=J4 out s;rw [fQ,aE];omega
theorem DT (l:List Spn):(fW l).length≤2*l.length:=by
 have:=AI l [];unfold fW;simpa using this
theorem Hm {l:List Spn}{n:Nat}(h:∀s∈l,s.le n):∀y∈fW l,ht y≤n:=fun y hy=>by
 obtain⟨s,hs,⟨_,rfl⟩|⟨_,rfl⟩⟩:=M2 hy
 ·exact(h s hs).1
 ·exact(h s hs).2
theorem qn (c:List Rat):(iI c).length=c.length+1:=by
 cases c with
 |nil=>rfl
 |cons a c=>unfold iI;simp
theorem By (x y:Rat){n:Nat}(h:ht x≤n) (k:ht y≤n):ht (mO x y)≤2*n+4:=by
 have h1:=fh x y;have h2:ht (2:Rat)≤1:=uI 2 om;have h3:=qw (x+y) 2;unfold mO;omega
theorem Jo {α β γ:Type}{f:α→β→γ}:∀{a:List α}{b:List β}{y:γ},y∈List.zipWith f a b→∃p∈a,∃q∈b,y=f p q
 | [],b,y,h=>by simp at h
 |_::_,[],y,h=>by simp at h
 |p::a,q::b,y,h=>by
  rw [List.zipWith_cons_cons,an]at h;rcases h with h|h
  ·exact⟨p,Ms,q,Ms,h⟩
  ·obtain⟨p',h1,q',h2,h3⟩:=Jo h;exact⟨p',Mc h1,q',Mc h2,h3⟩
theorem Ic {c:List Rat}{n:Nat}(h:∀y∈c,ht y≤n):∀y∈iI c,ht y≤2*n+4:=by
 have h1:=lV;have h0:=kw;cases c with
 |nil=>intro y hy;simp only [iI,au]at hy;rw [hy];omega
 |cons a c =>
  intro y hy;unfold iI at hy;simp only [an,az,au,fE,eN]at hy;rcases hy with hy|hy|hy
  ·have:=h a Ms;have:=gU a 1;rw [hy];omega
  ·obtain⟨p,hp,q,hq,rfl⟩:=Jo hy;exact By p q (h p hp) (h q (Mc hq))
  ·have hg:(a::c).getLast (by simp)∈a::c:=List.getLast_mem _;have:=h _ hg;have:=fh ((a::c).getLast (by simp)) 1;rw [hy];omega
theorem BN (c:List Rat) (marks:List Bool) (out:List Spn) (i:Nat):(gW c marks out i).length≤out.length+1:=by
 unfold gW;split
 ·omega
 ·split
  ·rw [gK];omega
  ·rw [ac,bh];omega
def yJ (out:List Rat) (s:Spn):Nat→List Rat
 |0=>out
 |1=>if s.nl then out else lU rlt out s.lo
 |_=>mF out s
theorem CB {o x:Rat}:(o-x).num.sign=0↔o=x:=by rw [e7];grind
theorem Kj (l:List Spn) (hl:l.length≤100000) (hh:∀s∈l,s.le 100000):Pu Tryz.prog 233 [sps l] (rqs (fW l)):=by
 refine Pi Tryz.func233 fun C=>?_
 refine A2 ⟨?_⟩;intros
 refine WP.loopS (ι:=Nat) (fun k=>k≤l.length) (fun k=>l.length-k) (fun k=>fm [(3,rqs (fW (l.take k))),(9,sps l),(10,lit (.int .i64 l.length)),(11,lit (.int .i64 k))]) (fun _=>[]) 0
  (ak _) (LeF.cons iC lfA) (aF _) ?_
 rintro k hk K hK;by_cases hkl:k<l.length
 ·obtain⟨s,hget,hsm0,hat,hne⟩:=elt ou om hkl;obtain⟨hlo,hhi⟩:=hh s hsm0;obtain⟨lo,hi,nl,nh⟩:=s;simp only at hlo hhi;have hgo:=fun F' H' h1 h2=>hK F' H' (k+1) om om h1 h2
  rw [show fW (l.take (k+1))=mF (fW (l.take k)) ⟨lo,hi,nl,nh⟩from qA hget]at hgo;have hsm:∀q∈fW (l.take k),ht q≤100000:=Hm fun s hs=>hh s (fD hs)
  have hsl:=DT (l.take k);rw [aA]at hsl;generalize fW (l.take k)=out0 at hgo hsm hsl⊢;clear hK hh hsm0 hget;refine A2 ⟨?_⟩;intros;refine Wo (ae (cs':=spx ⟨lo,hi,nl,nh⟩) rfl rfl om om hat hne) ?_;repeat(first|(refine Wo (ee (r:=[(0,rqx lo),(1,rqx hi)]) (cs:=([lo,hi].map rqx).flatten) (.cons (sv:=ag (rqx lo)) rfl inferInstance (.cons (sv:=ag (rqx hi)) rfl inferInstance .nil))) ?_)|(refine Wdo (ee (r:=[(0,rqx lo),(1,rqx hi)]) (cs:=([lo,hi].map rqx).flatten) (.cons (sv:=ag (rqx lo)) rfl inferInstance (.cons (sv:=ag (rqx hi)) rfl inferInstance .nil))) ?_)|(refine A1 ⟨?_⟩;intros))
  rename_i b5
  refine WP.loopS (ι:=Nat) (fun j=>j≤2) (fun j=>2-j) (fun j=>fm [(3,rqs (yJ out0 ⟨lo,hi,nl,nh⟩ j)),(5,lit (.pointer (some ⟨b5,0,none⟩))),(9,sps l),(10,lit (.int .i64 l.length)),(11,lit (.int .i64 k)),(19,sl ([lo,hi].map rqx).flatten 2),(20,lit (.int .i64 2)),(21,lit (.int .i64 j))]) (fun _=>[(b5,202,spx ⟨lo,hi,nl,nh⟩)]) 0
   om lfA Sr ?_
  rintro i hile K3 hK3
  have hst:∀(i:Nat) (x:Rat) (nx:Bool),i<2→x=[lo,hi].getD i 0→nx=(if i=0 then nl else nh)→yJ out0 ⟨lo,hi,nl,nh⟩ (i+1)=if nx then yJ out0 ⟨lo,hi,nl,nh⟩ i else lU rlt (yJ out0 ⟨lo,hi,nl,nh⟩ i) x:=by
   intro i x nx h1 h2 h3;have:i=0∨i=1:=by omega
   rcases this with rfl|rfl
   ·rw [h2,h3];rfl
   ·rw [h2,h3];rfl
  by_cases hi2:i<2
  ·have hi01:i=0∨i=1:=by omega
   obtain⟨x,hx⟩:∃x,x=[lo,hi].getD i 0:=⟨_,rfl⟩
   obtain⟨nx,hnx⟩:∃nx,nx=(if i=0 then nl else nh):=⟨_,rfl⟩
   have hgo3:=fun F' H'=>hK3 F' H' (i+1) om om
   rw [hst i x nx hi2 hx hnx]at hgo3;have hxb:ht x≤100000:=by rcases hi01 with rfl|rfl <;> rw [hx] <;> assumption
   have hat3:((([lo,hi].map rqx).flatten).drop (i*3)).take 3=rqx x:=by rcases hi01 with rfl|rfl <;> rw [hx] <;> rfl
   have hsm3:∀q∈yJ out0 ⟨lo,hi,nl,nh⟩ i,ht q≤100000:=by
    have h1:∀q∈lU rlt out0 lo,ht q≤100000:=fun q hq=>(pz.1 hq).elim (fun e=>e▸hlo) (hsm q)
    rcases hi01 with rfl|rfl
    ·exact hsm
    ·show∀q∈(if nl then out0 else lU rlt out0 lo),ht q≤100000
     split
     ·exact hsm
     ·exact h1
   have hsl3:(yJ out0 ⟨lo,hi,nl,nh⟩ i).length≤300000:=by
    have:=pA rlt out0 lo;rcases hi01 with rfl|rfl
    ·show out0.length≤_;omega
    ·show(if nl then out0 else lU rlt out0 lo).length≤_
     split <;> omega
   clear hst hK3 hgo hx;generalize yJ out0 ⟨lo,hi,nl,nh⟩ i=out at *;cases hnv:nx with
   |true =>
    rw [hnv,if_pos rfl]at hgo3;rw [hnv]at hnx;clear hsm hsm3;rcases hi01 with rfl|rfl
    ·have hnl:nl=true:=hnx.symm;subst hnl;clear hnx;refine A2 ⟨?_⟩;intros;refine Wo (ae (cs':=rqx x) rfl rfl om om hat3 (by intro h;cases h)) ?_;refine A2 ⟨?_⟩;intros;exact hgo3 _ _ lfA Sq
    ·have hnl:nh=true:=hnx.symm;subst hnl;clear hnx;refine A2 ⟨?_⟩;intros;refine Wo (ae (cs':=rqx x) rfl rfl om om hat3 (by intro h;cases h)) ?_;refine A2 ⟨?_⟩;intros;exact hgo3 _ _ lfA Sq
   |false =>
    rw [hnv,if_neg (by decide)]at hgo3;rw [hnv]at hnx
    have hcx:(i=0∧nl=false)∨(i=1∧nh=false):=by
     rcases hi01 with rfl|rfl
     ·exact .inl ⟨rfl,hnx.symm⟩
     ·exact .inr ⟨rfl,hnx.symm⟩
    have hgo:=hgo3;clear hgo3 hsm hnx hi01 hsl;have hsm:=hsm3;have hsl:=hsl3;clear hsm3 hsl3;rcases hcx with⟨hi0,hnl⟩|⟨hi0,hnl⟩
    ·subst hnl;refine A2 ⟨?_⟩;intros;refine Wo (ae (cs':=rqx x) rfl rfl om om hat3 (by intro h;cases h)) ?_;refine A2 ⟨?_⟩;intros;rename_i b7;refine WP.loopS (ι:=Nat) (fun j=>j≤lQ rlt out x) (fun j=>out.length-j) (fun j=>fm [(3,sl (out.map rqx).flatten out.length),(8,lit (.int .i64 j)),(5,lit (.pointer (some ⟨b5,0,none⟩))),(7,lit (.pointer (some ⟨b7,0,none⟩))),(9,sps l),(10,lit (.int .i64 l.length)),(11,lit (.int .i64 k)),(19,sl ([lo,hi].map rqx).flatten 2),(20,lit (.int .i64 2)),(21,lit (.int .i64 i))]) (fun _=>[(b7,94,rqx x),(b5,202,spx ⟨lo,hi,false,nh⟩)]) 0 (ak _) lfA Sr ?_;rintro j hj K2 hK2;have hpl:=rU rlt out x;obtain⟨hfl,hdl,htl,hpl2,hins,hln⟩:=OK mJ out x j om;by_cases hjl:j<out.length
     ·obtain⟨o,hget2,hom,hat2,hne2⟩:=elt mJ om hjl;have ho:=hsm o hom;obtain⟨z,hzz⟩:∃z,z=(o-x).num.sign:=⟨_,rfl⟩
      have c:=ow o x om om;have hlt:rlt o x=decide (z<0):=by subst hzz;rfl
      have heq:z=0↔o=x:=by rw [hzz];exact CB
      rw [←hzz]at c;obtain⟨s1,s2⟩:=rT (lt:=rlt) (x:=x) hj hget2;rw [hlt]at s1 s2;by_cases hneg:z<0
      ·have hj1:=s1 (a9 hneg);clear hgo s1 s2
       as_aux_lemma =>
        refine A2 ⟨?_⟩;intros;refine fO (ae (cs':=rqx o) rfl rfl om om hat2 hne2) ?_;refine D1 c ⟨?_⟩;intros;exact hK2 _ _ (j+1) hj1 om lfA Sr
      ·have hje:=s2 (ab hneg);clear hK2 s1 s2;by_cases hz:o=x
       ·rw [wT hje hget2 hz]at hgo;have hz0:=heq.2 hz;clear heq
        as_aux_lemma =>
         refine A2 ⟨?_⟩;intros;refine fO (ae (cs':=rqx o) rfl rfl om om hat2 hne2) ?_;refine D1 c ⟨?_⟩;intros;refine fO (ae (cs':=rqx o) rfl rfl om om hat2 hne2) ?_;refine D1 c ⟨?_⟩;intros;exact hgo _ _ lfA Sq
       ·rw [wU hje hget2 hz]at hgo;have hz0:¬z=0:=fun e=>hz (heq.1 e)
        clear heq
        as_aux_lemma =>
         refine A2 ⟨?_⟩;intros;refine fO (ae (cs':=rqx o) rfl rfl om om hat2 hne2) ?_;refine D1 c ⟨?_⟩;intros;refine fO (ae (cs':=rqx o) rfl rfl om om hat2 hne2) ?_;refine D1 c ⟨?_⟩;intros;refine Wdo (m9 j rfl rfl rfl rfl rfl hfl om) ?_;repeat(first|(refine Wdo (nY (s:=ag (rqx x)) (ds:=rqx x) rfl inferInstance) ?_)|(refine Wdo (l8 j rfl rfl rfl hfl om) ?_)|(refine A1 ⟨?_⟩;intros))
         refine Wdo (cg (k:=1) (k0:=out.length-j) rfl rfl rfl hdl om) ?_;refine Wdo (cg (k:=j) (k0:=1+(out.length-j)) rfl rfl htl hpl2 om) ?_;rw [hins,hln];refine A2 ⟨?_⟩;intros;exact hgo _ _ lfA Sq
     ·have hje:j=out.length:=by omega
      rw [uC hje hj]at hgo;clear hK2
      as_aux_lemma =>
       refine A2 ⟨?_⟩;intros;refine Wdo (m9 j rfl rfl rfl rfl rfl hfl om) ?_;repeat(first|(refine Wdo (nY (s:=ag (rqx x)) (ds:=rqx x) rfl inferInstance) ?_)|(refine Wdo (l8 j rfl rfl rfl hfl om) ?_)|(refine A1 ⟨?_⟩;intros))
       refine Wdo (cg (k:=1) (k0:=out.length-j) rfl rfl rfl hdl om) ?_;refine Wdo (cg (k:=j) (k0:=1+(out.length-j)) rfl rfl htl hpl2 om) ?_;rw [hins,hln];refine A2 ⟨?_⟩;intros;exact hgo _ _ lfA Sq
    ·subst hnl;refine A2 ⟨?_⟩;intros;refine Wo (ae (cs':=rqx x) rfl rfl om om hat3 (by intro h;cases h)) ?_;refine A2 ⟨?_⟩;intros;rename_i b7;refine WP.loopS (ι:=Nat) (fun j=>j≤lQ rlt out x) (fun j=>out.length-j) (fun j=>fm [(3,sl (out.map rqx).flatten out.length),(8,lit (.int .i64 j)),(5,lit (.pointer (some ⟨b5,0,none⟩))),(7,lit (.pointer (some ⟨b7,0,none⟩))),(9,sps l),(10,lit (.int .i64 l.length)),(11,lit (.int .i64 k)),(19,sl ([lo,hi].map rqx).flatten 2),(20,lit (.int .i64 2)),(21,lit (.int .i64 i))]) (fun _=>[(b7,94,rqx x),(b5,202,spx ⟨lo,hi,nl,false⟩)]) 0 (ak _) lfA Sr ?_;rintro j hj K2 hK2;have hpl:=rU rlt out x;obtain⟨hfl,hdl,htl,hpl2,hins,hln⟩:=OK mJ out x j om;by_cases hjl:j<out.length
     ·obtain⟨o,hget2,hom,hat2,hne2⟩:=elt mJ om hjl;have ho:=hsm o hom;obtain⟨z,hzz⟩:∃z,z=(o-x).num.sign:=⟨_,rfl⟩
      have c:=ow o x om om;have hlt:rlt o x=decide (z<0):=by subst hzz;rfl
      have heq:z=0↔o=x:=by rw [hzz];exact CB
      rw [←hzz]at c;obtain⟨s1,s2⟩:=rT (lt:=rlt) (x:=x) hj hget2;rw [hlt]at s1 s2;by_cases hneg:z<0
      ·have hj1:=s1 (a9 hneg);clear hgo s1 s2
       as_aux_lemma =>
        refine A2 ⟨?_⟩;intros;refine fO (ae (cs':=rqx o) rfl rfl om om hat2 hne2) ?_;refine D1 c ⟨?_⟩;intros;exact hK2 _ _ (j+1) hj1 om lfA Sr
      ·have hje:=s2 (ab hneg);clear hK2 s1 s2;by_cases hz:o=x
       ·rw [wT hje hget2 hz]at hgo;have hz0:=heq.2 hz;clear heq
        as_aux_lemma =>
         refine A2 ⟨?_⟩;intros;refine fO (ae (cs':=rqx o) rfl rfl om om hat2 hne2) ?_;refine D1 c ⟨?_⟩;intros;refine fO (ae (cs':=rqx o) rfl rfl om om hat2 hne2) ?_;refine D1 c ⟨?_⟩;intros;exact hgo _ _ lfA Sq
       ·rw [wU hje hget2 hz]at hgo;have hz0:¬z=0:=fun e=>hz (heq.1 e)
        clear heq
        as_aux_lemma =>
         refine A2 ⟨?_⟩;intros;refine fO (ae (cs':=rqx o) rfl rfl om om hat2 hne2) ?_;refine D1 c ⟨?_⟩;intros;refine fO (ae (cs':=rqx o) rfl rfl om om hat2 hne2) ?_;refine D1 c ⟨?_⟩;intros;refine Wdo (m9 j rfl rfl rfl rfl rfl hfl om) ?_;repeat(first|(refine Wdo (nY (s:=ag (rqx x)) (ds:=rqx x) rfl inferInstance) ?_)|(refine Wdo (l8 j rfl rfl rfl hfl om) ?_)|(refine A1 ⟨?_⟩;intros))
         refine Wdo (cg (k:=1) (k0:=out.length-j) rfl rfl rfl hdl om) ?_;refine Wdo (cg (k:=j) (k0:=1+(out.length-j)) rfl rfl htl hpl2 om) ?_;rw [hins,hln];refine A2 ⟨?_⟩;intros;exact hgo _ _ lfA Sq
     ·have hje:j=out.length:=by omega
      rw [uC hje hj]at hgo;clear hK2
      as_aux_lemma =>
       refine A2 ⟨?_⟩;intros;refine Wdo (m9 j rfl rfl rfl rfl rfl hfl om) ?_;repeat(first|(refine Wdo (nY (s:=ag (rqx x)) (ds:=rqx x) rfl inferInstance) ?_)|(refine Wdo (l8 j rfl rfl rfl hfl om) ?_)|(refine A1 ⟨?_⟩;intros))
       refine Wdo (cg (k:=1) (k0:=out.length-j) rfl rfl rfl hdl om) ?_;refine Wdo (cg (k:=j) (k0:=1+(out.length-j)) rfl rfl htl hpl2 om) ?_;rw [hins,hln];refine A2 ⟨?_⟩;intros;exact hgo _ _ lfA Sq
  ·have hie:i=2:=by omega
   subst hie;clear hK3;refine A2 ⟨?_⟩;intros;exact hgo _ _ lfA (aF _)
 ·have hke:k=l.length:=by omega
  subst hke;rw [aX];refine A2 ⟨?_⟩;intros;exact db (bO (RV.tmp rfl) Lr)
end Go.Ab
