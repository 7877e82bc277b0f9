/- Texts laid one behind the other: GwC, GmC, GwD. -/
import Derived.Test.YtpeidlcjlfkpcaaGreatDoorB19
set_option linter.all false
set_option maxHeartbeats 16000000
namespace Go.Ab
open Go.Proofs
variable [Base]
abbrev spx (s:Spn):List SV:=[lit (.bool (decide (s.lo.num<0))),nat s.lo.num.natAbs,dg (oX s.lo.den),lit (.bool (decide (s.hi.num<0))),nat s.hi.num.natAbs,dg (oX s.hi.den),lit (.bool s.nl),lit (.bool s.nh)]
theorem ow (s:Spn):(spx s).length=8:=rfl
abbrev sps (l:List Spn):SV:=sl (l.map spx).flatten l.length
def HT (a b:Int):Int:=if 0<a∧b<0 then 2 else if(a=0∧b≤0)∨(b=0∧0≤a)then 1 else 0
theorem Q0 (s:Spn) (t:Rat):JB s t=HT (if s.nl then 1 else(t-s.lo).num.sign) (if s.nh then -1 else(t-s.hi).num.sign):=rfl
theorem Iv (l:List Spn) (t:Rat) (hl:l.length≤100000) (hh:∀s∈l,s.le 100000) (ht':ht t≤100000):Pu Tryz.prog 274 [sps l,rq t] (lit (.int .i64 (wm l t))):=by
  refine Pi Tryz.func274 fun C=>?_
  refine A2 ⟨?_⟩;intros;rename_i b3
  refine WP.loopS (ι:=Nat) (fun k=>k≤l.length∧wm (l.drop k) t=wm l t) (fun k=>l.length-k) (fun k=>fm [(3,lit (.pointer (some ⟨b3,0,none⟩))),(9,sps l),(10,lit (.int .i64 l.length)),(11,lit (.int .i64 k))]) (fun _=>[(b3,87,rqx t)]) 0
    ⟨an _,rfl⟩ lfA Sr ?_
  rintro k ⟨hk,hR⟩ K hK;by_cases hkl:k<l.length
  · obtain⟨s,hget,hsm,hat,hne⟩:=elt ow om hkl
    have hs:=hh s hsm;have hgo:=fun(h:wm (l.drop (k+1)) t=wm l t) F' H'=>hK F' H' (k+1) ⟨om,h⟩ om
    rw [kw hget,wm,Q0]at hR;obtain⟨lo,hi,nl,nh⟩:=s;obtain⟨hs1,hs2⟩:=hs;simp only at hs1 hs2 hR;have c1:=oA t lo om om;have c2:=oA t hi om om;generalize(t-lo).num.sign=z1 at *;generalize(t-hi).num.sign=z2 at *;generalize wm (l.drop (k+1)) t=R1 at *;generalize wm l t=R at *;clear hK hh hget hsm hs1 hs2 ht'
    have key:∀a b:Int,(if HT a b=0 then R1 else HT a b)=R→(0<a∧b<0∧R=2)∨((a=0∧b<0)∧R=1)∨((a=0∧b=0)∧R=1)∨((0<a∧b=0)∧R=1)∨(((a<0)∨(0<b))∧R1=R):=fun a b h=>by
      unfold HT at h;by_cases h1:0<a∧b<0
      · rw [if_pos h1,if_neg (by decide)]at h
        exact .inl ⟨h1.1,h1.2,h.symm⟩
      · rw [if_neg h1]at h
        by_cases h2:(a=0∧b≤0)∨(b=0∧0≤a)
        · rw [if_pos h2,if_neg (by decide)]at h
          right;rcases h2 with⟨h3,h4⟩|⟨h3,h4⟩
          · by_cases h5:b=0
            · exact .inr (.inl ⟨⟨h3,h5⟩,h.symm⟩)
            · exact .inl ⟨⟨h3,om⟩,h.symm⟩
          · by_cases h5:a=0
            · exact .inr (.inl ⟨⟨h5,h3⟩,h.symm⟩)
            · exact .inr (.inr (.inl ⟨⟨om,h3⟩,h.symm⟩))
        · rw [if_neg h2,if_pos rfl]at h
          exact .inr (.inr (.inr (.inr ⟨om,h⟩)))
    have hkey:=key _ _ hR;clear key hR;cases nl <;> cases nh <;> simp only [bE,aO,aV]at hkey
    all_goals
      rcases hkey with⟨g1,g2,rfl⟩|⟨⟨g1,g2⟩,rfl⟩|⟨⟨g1,g2⟩,rfl⟩|⟨⟨g1,g2⟩,rfl⟩|⟨g|g,rfl⟩
      all_goals first
        |omega
        | (repeat (refine A1 ⟨?_⟩; intros)
           refine Wo (ae (cs':=spx _) rfl rfl om om hat hne) ?_;refine D2 c1 c2 ⟨?_⟩;intros;exact cV (bJ (RV.tmp rfl) Lr))
        | (replace hgo := hgo rfl
           refine A2 ⟨?_⟩;intros;refine Wo (ae (cs':=spx _) rfl rfl om om hat hne) ?_;refine D2 c1 c2 ⟨?_⟩;intros;exact hgo _ _ lfA Sq)
        | (replace hgo := hgo rfl
           by_cases e1:z1=0
           · repeat(refine A1 ⟨?_⟩;intros)
             refine Wo (ae (cs':=spx _) rfl rfl om om hat hne) ?_;refine D2 c1 c2 ⟨?_⟩;intros;exact hgo _ _ lfA Sq
           · by_cases e2:0<z1
             all_goals
               refine A2 ⟨?_⟩;intros;refine Wo (ae (cs':=spx _) rfl rfl om om hat hne) ?_;refine D2 c1 c2 ⟨?_⟩;intros;exact hgo _ _ lfA Sq)
        | (replace hgo := hgo rfl
           rcases iy z2 0 with e|e|e
           all_goals
             refine A2 ⟨?_⟩;intros;refine Wo (ae (cs':=spx _) rfl rfl om om hat hne) ?_;refine D2 c1 c2 ⟨?_⟩;intros;exact hgo _ _ lfA Sq)
  · have hke:k=l.length:=by omega
    subst hke;rw [eL]at hR;rw [←hR];refine A2 ⟨?_⟩;intros;exact cV (bJ (RV.tmp rfl) Lr)
theorem KG (l:List Spn) (t:Rat) (hl:l.length≤100000) (hh:∀s∈l,s.le 100000) (ht':ht t≤100000):Pu Tryz.prog 247 [sps l,rq t] (lit (.bool (inL l t))):=by
 have c:=Iv l t hl hh ht';unfold inL;by_cases h:wm l t=2
 ·rw [a9 h];refine Pi Tryz.func247 fun C=>?_
  exact Y1 c
 ·rw [aa h];refine Pi Tryz.func247 fun C=>?_
  exact Y1 c
theorem CV:Pu Tryz.prog 185 [] (ag (spx Spn.full)):=by
 refine Pi Tryz.func185 fun C=>?_
 refine A2 ⟨?_⟩;intros;((first|refine cV ?_|refine jK ?_);refine bJ RVa ?_)
 exact Le.ag ⟨Le.refl _,wP,wQ,Le.refl _,wP,wQ,Le.refl _,Le.refl _,trivial⟩
theorem Jr {out:List Rat}{s:Spn}{y:Rat}(h:y∈mD out s):y∈out∨(s.nl=false∧y=s.lo)∨(s.nh=false∧y=s.hi):=by
 unfold mD at h
 have h1:∀{y},y∈(if s.nl then out else lS rlt out s.lo)→y∈out∨(s.nl=false∧y=s.lo):=fun {y} hy=>by
  split at hy
  ·exact .inl hy
  ·rename_i hn;rcases pG.1 hy with e|e
   ·exact .inr ⟨by simpa using hn,e⟩
   ·exact .inl e
 simp only at h;split at h
 ·rcases h1 h with e|e
  ·exact .inl e
  ·exact .inr (.inl e)
 ·rename_i hn;rcases pG.1 h with e|e
  ·exact .inr (.inr ⟨by simpa using hn,e⟩)
  ·rcases h1 e with e|e
   ·exact .inl e
   ·exact .inr (.inl e)
theorem AX:∀(l:List Spn) (out:List Rat) (y:Rat),y∈l.foldl mD out→y∈out∨∃s∈l,(s.nl=false∧y=s.lo)∨(s.nh=false∧y=s.hi)
 | [],out,y,h => .inl h
 |s::l,out,y,h=>by
  rcases AX l _ y h with h|⟨s',h1,h2⟩
  ·rcases Jr h with h|h
   ·exact .inl h
   ·exact .inr ⟨s,Ms,h⟩
  ·exact .inr ⟨s',Mc h1,h2⟩
theorem MI {l:List Spn}{y:Rat}(h:y∈fW l):∃s∈l,(s.nl=false∧y=s.lo)∨(s.nh=false∧y=s.hi):=by
 rcases AX l [] y h with h|h
 ·cases h
 ·exact h
theorem Js (out:List Rat) (s:Spn):(mD out s).length≤out.length+2:=by
 have h1:=pH rlt out s.lo;unfold mD;simp only;split
 ·split <;> omega
 ·split
  ·have:=pH rlt out s.hi;omega
  ·have:=pH rlt (lS rlt out s.lo) s.hi;omega
theorem AY:∀(l:List Spn) (out:List Rat),(l.foldl mD out).length≤out.length+2*l.length
 | [],out=>by simp
 |s::l,out=>by
  have:=AY l (mD out s);have:=Js out s;rw [gX,aF];omega
theorem E4 (l:List Spn):(fW l).length≤2*l.length:=by
 have:=AY l [];unfold fW;simpa using this
theorem HG {l:List Spn}{n:Nat}(h:∀s∈l,s.le n):∀y∈fW l,ht y≤n:=fun y hy=>by
 obtain⟨s,hs,⟨_,rfl⟩|⟨_,rfl⟩⟩:=MI hy
 ·exact(h s hs).1
 ·exact(h s hs).2
theorem qt (c:List Rat):(iN c).length=c.length+1:=by
 cases c with
 |nil=>rfl
 |cons a c=>unfold iN;simp
theorem BP (x y:Rat){n:Nat}(h:ht x≤n) (k:ht y≤n):ht (mQ x y)≤2*n+4:=by
 have h1:=fo x y;have h2:ht (2:Rat)≤1:=uU 2 om;have h3:=qC (x+y) 2;unfold mQ;omega
theorem JK {α β γ:Type}{f:α→β→γ}:∀{a:List α}{b:List β}{y:γ},y∈List.zipWith f a b→∃p∈a,∃q∈b,y=f p q
 | [],b,y,h=>by simp at h
 |_::_,[],y,h=>by simp at h
 |p::a,q::b,y,h=>by
  rw [List.zipWith_cons_cons,ak]at h;rcases h with h|h
  ·exact⟨p,Ms,q,Ms,h⟩
  ·obtain⟨p',h1,q',h2,h3⟩:=JK h;exact⟨p',Mc h1,q',Mc h2,h3⟩
theorem Iz {c:List Rat}{n:Nat}(h:∀y∈c,ht y≤n):∀y∈iN c,ht y≤2*n+4:=by
 have h1:=lU;have h0:=kv;cases c with
 |nil=>intro y hy;simp only [iN,ar]at hy;rw [hy];omega
 |cons a c =>
  intro y hy;unfold iN at hy;simp only [ak,az,ar,fG,eP]at hy;rcases hy with hy|hy|hy
  ·have:=h a Ms;have:=gh a 1;rw [hy];omega
  ·obtain⟨p,hp,q,hq,rfl⟩:=JK hy;exact BP p q (h p hp) (h q (Mc hq))
  ·have hg:(a::c).getLast (by simp)∈a::c:=List.getLast_mem _;have:=h _ hg;have:=fo ((a::c).getLast (by simp)) 1;rw [hy];omega
theorem C4 (c:List Rat) (marks:List Bool) (out:List Spn) (i:Nat):(gU c marks out i).length≤out.length+1:=by
 unfold gU;split
 ·omega
 ·split
  ·rw [gG];omega
  ·rw [ac,bH];omega
def yX (out:List Rat) (s:Spn):Nat→List Rat
 |0=>out
 |1=>if s.nl then out else lS rlt out s.lo
 |_=>mD out s
theorem CQ {o x:Rat}:(o-x).num.sign=0↔o=x:=by rw [e7];grind
theorem KM (l:List Spn) (hl:l.length≤100000) (hh:∀s∈l,s.le 100000):Pu Tryz.prog 245 [sps l] (rqs (fW l)):=by
 refine Pi Tryz.func245 fun C=>?_
 refine A2 ⟨?_⟩;intros
 refine WP.loopS (ι:=Nat) (fun k=>k≤l.length) (fun k=>l.length-k) (fun k=>fm [(3,rqs (fW (l.take k))),(9,sps l),(10,lit (.int .i64 l.length)),(11,lit (.int .i64 k))]) (fun _=>[]) 0
  (an _) (LeF.cons i5 lfA) (av _) ?_
 rintro k hk K hK;by_cases hkl:k<l.length
 ·obtain⟨s,hget,hsm0,hat,hne⟩:=elt ow om hkl;obtain⟨hlo,hhi⟩:=hh s hsm0;obtain⟨lo,hi,nl,nh⟩:=s;simp only at hlo hhi;have hgo:=fun F' H' h1 h2=>hK F' H' (k+1) om om h1 h2
  rw [show fW (l.take (k+1))=mD (fW (l.take k)) ⟨lo,hi,nl,nh⟩from qG hget]at hgo;have hsm:∀q∈fW (l.take k),ht q≤100000:=HG fun s hs=>hh s (gP hs)
  have hsl:=E4 (l.take k);rw [aC]at hsl;generalize fW (l.take k)=out0 at hgo hsm hsl⊢;clear hK hh hsm0 hget;refine A2 ⟨?_⟩;intros;refine Wo (ae (cs':=spx ⟨lo,hi,nl,nh⟩) rfl rfl om om hat hne) ?_;repeat(first|(refine Wo (e9 (r:=[(0,rqx lo),(1,rqx hi)]) (cs:=([lo,hi].map rqx).flatten) (.cons (sv:=ag (rqx lo)) rfl inferInstance (.cons (sv:=ag (rqx hi)) rfl inferInstance .nil))) ?_)|(refine Wdo (e9 (r:=[(0,rqx lo),(1,rqx hi)]) (cs:=([lo,hi].map rqx).flatten) (.cons (sv:=ag (rqx lo)) rfl inferInstance (.cons (sv:=ag (rqx hi)) rfl inferInstance .nil))) ?_)|(refine A1 ⟨?_⟩;intros))
  rename_i b5
  refine WP.loopS (ι:=Nat) (fun j=>j≤2) (fun j=>2-j) (fun j=>fm [(3,rqs (yX out0 ⟨lo,hi,nl,nh⟩ j)),(5,lit (.pointer (some ⟨b5,0,none⟩))),(9,sps l),(10,lit (.int .i64 l.length)),(11,lit (.int .i64 k)),(19,sl ([lo,hi].map rqx).flatten 2),(20,lit (.int .i64 2)),(21,lit (.int .i64 j))]) (fun _=>[(b5,237,spx ⟨lo,hi,nl,nh⟩)]) 0
   om lfA Sr ?_
  rintro i hile K3 hK3
  have hst:∀(i:Nat) (x:Rat) (nx:Bool),i<2→x=[lo,hi].getD i 0→nx=(if i=0 then nl else nh)→yX out0 ⟨lo,hi,nl,nh⟩ (i+1)=if nx then yX out0 ⟨lo,hi,nl,nh⟩ i else lS rlt (yX out0 ⟨lo,hi,nl,nh⟩ i) x:=by
   intro i x nx h1 h2 h3;have:i=0∨i=1:=by omega
   rcases this with rfl|rfl
   ·rw [h2,h3];rfl
   ·rw [h2,h3];rfl
  by_cases hi2:i<2
  ·have hi01:i=0∨i=1:=by omega
   obtain⟨x,hx⟩:∃x,x=[lo,hi].getD i 0:=⟨_,rfl⟩
   obtain⟨nx,hnx⟩:∃nx,nx=(if i=0 then nl else nh):=⟨_,rfl⟩
   have hgo3:=fun F' H'=>hK3 F' H' (i+1) om om
   rw [hst i x nx hi2 hx hnx]at hgo3;have hxb:ht x≤100000:=by rcases hi01 with rfl|rfl <;> rw [hx] <;> assumption
   have hat3:((([lo,hi].map rqx).flatten).drop (i*3)).take 3=rqx x:=by rcases hi01 with rfl|rfl <;> rw [hx] <;> rfl
   have hsm3:∀q∈yX out0 ⟨lo,hi,nl,nh⟩ i,ht q≤100000:=by
    have h1:∀q∈lS rlt out0 lo,ht q≤100000:=fun q hq=>(pG.1 hq).elim (fun e=>e▸hlo) (hsm q)
    rcases hi01 with rfl|rfl
    ·exact hsm
    ·show∀q∈(if nl then out0 else lS rlt out0 lo),ht q≤100000
     split
     ·exact hsm
     ·exact h1
   have hsl3:(yX out0 ⟨lo,hi,nl,nh⟩ i).length≤300000:=by
    have:=pH rlt out0 lo;rcases hi01 with rfl|rfl
    ·show out0.length≤_;omega
    ·show(if nl then out0 else lS rlt out0 lo).length≤_
     split <;> omega
   clear hst hK3 hgo hx;generalize yX out0 ⟨lo,hi,nl,nh⟩ i=out at *;cases hnv:nx with
   |true =>
    rw [hnv,if_pos rfl]at hgo3;rw [hnv]at hnx;clear hsm hsm3;rcases hi01 with rfl|rfl
    ·have hnl:nl=true:=hnx.symm;subst hnl;clear hnx;refine A2 ⟨?_⟩;intros;refine Wo (ae (cs':=rqx x) rfl rfl om om hat3 (by intro h;cases h)) ?_;refine A2 ⟨?_⟩;intros;exact hgo3 _ _ lfA Sq
    ·have hnl:nh=true:=hnx.symm;subst hnl;clear hnx;refine A2 ⟨?_⟩;intros;refine Wo (ae (cs':=rqx x) rfl rfl om om hat3 (by intro h;cases h)) ?_;refine A2 ⟨?_⟩;intros;exact hgo3 _ _ lfA Sq
   |false =>
    rw [hnv,if_neg (by decide)]at hgo3;rw [hnv]at hnx
    have hcx:(i=0∧nl=false)∨(i=1∧nh=false):=by
     rcases hi01 with rfl|rfl
     ·exact .inl ⟨rfl,hnx.symm⟩
     ·exact .inr ⟨rfl,hnx.symm⟩
    have hgo:=hgo3;clear hgo3 hsm hnx hi01 hsl;have hsm:=hsm3;have hsl:=hsl3;clear hsm3 hsl3;rcases hcx with⟨hi0,hnl⟩|⟨hi0,hnl⟩
    ·subst hnl;refine A2 ⟨?_⟩;intros;refine Wo (ae (cs':=rqx x) rfl rfl om om hat3 (by intro h;cases h)) ?_;refine A2 ⟨?_⟩;intros;rename_i b7;refine WP.loopS (ι:=Nat) (fun j=>j≤lQ rlt out x) (fun j=>out.length-j) (fun j=>fm [(3,sl (out.map rqx).flatten out.length),(8,lit (.int .i64 j)),(5,lit (.pointer (some ⟨b5,0,none⟩))),(7,lit (.pointer (some ⟨b7,0,none⟩))),(9,sps l),(10,lit (.int .i64 l.length)),(11,lit (.int .i64 k)),(19,sl ([lo,hi].map rqx).flatten 2),(20,lit (.int .i64 2)),(21,lit (.int .i64 i))]) (fun _=>[(b7,87,rqx x),(b5,237,spx ⟨lo,hi,false,nh⟩)]) 0 (an _) lfA Sr ?_;rintro j hj K2 hK2;have hpl:=se rlt out x;obtain⟨hfl,hdl,htl,hpl2,hins,hln⟩:=Py mH out x j om;by_cases hjl:j<out.length
     ·obtain⟨o,hget2,hom,hat2,hne2⟩:=elt mH om hjl;have ho:=hsm o hom;obtain⟨z,hzz⟩:∃z,z=(o-x).num.sign:=⟨_,rfl⟩
      have c:=oA o x om om;have hlt:rlt o x=decide (z<0):=by subst hzz;rfl
      have heq:z=0↔o=x:=by rw [hzz];exact CQ
      rw [←hzz]at c;obtain⟨s1,s2⟩:=sd (lt:=rlt) (x:=x) hj hget2;rw [hlt]at s1 s2;by_cases hneg:z<0
      ·have hj1:=s1 (a9 hneg);clear hgo s1 s2
       as_aux_lemma =>
        refine A2 ⟨?_⟩;intros;refine fJ (ae (cs':=rqx o) rfl rfl om om hat2 hne2) ?_;refine D1 c ⟨?_⟩;intros;exact hK2 _ _ (j+1) hj1 om lfA Sr
      ·have hje:=s2 (aa hneg);clear hK2 s1 s2;by_cases hz:o=x
       ·rw [xg hje hget2 hz]at hgo;have hz0:=heq.2 hz;clear heq
        as_aux_lemma =>
         refine A2 ⟨?_⟩;intros;refine fJ (ae (cs':=rqx o) rfl rfl om om hat2 hne2) ?_;refine D1 c ⟨?_⟩;intros;refine fJ (ae (cs':=rqx o) rfl rfl om om hat2 hne2) ?_;refine D1 c ⟨?_⟩;intros;exact hgo _ _ lfA Sq
       ·rw [xh hje hget2 hz]at hgo;have hz0:¬z=0:=fun e=>hz (heq.1 e)
        clear heq
        as_aux_lemma =>
         refine A2 ⟨?_⟩;intros;refine fJ (ae (cs':=rqx o) rfl rfl om om hat2 hne2) ?_;refine D1 c ⟨?_⟩;intros;refine fJ (ae (cs':=rqx o) rfl rfl om om hat2 hne2) ?_;refine D1 c ⟨?_⟩;intros;refine Wdo (m7 j rfl rfl rfl rfl rfl hfl om) ?_;repeat(first|(refine Wdo (nX (s:=ag (rqx x)) (ds:=rqx x) rfl inferInstance) ?_)|(refine Wdo (ld j rfl rfl rfl hfl om) ?_)|(refine A1 ⟨?_⟩;intros))
         refine Wdo (bU (k:=1) (k0:=out.length-j) rfl rfl rfl hdl om) ?_;refine Wdo (bU (k:=j) (k0:=1+(out.length-j)) rfl rfl htl hpl2 om) ?_;rw [hins,hln];refine A2 ⟨?_⟩;intros;exact hgo _ _ lfA Sq
     ·have hje:j=out.length:=by omega
      rw [uP hje hj]at hgo;clear hK2
      as_aux_lemma =>
       refine A2 ⟨?_⟩;intros;refine Wdo (m7 j rfl rfl rfl rfl rfl hfl om) ?_;repeat(first|(refine Wdo (nX (s:=ag (rqx x)) (ds:=rqx x) rfl inferInstance) ?_)|(refine Wdo (ld j rfl rfl rfl hfl om) ?_)|(refine A1 ⟨?_⟩;intros))
       refine Wdo (bU (k:=1) (k0:=out.length-j) rfl rfl rfl hdl om) ?_;refine Wdo (bU (k:=j) (k0:=1+(out.length-j)) rfl rfl htl hpl2 om) ?_;rw [hins,hln];refine A2 ⟨?_⟩;intros;exact hgo _ _ lfA Sq
    ·subst hnl;refine A2 ⟨?_⟩;intros;refine Wo (ae (cs':=rqx x) rfl rfl om om hat3 (by intro h;cases h)) ?_;refine A2 ⟨?_⟩;intros;rename_i b7;refine WP.loopS (ι:=Nat) (fun j=>j≤lQ rlt out x) (fun j=>out.length-j) (fun j=>fm [(3,sl (out.map rqx).flatten out.length),(8,lit (.int .i64 j)),(5,lit (.pointer (some ⟨b5,0,none⟩))),(7,lit (.pointer (some ⟨b7,0,none⟩))),(9,sps l),(10,lit (.int .i64 l.length)),(11,lit (.int .i64 k)),(19,sl ([lo,hi].map rqx).flatten 2),(20,lit (.int .i64 2)),(21,lit (.int .i64 i))]) (fun _=>[(b7,87,rqx x),(b5,237,spx ⟨lo,hi,nl,false⟩)]) 0 (an _) lfA Sr ?_;rintro j hj K2 hK2;have hpl:=se rlt out x;obtain⟨hfl,hdl,htl,hpl2,hins,hln⟩:=Py mH out x j om;by_cases hjl:j<out.length
     ·obtain⟨o,hget2,hom,hat2,hne2⟩:=elt mH om hjl;have ho:=hsm o hom;obtain⟨z,hzz⟩:∃z,z=(o-x).num.sign:=⟨_,rfl⟩
      have c:=oA o x om om;have hlt:rlt o x=decide (z<0):=by subst hzz;rfl
      have heq:z=0↔o=x:=by rw [hzz];exact CQ
      rw [←hzz]at c;obtain⟨s1,s2⟩:=sd (lt:=rlt) (x:=x) hj hget2;rw [hlt]at s1 s2;by_cases hneg:z<0
      ·have hj1:=s1 (a9 hneg);clear hgo s1 s2
       as_aux_lemma =>
        refine A2 ⟨?_⟩;intros;refine fJ (ae (cs':=rqx o) rfl rfl om om hat2 hne2) ?_;refine D1 c ⟨?_⟩;intros;exact hK2 _ _ (j+1) hj1 om lfA Sr
      ·have hje:=s2 (aa hneg);clear hK2 s1 s2;by_cases hz:o=x
       ·rw [xg hje hget2 hz]at hgo;have hz0:=heq.2 hz;clear heq
        as_aux_lemma =>
         refine A2 ⟨?_⟩;intros;refine fJ (ae (cs':=rqx o) rfl rfl om om hat2 hne2) ?_;refine D1 c ⟨?_⟩;intros;refine fJ (ae (cs':=rqx o) rfl rfl om om hat2 hne2) ?_;refine D1 c ⟨?_⟩;intros;exact hgo _ _ lfA Sq
       ·rw [xh hje hget2 hz]at hgo;have hz0:¬z=0:=fun e=>hz (heq.1 e)
        clear heq
        as_aux_lemma =>
         refine A2 ⟨?_⟩;intros;refine fJ (ae (cs':=rqx o) rfl rfl om om hat2 hne2) ?_;refine D1 c ⟨?_⟩;intros;refine fJ (ae (cs':=rqx o) rfl rfl om om hat2 hne2) ?_;refine D1 c ⟨?_⟩;intros;refine Wdo (m7 j rfl rfl rfl rfl rfl hfl om) ?_;repeat(first|(refine Wdo (nX (s:=ag (rqx x)) (ds:=rqx x) rfl inferInstance) ?_)|(refine Wdo (ld j rfl rfl rfl hfl om) ?_)|(refine A1 ⟨?_⟩;intros))
         refine Wdo (bU (k:=1) (k0:=out.length-j) rfl rfl rfl hdl om) ?_;refine Wdo (bU (k:=j) (k0:=1+(out.length-j)) rfl rfl htl hpl2 om) ?_;rw [hins,hln];refine A2 ⟨?_⟩;intros;exact hgo _ _ lfA Sq
     ·have hje:j=out.length:=by omega
      rw [uP hje hj]at hgo;clear hK2
      as_aux_lemma =>
       refine A2 ⟨?_⟩;intros;refine Wdo (m7 j rfl rfl rfl rfl rfl hfl om) ?_;repeat(first|(refine Wdo (nX (s:=ag (rqx x)) (ds:=rqx x) rfl inferInstance) ?_)|(refine Wdo (ld j rfl rfl rfl hfl om) ?_)|(refine A1 ⟨?_⟩;intros))
       refine Wdo (bU (k:=1) (k0:=out.length-j) rfl rfl rfl hdl om) ?_;refine Wdo (bU (k:=j) (k0:=1+(out.length-j)) rfl rfl htl hpl2 om) ?_;rw [hins,hln];refine A2 ⟨?_⟩;intros;exact hgo _ _ lfA Sq
  ·have hie:i=2:=by omega
   subst hie;clear hK3;refine A2 ⟨?_⟩;intros;exact hgo _ _ lfA (av _)
 ·have hke:k=l.length:=by omega
  subst hke;rw [aP];refine A2 ⟨?_⟩;intros;exact cV (bJ (RV.tmp rfl) Lr)
end Go.Ab
