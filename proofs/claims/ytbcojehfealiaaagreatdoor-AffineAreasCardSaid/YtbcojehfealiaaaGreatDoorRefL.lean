/- The reference's numbers: long division. -/
import Derived.Test.YtbcojehfealiaaaGreatDoorRefG
set_option linter.all false
set_option maxHeartbeats 16000000
namespace Go.Ab
open Go.Proofs
variable [Base]
theorem FT (h l d:Nat) (hh:h<d) (hl:l<4294967296) (hd:d<4294967296):Pu Tryz.prog 166 [lit (.int .u32 h),lit (.int .u32 l),lit (.int .u32 d)] (tup [lit (.int .u32 ((h*4294967296+l)/d:Nat)),lit (.int .u32 ((h*4294967296+l)%d:Nat))]):=by
 have hlt:(h*4294967296+l)/d<4294967296:=by
  rw [Nat.div_lt_iff_lt_mul om];have:=Nat.mul_le_mul_right 4294967296 hh;rw [Nat.mul_comm 4294967296];omega
 have hm:(h*4294967296+l)%d<d:=Nat.mod_lt _ om;have ho:=zf (a:=(h:Int)*4294967296) (b:=(l:Int)) h l rfl rfl om hl;obtain⟨v,hv⟩:∃v,v=h*4294967296+l:=⟨_,rfl⟩
 rw [←hv]at ho hlt hm⊢;have hvb:v≤18446744073709551615:=by omega
 clear hv;generalize hq:v/d=q at *;generalize hr:v%d=r at *;refine Pi Tryz.func166 fun C=>?_
 repeat(refine A1 ⟨?_⟩;intros)
 refine Wo (kE rfl rfl ho) ?_;repeat(refine A1 ⟨?_⟩;intros)
 rw [hq];repeat(refine A1 ⟨?_⟩;intros)
 rw [hr];repeat(refine A1 ⟨?_⟩;intros)
 exact G2
theorem Ip {R N:Nat}(hN:1≤N) (hR:R<4294967296^(N+1)) :
  R/4294967296^(N-1)=(if N<(dgs R).length then(dgs R).getD N 0*4294967296+(dgs R).getD (N-1) 0 else if N-1<(dgs R).length then(dgs R).getD (N-1) 0 else 0):=by
 have hl:=bC hR;have hD:=aR R;have hv:=au R;by_cases h1:N<(dgs R).length
 ·rw [if_pos h1];have hs:=oN (j:=N-1) hD om;rw [hv,si (dgs R) (N-1) om,show N-1+1=N from by omega,show N-1+2=N+1 from by omega,List.drop_eq_nil_of_le hl]at hs;rw [hs];simp [val];omega
 ·rw [if_neg h1];by_cases h2:N-1<(dgs R).length
  ·rw [if_pos h2];have hs:=oN (j:=N-1) hD om;rw [hv,cM (dgs R) (N-1) om,List.drop_eq_nil_of_le om]at hs;rw [hs];simp [val]
  ·rw [if_neg h2];exact Nat.div_eq_of_lt (vA om)
theorem Io {R N:Nat}(hN:1≤N) (hR:R<4294967296^(N+1)):R/4294967296^(N-1)<18446744073709551616:=by
 rw [Nat.div_lt_iff_lt_mul (Nat.pow_pos om)];rw [show N+1=(N-1)+2 from by omega,Nat.pow_add]at hR;rw [Nat.mul_comm];simpa using hR
abbrev H0 (s V R top ob L:Nat) (j:Int) (r:List (Nat×SV)):List (Nat×SV) :=
 (6,lit (.int .i64 s))::(7,nat V)::(8,nat R)::(9,lit (.int .u64 top))::(10,lit (.slice (some ⟨ob,0,none⟩) L L))::(11,lit (.int .i64 j))::r
theorem FD {R V top N j nv:Nat}(hV:top*4294967296^(nv-1)≤V) (h1:1≤nv) (hN:N=nv+j) (ht:0<top):R<(R/4294967296^(N-1)/top+1)*(V*4294967296^j):=by
 have e1:R<(R/4294967296^(N-1)+1)*4294967296^(N-1):=by
  have:=Nat.div_add_mod R (4294967296^(N-1));have hm:=Nat.mod_lt R (show 0<4294967296^(N-1)from Nat.pow_pos om);rw [Nat.add_mul,Nat.one_mul,Nat.mul_comm];omega
 generalize R/4294967296^(N-1)=l at *
 have e2:l+1≤(l/top+1)*top:=by
  have:=Nat.div_add_mod l top;have hm:=Nat.mod_lt l ht;rw [Nat.add_mul,Nat.one_mul,Nat.mul_comm];omega
 have e3:=Nat.mul_le_mul_right (4294967296^(N-1)) e2;have e4:=Nat.mul_le_mul_left (l/top+1) (Nat.mul_le_mul_right (4294967296^j) hV);rw [show N-1=nv-1+j from by omega,Nat.pow_add]at e1 e3;rw [Nat.mul_assoc top]at e4;rw [Nat.mul_assoc (l/top+1) top]at e3;omega
set_option maxRecDepth 20000 in
theorem DZ (a b:Nat) (hla:(dgs a).length≤10000000) (h2:2≤(dgs b).length) (hle:b≤a):Pu Tryz.prog 167 [nat a,nat b] (tup [nat (a/b),nat (a%b)]):=by
 obtain⟨n,hn⟩:∃n,(dgs b).length=n+1:=⟨(dgs b).length-1,om⟩
 have hlm:=aM hle;have hDb:=aR b;have htb:cq ((dgs b).getD n 0)≤32:=e7.2 (by simpa using hDb.get n);obtain⟨s,hs⟩:∃s,s+cq ((dgs b).getD n 0)=32:=⟨32-cq ((dgs b).getD n 0),om⟩
 obtain⟨s32,hvl,htop,hbl⟩:=rD (y:=b) (k:=n) hn hs;have hlz:=vt ((dgs b).getD n 0) (hDb.get n);rw [show(32:Int)-(cq ((dgs b).getD n 0):Int)=(s:Int)from by omega]at hlz;have ps:0<2^s:=Nat.pow_pos om;have hb0:0<b:=by have:0<4294967296^n:=Nat.pow_pos om;omega
 have hlb:=r6 b s om;have hlr:=r6 a s om;rw [show a/b=a*2^s/(b*2^s)from(Nat.mul_div_mul_right _ _ ps).symm];have hmodm:Hid (a*2^s%(b*2^s)=a%b*2^s):=Nat.mul_mod_mul_right _ _ _;have hmod0:Hid (a%b=a*2^s%(b*2^s)/2^s):=by show _=_;rw [hmodm.out,Nat.mul_div_cancel _ ps]
 rw [hmod0.out]
 have hal:(dgs (a*2^s)).length≤(dgs a).length+1:=by
  refine bC ?_;have e1:=Nat.mul_lt_mul_of_pos_right (jp a) ps;have e2:=Nat.mul_le_mul_left (4294967296^(dgs a).length) (show 2^s≤4294967296 from by have:=Nat.pow_le_pow_right (n:=2) om (show s≤32 by omega);simpa using this);rw [Nat.pow_succ];omega
 have hA0:a*2^s<b*2^s*4294967296^((dgs a).length-n):=by
  have e1:=Nat.mul_lt_mul_of_pos_right (jp a) ps;have e2:=Nat.mul_le_mul_right (4294967296^((dgs a).length-n)) hbl;rw [←Nat.pow_add,show n+((dgs a).length-n)=(dgs a).length from by omega]at e2;have e3:=Nat.mul_le_mul_right (2^s) e2;rw [Nat.mul_right_comm];omega
 have hVp:0<b*2^s:=Nat.mul_pos hb0 ps
 have htopV:(dgs (b*2^s)).getD n 0*4294967296^n≤b*2^s:=by
  have:=aA (dgs (b*2^s)) n;rw [List.take_of_length_le om,au,Nat.mul_comm (4294967296^n)]at this;omega
 have hVlt:b*2^s<4294967296^(n+1):=vA om;have hDv:=aR (b*2^s);have htl:=hDv.get n;generalize hA:a*2^s=A at *;generalize hV:b*2^s=V at *;refine Pi Tryz.func167 fun C=>?_
 repeat(refine A1 ⟨?_⟩;intros)
 rw [show(dgs b).length-1=n from by omega];refine Wc hlz ?_;repeat(refine A1 ⟨?_⟩;intros)
 refine Wc hlb ?_;repeat(refine A1 ⟨?_⟩;intros)
 refine Wc hlr ?_;repeat(refine A1 ⟨?_⟩;intros)
 rw [show(dgs V).length-1=n from by omega];generalize htope:(dgs V).getD n 0=top at *;repeat(refine A1 ⟨?_⟩;intros)
 refine oM ((dgs a).length-n) rfl rfl om om fun ob=>?_
 repeat(refine A1 ⟨?_⟩;intros)
 refine WP.loop (ι:=Nat×Nat×List Nat)
  (fun st=>st.1≤(dgs a).length-n∧(dgs st.2.1).length≤(dgs a).length+1∧st.2.2.length=(dgs a).length-n∧D st.2.2∧Hid (st.2.1+4294967296^st.1*(val (st.2.2.drop st.1)*V)=A)∧Hid (st.2.1<V*4294967296^st.1))
  (fun st=>st.1) (fun st=>fm (H0 s V st.2.1 top ob ((dgs a).length-n) ((st.1:Int)-1) []))
  (fun st=>[(ob,188,ax st.2.2)]) ((dgs a).length-n,A,List.replicate ((dgs a).length-n) 0)
  ⟨Nat.le_refl _,hal,by simp,D.rep _,by rw [List.drop_eq_nil_of_le (by simp)];simp [val,Hid],hA0⟩ lfA rfl ?_
 rintro ⟨k,R,os⟩ ⟨hk,hRl,hol,hO,hval,hrem⟩ Kc hKc;simp only at hk hRl hol hO hval hrem⊢;clear hA0 hal hlb hlr hlz hmodm;rcases k with _|j
 ·have hv:=hval.out;have hr:=hrem.out;simp only [List.drop_zero,Nat.pow_zero,Nat.one_mul,Nat.mul_one]at hv hr
  have hq:Hid (A/V=val os):=by
   show _=_
   rw [←hv,Nat.add_comm,Nat.mul_comm (val os),Nat.mul_add_div hVp,Nat.div_eq_of_lt hr,Nat.add_zero]
  have hm:Hid (A%V=R):=by
   show _=_
   rw [←hv,Nat.add_comm,Nat.mul_comm (val os),Nat.mul_add_mod,Nat.mod_eq_of_lt hr]
  rw [hq.out,hm.out];refine WP.pub (d:=10) (s':=dg os) (ak.here _) rfl (fun m arr hm ha=>by rw [←hol];exact yT om om m arr hm ha) ?_;clear hv hr;repeat(refine A1 ⟨?_⟩;intros)
  refine Wc (cS os om hO) ?_;repeat(refine A1 ⟨?_⟩;intros)
  refine Wc (BV R s om s32) ?_;repeat(refine A1 ⟨?_⟩;intros)
  exact G2
 ·rw [show(((j+1:Nat):Int)-1)=(j:Int)from by omega]
  have hRB:R<4294967296^(n+1+j+1):=by
   have e1:=hrem.out;have e2:=Nat.mul_lt_mul_of_pos_right hVlt (show 0<4294967296^(j+1)from Nat.pow_pos om);rw [←Nat.pow_add,←Nat.add_assoc]at e2;omega
  have hlead:=Ip (R:=R) (N:=n+1+j) om hRB;have hllt:=Io (R:=R) (N:=n+1+j) om hRB;have hge:Hid (R<(R/4294967296^(n+1+j-1)/top+1)*(V*4294967296^j)):=FD (nv:=n+1) (by rw [Nat.add_sub_cancel];exact htopV) om rfl om
  have hrj:Hid (R<4294967296*(V*4294967296^j)):=by
   have e1:=hrem.out;rw [Nat.pow_succ,←Nat.mul_assoc,Nat.mul_comm]at e1;exact e1
  have hDR:=aR R;have hx0:=hDR.get (n+1+j);have hx1:=hDR.get (n+1+j-1);have hvl':(dgs V).length=n+1:=hvl;clear hRB htopV hVlt;generalize R/4294967296^(n+1+j-1)=lead at *;repeat(refine A1 ⟨?_⟩;intros)
  rw [hvl'];repeat(refine A1 ⟨?_⟩;intros)
  refine WP.via (fun F H=>LeF F (fm (H0 s V R top ob ((dgs a).length-n) j [(12,lit (.int .u64 lead))]))∧H=[(ob,188,ax os)]) ?_ ?_
  ·refine WPd (fun h=>?_) (fun h=>?_)
   ·rw [if_pos om]at hlead;repeat(refine A1 ⟨?_⟩;intros)
    refine Wdo (kE rfl rfl ((zf ((dgs R).getD (n+1+j) 0) ((dgs R).getD (n+1+j-1) 0) rfl rfl hx0 hx1).trans (congrArg Nat.cast hlead.symm))) ?_;repeat(refine A1 ⟨?_⟩;intros)
    exact⟨lfA,rfl⟩
   ·rw [if_neg om]at hlead;by_cases h3:n+1+j-1<(dgs R).length
    ·rw [if_pos h3]at hlead;repeat(refine A1 ⟨?_⟩;intros)
     exact⟨lfA,rfl⟩
    ·rw [if_neg h3]at hlead;repeat(refine A1 ⟨?_⟩;intros)
     exact⟨lfA,rfl⟩
  ·rintro F H ⟨hF,rfl⟩;refine WP.le hF ?_;clear hx0 hx1 hlead
   have hg0:∃g:Nat,(if(4294967295:Int)<((lead/top:Nat):Int)then(4294967295:Int)else((lead/top:Nat):Int))=(g:Int)∧g<4294967296∧Hid (R<(g+1)*(V*4294967296^j)):=by
    by_cases h:4294967295<lead/top
    ·exact⟨4294967295,by rw [if_pos om];rfl,om,hrj.out⟩
    ·exact⟨lead/top,by rw [if_neg om],om,hge.out⟩
   obtain⟨g0,hg0e,hg0l,hg0⟩:=hg0;clear hge;have hpr:∀g,g<4294967296→Pu Tryz.prog 48 [nat V,nat g] (nat (V*g)):=fun g hg=>ej V g om (by have:=bC (n:=g) (k:=1) om;omega)
   have hlf:∀g,g<4294967296→Pu Tryz.prog 219 [nat (V*g),lit (.int .i64 (32*j))] (nat (g*(V*4294967296^j))):=fun g hg=>by
    have hg1:=bC (n:=g) (k:=1) om;have hl:=bW V g;have:=r6 (V*g) (32*j) om;rw [show V*g*2^(32*j)=g*(V*4294967296^j)from by rw [Nat.pow_mul,show(2^32:Nat)=4294967296 from rfl,Nat.mul_right_comm,Nat.mul_comm]]at this;rw [show((32*j:Nat):Int)=32*(j:Int)from by omega]at this;exact this
   repeat(refine A1 ⟨?_⟩;intros)
   refine Wo (Ev rfl rfl hg0e) ?_;repeat(refine A1 ⟨?_⟩;intros)
   refine Wc (gW g0 om) ?_;repeat(refine A1 ⟨?_⟩;intros)
   refine Wc (hpr g0 hg0l) ?_;repeat(refine A1 ⟨?_⟩;intros)
   refine Wc (hlf g0 hg0l) ?_;repeat(refine A1 ⟨?_⟩;intros)
   have hgl:∀g,g<4294967296→(dgs (g*(V*4294967296^j))).length≤100000000:=fun g hg=>by
    have h1:=bW g (V*4294967296^j);have h2:=bW V (4294967296^j);have h3:=bC (n:=4294967296^j) (k:=j+1) (Nat.pow_lt_pow_right om om);have h4:=bC (n:=g) (k:=1) om;omega
   refine WP.viaB (fun F H=>∃g,g<4294967296∧g*(V*4294967296^j)≤R∧Hid (R<(g+1)*(V*4294967296^j))∧LeF F (fm (H0 s V R top ob ((dgs a).length-n) j [(14,lit (.int .u64 g)),(15,nat (g*(V*4294967296^j)))]))∧H=[(ob,188,ax os)]) ?_ ?_
   ·refine WP.loop (ι:=Nat) (fun g=>g<4294967296∧Hid (R<(g+1)*(V*4294967296^j))) (fun g=>g) (fun g=>fm (H0 s V R top ob ((dgs a).length-n) j [(14,lit (.int .u64 g)),(15,nat (g*(V*4294967296^j)))])) (fun _=>[(ob,188,ax os)]) g0
     ⟨hg0l,hg0⟩ lfA rfl ?_
    rintro g ⟨hgB,hgR⟩ K2 hK2;have hc:=nR (g*(V*4294967296^j)) R (by have:=hgl g hgB;omega) om;by_cases hgt:R<g*(V*4294967296^j)
    ·rw [jd hgt]at hc;rcases g with _|g
     ·rw [Nat.zero_mul]at hgt;omega
     have hgt:Hid (R<(g+1)*(V*4294967296^j)):=hgt;clear hgR;repeat(refine A1 ⟨?_⟩;intros)
     refine Wc hc ?_;repeat(refine A1 ⟨?_⟩;intros)
     rw [show((g+1:Nat):Int)-1=(g:Int)from by omega];refine Wc (gW g om) ?_;repeat(refine A1 ⟨?_⟩;intros)
     refine Wc (hpr g om) ?_;repeat(refine A1 ⟨?_⟩;intros)
     refine Wc (hlf g om) ?_;repeat(refine A1 ⟨?_⟩;intros)
     exact hK2 _ _ g ⟨om,hgt⟩ om lfA rfl
    ·have hle2:jR (g*(V*4294967296^j)) R≤0:=by
      rcases Nat.lt_or_ge (g*(V*4294967296^j)) R with h|h
      ·rw [ib h];omega
      ·have e:g*(V*4294967296^j)=R:=by omega
       rw [e,oE];omega
     have hgt:g*(V*4294967296^j)≤R:=by omega
     generalize jR (g*(V*4294967296^j)) R=cc at *;repeat(refine A1 ⟨?_⟩;intros)
     refine Wc hc ?_;repeat(refine A1 ⟨?_⟩;intros)
     exact⟨g,hgB,hgt,hgR,lfA,rfl⟩
   ·rintro F H ⟨g,hgB,hgt,hgR,hF,rfl⟩;refine WP.le hF ?_;have hl:=r5 R (g*(V*4294967296^j)) hgt om;have hsub:(dgs (R-g*(V*4294967296^j))).length≤(dgs R).length:=aM (Nat.sub_le _ _)
    have hfin:Hid (R-g*(V*4294967296^j)+4294967296^j*(val ((os.set j g).drop j)*V)=A):=by
     show _=_
     rw [j8 os j g om,du,←hval.out,Nat.pow_succ,Nat.add_mul,Nat.mul_add,←Nat.add_assoc];have e:4294967296^j*(g*V)=g*(V*4294967296^j):=by rw [Nat.mul_left_comm,Nat.mul_comm V]
     rw [e,Nat.sub_add_cancel hgt];simp only [Nat.mul_assoc]
    have hfr:Hid (R-g*(V*4294967296^j)<V*4294967296^j):=by
     have:=hgR.out;rw [Nat.add_mul,Nat.one_mul]at this;show _<_
     omega
    clear hgt;repeat(refine A1 ⟨?_⟩;intros)
    refine f8 g rfl rfl rfl (ay.here _) om ?_;repeat(refine A1 ⟨?_⟩;intros)
    refine Wc hl ?_;repeat(refine A1 ⟨?_⟩;intros)
    exact hKc _ _ (j,R-g*(V*4294967296^j),os.set j g) ⟨by simp only;omega,by simp only;omega,by simpa using hol,hO.set _ hgB,hfin,hfr⟩ (by simp only;omega) lfA rfl
theorem fB (a b:Nat) (h0:b≠0) (ha:(dgs a).length≤10000000) (hb:(dgs b).length≤10000000):Pu Tryz.prog 106 [nat a,nat b] (tup [nat (a/b),nat (a%b)]):=by
 have wa:=nL a om;have wb:=nL b om;have hc:=nR a b om om;have hpb:=bX h0;have hm:a%b<b:=Nat.mod_lt _ om;by_cases h1:(dgs a).length≤2
 ·have ba:=qk h1;rw [if_pos h1]at wa;by_cases h2:(dgs b).length≤2
  ·have bb:=qk h2;rw [if_pos h2]at wb;have hq:=Nat.div_le_self a b;have w1:=gW (a/b) om;have w2:=gW (a%b) om;clear hc;refine Pi Tryz.func106 fun C=>?_
   repeat(refine A1 ⟨?_⟩;intros)
   refine Wc wa ?_;repeat(refine A1 ⟨?_⟩;intros)
   refine Wc wb ?_;repeat(refine A1 ⟨?_⟩;intros)
   refine Wdc w1 ?_;repeat(refine A1 ⟨?_⟩;intros)
   refine Wdc w2 ?_;repeat(refine A1 ⟨?_⟩;intros)
   exact G2
  ·rw [if_neg h2]at wb
   have hlt:a<b:=by
    rcases Nat.lt_or_ge a b with h|h
    ·exact h
    ·have:=aM h;omega
   rw [ib hlt]at hc;rw [Nat.div_eq_of_lt hlt,Nat.mod_eq_of_lt hlt];clear hm;refine Pi Tryz.func106 fun C=>?_
   repeat(refine A1 ⟨?_⟩;intros)
   refine Wc wa ?_;repeat(refine A1 ⟨?_⟩;intros)
   refine Wc wb ?_;repeat(refine A1 ⟨?_⟩;intros)
   refine Wc hc ?_;repeat(refine A1 ⟨?_⟩;intros)
   refine aS (fF (RV.tmp rfl) (RV.tmp rfl) (Le.tup2 ?_ Lr));rw [show nat 0=dg []from by show dg (dgs 0)=_;rw [aT]];exact eC
 ·rw [if_neg h1]at wa;by_cases hlt:a<b
  ·rw [ib hlt]at hc;rw [Nat.div_eq_of_lt hlt,Nat.mod_eq_of_lt hlt];clear hm;refine Pi Tryz.func106 fun C=>?_
   repeat(refine A1 ⟨?_⟩;intros)
   refine Wc wa ?_;repeat(refine A1 ⟨?_⟩;intros)
   refine Wc hc ?_;repeat(refine A1 ⟨?_⟩;intros)
   refine aS (fF (RV.tmp rfl) (RV.tmp rfl) (Le.tup2 ?_ Lr));rw [show nat 0=dg []from by show dg (dgs 0)=_;rw [aT]];exact eC
  ·have hge:0≤jR a b:=by
    rcases Nat.lt_or_ge b a with h|h
    ·rw [jd h];omega
    ·have e:a=b:=by omega
     rw [e,oE];omega
   generalize jR a b=cc at *;by_cases hb1:(dgs b).length=1
   ·have hd:b=(dgs b).getD 0 0:=Bj hb1;have hdb:b<4294967296:=by rw [hd];exact(aR b).get _
    have hva:=au a;have hP:=aR a;suffices h:Pu Tryz.prog 106 [dg (dgs a),nat b] (tup [nat (val (dgs a)/b),nat (val (dgs a)%b)]) by rw [hva]at h;exact h
    clear hm hva hlt;change Pu _ _ [dg (dgs a)] _ at wa
    change Pu _ _ [dg (dgs a),nat b] _ at hc
    generalize dgs a=xs at *;refine Pi Tryz.func106 fun C=>?_
    repeat(refine A1 ⟨?_⟩;intros)
    refine Wc wa ?_;repeat(refine A1 ⟨?_⟩;intros)
    refine Wc hc ?_;repeat(refine A1 ⟨?_⟩;intros)
    refine oM xs.length rfl rfl om om fun bb=>?_
    repeat(refine A1 ⟨?_⟩;intros)
    refine WP.loop (ι:=Nat×Nat×List Nat) (fun s=>s.1≤xs.length∧s.2.1<b∧s.2.2.length=xs.length∧D s.2.2∧Hid (val (xs.drop s.1)=val (s.2.2.drop s.1)*b+s.2.1)) (fun s=>s.1)
     (fun s=>fm [(0,dg xs),(1,nat b),(10,lit (.slice (some ⟨bb,0,none⟩) xs.length xs.length)),(11,lit (.int .u32 s.2.1)),(12,lit (.int .i64 ((s.1:Int)-1)))])
     (fun s=>[(bb,188,ax s.2.2)]) (xs.length,0,List.replicate xs.length 0) ⟨Nat.le_refl _,by simp only;omega,by simp,D.rep _,by simp [val,Hid]⟩ lfA rfl ?_
    rintro ⟨k,r,os⟩ ⟨hk,hr,hol,hO,hval⟩ K hK;simp only at hk hr hol hO hval⊢;rcases k with _|j
    ·have hv:=hval.out;simp only [List.drop_zero]at hv
     have hq:Hid (val xs/b=val os):=by
      show _=_
      rw [hv,Nat.mul_comm,Nat.mul_add_div om,Nat.div_eq_of_lt hr,Nat.add_zero]
     have hm:Hid (val xs%b=r):=by
      show _=_
      rw [hv,Nat.mul_comm,Nat.mul_add_mod,Nat.mod_eq_of_lt hr]
     rw [hq.out,hm.out];have hrt:=cS [r] (by simp) (D.cons om D.nil);rw [show val [r]=r from by simp [val]]at hrt;clear hv;repeat(refine A1 ⟨?_⟩;intros)
     refine g9 (ds:=os) 68 rfl (ak.here _) hol om om ?_;refine Wc (cS os om hO) ?_;(refine O1 ⟨?_⟩;intros)
     (refine O1 ⟨?_⟩;intros)
     refine g9 (ds:=[r]) 71 rfl (ak.here _) rfl om om ?_;refine Wc hrt ?_;repeat(refine A1 ⟨?_⟩;intros)
     exact G2
    ·rw [show(((j+1:Nat):Int)-1)=(j:Int)from by omega];have hx:=hP.get j;have hdv:=FT r (xs.getD j 0) b hr hx hdb
     have hlt:(r*4294967296+xs.getD j 0)/b<4294967296:=by
      rw [Nat.div_lt_iff_lt_mul om];have:=Nat.mul_le_mul_right 4294967296 hr;rw [Nat.mul_comm 4294967296];omega
     have hrm:(r*4294967296+xs.getD j 0)%b<b:=Nat.mod_lt _ om;have hsd:=@pL _ (val (xs.drop (j+1))) (val (os.drop (j+1))) b r (xs.getD j 0) _ _ _ hval.out rfl rfl rfl;have hsd:Hid _:=hsd;generalize(r*4294967296+xs.getD j 0)/b=q at *;generalize(r*4294967296+xs.getD j 0)%b=r2 at *;repeat(refine A1 ⟨?_⟩;intros)
     rw [←hd];refine Wdc hdv ?_;repeat(refine A1 ⟨?_⟩;intros)
     refine f8 q rfl rfl om (ay.here _) om ?_;repeat(refine A1 ⟨?_⟩;intros)
     refine hK _ _ (j,r2,os.set j q) ⟨by simp only;omega,hrm,by simpa using hol,hO.set _ hlt,?_⟩ (by simp only;omega) lfA rfl;simp only [Hid];rw [cM xs j om,j8 os j _ om,du,du];exact hsd.out
   ·have hl:=DZ a b ha om om;clear hm hlt;refine Pi Tryz.func106 fun C=>?_
    repeat(refine A1 ⟨?_⟩;intros)
    refine Wc wa ?_;repeat(refine A1 ⟨?_⟩;intros)
    refine Wc hc ?_;repeat(refine A1 ⟨?_⟩;intros)
    refine Wc hl ?_;repeat(refine A1 ⟨?_⟩;intros)
    exact G2
end Go.Ab
