/- The reference's numbers: long division. -/
import Derived.Test.YtjopjomoejfehaaGreatDoorB05
set_option linter.all false
set_option maxHeartbeats 16000000
namespace Go.Ab
open Go.Proofs
variable [Base]
theorem M9 (h l d:Nat) (hh:h<d) (hl:l<4294967296) (hd:d<4294967296):Pu Tryz.prog 182 [lit (.int .u32 h),lit (.int .u32 l),lit (.int .u32 d)] (tup [lit (.int .u32 ((h*4294967296+l)/d:Nat)),lit (.int .u32 ((h*4294967296+l)%d:Nat))]):=by
 have hlt:(h*4294967296+l)/d<4294967296:=by
  rw [kG om];have:=aT 4294967296 hh;rw [aI 4294967296];omega
 have hm:(h*4294967296+l)%d<d:=cT _ om;have ho:=EV (a:=(h:Int)*4294967296) (b:=(l:Int)) h l rfl rfl om hl;obtain⟨v,hv⟩:∃v,v=h*4294967296+l:=⟨_,rfl⟩
 rw [←hv]at ho hlt hm⊢;have hvb:v≤18446744073709551615:=by omega
 clear hv;generalize hq:v/d=q at *;generalize hr:v%d=r at *;refine Pi Tryz.func182 fun C=>?_
 refine A2 ⟨?_⟩;intros;refine Wo (qL rfl rfl ho) ?_;refine A2 ⟨?_⟩;intros;rw [hq];refine A2 ⟨?_⟩;intros;rw [hr];refine A2 ⟨?_⟩;intros;exact G2
theorem Ow {R N:Nat}(hN:1≤N) (hR:R<4294967296^(N+1)) :
  R/4294967296^(N-1)=(if N<(dgs R).length then(dgs R).getD N 0*4294967296+(dgs R).getD (N-1) 0 else if N-1<(dgs R).length then(dgs R).getD (N-1) 0 else 0):=by
 have hl:=dU hR;have hD:=cE R;have hv:=aK R;by_cases h1:N<(dgs R).length
 ·rw [if_pos h1];have hs:=v9 (j:=N-1) hD om;rw [hv,yN (dgs R) (N-1) om,show N-1+1=N from by omega,show N-1+2=N+1 from by omega,fR hl]at hs;rw [hs];simp [val];omega
 ·rw [if_neg h1];by_cases h2:N-1<(dgs R).length
  ·rw [if_pos h2];have hs:=v9 (j:=N-1) hD om;rw [hv,fX (dgs R) (N-1) om,fR om]at hs;rw [hs];simp [val]
  ·rw [if_neg h2];exact ft (BD om)
theorem Ov {R N:Nat}(hN:1≤N) (hR:R<4294967296^(N+1)):R/4294967296^(N-1)<18446744073709551616:=by
 rw [kG (cZ om)];rw [show N+1=(N-1)+2 from by omega,cF]at hR;rw [aI];simpa using hR
abbrev Nj (s V R top ob L:Nat) (j:Int) (r:List (Nat×SV)):List (Nat×SV) :=
 (6,lit (.int .i64 s))::(7,nat V)::(8,nat R)::(9,lit (.int .u64 top))::(10,lit (.slice (some ⟨ob,0,none⟩) L L))::(11,lit (.int .i64 j))::r
theorem LN {R V top N j nv:Nat}(hV:top*4294967296^(nv-1)≤V) (h1:1≤nv) (hN:N=nv+j) (ht:0<top):R<(R/4294967296^(N-1)/top+1)*(V*4294967296^j):=by
 have e1:R<(R/4294967296^(N-1)+1)*4294967296^(N-1):=by
  have:=fx R (4294967296^(N-1));have hm:=cT R (show 0<4294967296^(N-1)from cZ om);rw [aJ,aY,aI];omega
 generalize R/4294967296^(N-1)=l at *
 have e2:l+1≤(l/top+1)*top:=by
  have:=fx l top;have hm:=cT l ht;rw [aJ,aY,aI];omega
 have e3:=aT (4294967296^(N-1)) e2;have e4:=eM (l/top+1) (aT (4294967296^j) hV);rw [show N-1=nv-1+j from by omega,cF]at e1 e3;rw [aM top]at e4;rw [aM (l/top+1) top]at e3;omega
set_option maxRecDepth 20000 in
theorem Ke (a b:Nat) (hla:(dgs a).length≤10000000) (h2:2≤(dgs b).length) (hle:b≤a):Pu Tryz.prog 183 [nat a,nat b] (tup [nat (a/b),nat (a%b)]):=by
 obtain⟨n,hn⟩:∃n,(dgs b).length=n+1:=⟨(dgs b).length-1,om⟩
 have hlm:=cH hle;have hDb:=cE b;have htb:f4 ((dgs b).getD n 0)≤32:=j4.2 (by simpa using hDb.get n);obtain⟨s,hs⟩:∃s,s+f4 ((dgs b).getD n 0)=32:=⟨32-f4 ((dgs b).getD n 0),om⟩
 obtain⟨s32,hvl,htop,hbl⟩:=ya (y:=b) (k:=n) hn hs;have hlz:=Bz ((dgs b).getD n 0) (hDb.get n);rw [show(32:Int)-(f4 ((dgs b).getD n 0):Int)=(s:Int)from by omega]at hlz;have ps:0<2^s:=cZ om;have hb0:0<b:=by have:0<4294967296^n:=cZ om;omega
 have hlb:=xO b s om;have hlr:=xO a s om;rw [show a/b=a*2^s/(b*2^s)from(Nat.mul_div_mul_right _ _ ps).symm];have hmodm:Hid (a*2^s%(b*2^s)=a%b*2^s):=Nat.mul_mod_mul_right _ _ _;have hmod0:Hid (a%b=a*2^s%(b*2^s)/2^s):=by show _=_;rw [hmodm.out,Nat.mul_div_cancel _ ps]
 rw [hmod0.out]
 have hal:(dgs (a*2^s)).length≤(dgs a).length+1:=by
  refine dU ?_;have e1:=kF (o6 a) ps;have e2:=eM (4294967296^(dgs a).length) (show 2^s≤4294967296 from by have:=gQ (n:=2) om (show s≤32 by omega);simpa using this);rw [bU];omega
 have hA0:a*2^s<b*2^s*4294967296^((dgs a).length-n):=by
  have e1:=kF (o6 a) ps;have e2:=aT (4294967296^((dgs a).length-n)) hbl;rw [←cF,show n+((dgs a).length-n)=(dgs a).length from by omega]at e2;have e3:=aT (2^s) e2;rw [iV];omega
 have hVp:0<b*2^s:=nK hb0 ps
 have htopV:(dgs (b*2^s)).getD n 0*4294967296^n≤b*2^s:=by
  have:=bN (dgs (b*2^s)) n;rw [da om,aK,aI (4294967296^n)]at this;omega
 have hVlt:b*2^s<4294967296^(n+1):=BD om;have hDv:=cE (b*2^s);have htl:=hDv.get n;generalize hA:a*2^s=A at *;generalize hV:b*2^s=V at *;refine Pi Tryz.func183 fun C=>?_
 refine A2 ⟨?_⟩;intros;rw [show(dgs b).length-1=n from by omega];refine Wc hlz ?_;refine A2 ⟨?_⟩;intros;refine Wc hlb ?_;refine A2 ⟨?_⟩;intros;refine Wc hlr ?_;refine A2 ⟨?_⟩;intros;rw [show(dgs V).length-1=n from by omega];generalize htope:(dgs V).getD n 0=top at *;refine A2 ⟨?_⟩;intros;refine v8 ((dgs a).length-n) rfl rfl om om fun ob=>?_
 refine A2 ⟨?_⟩;intros
 refine WP.loop (ι:=Nat×Nat×List Nat)
  (fun st=>st.1≤(dgs a).length-n∧(dgs st.2.1).length≤(dgs a).length+1∧st.2.2.length=(dgs a).length-n∧D st.2.2∧Hid (st.2.1+4294967296^st.1*(val (st.2.2.drop st.1)*V)=A)∧Hid (st.2.1<V*4294967296^st.1))
  (fun st=>st.1) (fun st=>fm (Nj s V st.2.1 top ob ((dgs a).length-n) ((st.1:Int)-1) []))
  (fun st=>[(ob,252,bI st.2.2)]) ((dgs a).length-n,A,List.replicate ((dgs a).length-n) 0)
  ⟨ar _,hal,by simp,D.rep _,by rw [fR (by simp)];simp [val,Hid],hA0⟩ lfA rfl ?_
 rintro ⟨k,R,os⟩ ⟨hk,hRl,hol,hO,hval,hrem⟩ Kc hKc;simp only at hk hRl hol hO hval hrem⊢;clear hA0 hal hlb hlr hlz hmodm;rcases k with _|j
 ·have hv:=hval.out;have hr:=hrem.out;simp only [bG,jK,aY,cw]at hv hr
  have hq:Hid (A/V=val os):=by
   show _=_
   rw [←hv,iz,aI (val os),pX hVp,ft hr,cA]
  have hm:Hid (A%V=R):=by
   show _=_
   rw [←hv,iz,aI (val os),pW,dP hr]
  rw [hq.out,hm.out];refine WP.pub (d:=10) (s':=dg os) (aq.here _) rfl (fun m arr hm ha=>by rw [←hol];exact EQ om om m arr hm ha) ?_;clear hv hr;refine A2 ⟨?_⟩;intros;refine Wc (gI os om hO) ?_;refine A2 ⟨?_⟩;intros;refine Wc (I6 R s om s32) ?_;refine A2 ⟨?_⟩;intros;exact G2
 ·rw [show(((j+1:Nat):Int)-1)=(j:Int)from by omega]
  have hRB:R<4294967296^(n+1+j+1):=by
   have e1:=hrem.out;have e2:=kF hVlt (show 0<4294967296^(j+1)from cZ om);rw [←cF,←jQ]at e2;omega
  have hlead:=Ow (R:=R) (N:=n+1+j) om hRB;have hllt:=Ov (R:=R) (N:=n+1+j) om hRB;have hge:Hid (R<(R/4294967296^(n+1+j-1)/top+1)*(V*4294967296^j)):=LN (nv:=n+1) (by rw [dY];exact htopV) om rfl om
  have hrj:Hid (R<4294967296*(V*4294967296^j)):=by
   have e1:=hrem.out;rw [bU,←aM,aI]at e1;exact e1
  have hDR:=cE R;have hx0:=hDR.get (n+1+j);have hx1:=hDR.get (n+1+j-1);have hvl':(dgs V).length=n+1:=hvl;clear hRB htopV hVlt;generalize R/4294967296^(n+1+j-1)=lead at *;refine A2 ⟨?_⟩;intros;rw [hvl'];refine A2 ⟨?_⟩;intros;refine WP.via (fun F H=>LeF F (fm (Nj s V R top ob ((dgs a).length-n) j [(12,lit (.int .u64 lead))]))∧H=[(ob,252,bI os)]) ?_ ?_
  ·refine WPd (fun h=>?_) (fun h=>?_)
   ·rw [if_pos om]at hlead;refine A2 ⟨?_⟩;intros;refine Wdo (qL rfl rfl ((EV ((dgs R).getD (n+1+j) 0) ((dgs R).getD (n+1+j-1) 0) rfl rfl hx0 hx1).trans (congrArg Nat.cast hlead.symm))) ?_;refine A2 ⟨?_⟩;intros;exact⟨lfA,rfl⟩
   ·rw [if_neg om]at hlead;by_cases h3:n+1+j-1<(dgs R).length
    ·rw [if_pos h3]at hlead;refine A2 ⟨?_⟩;intros;exact⟨lfA,rfl⟩
    ·rw [if_neg h3]at hlead;refine A2 ⟨?_⟩;intros;exact⟨lfA,rfl⟩
  ·rintro F H ⟨hF,rfl⟩;refine WP.le hF ?_;clear hx0 hx1 hlead
   have hg0:∃g:Nat,(if(4294967295:Int)<((lead/top:Nat):Int)then(4294967295:Int)else((lead/top:Nat):Int))=(g:Int)∧g<4294967296∧Hid (R<(g+1)*(V*4294967296^j)):=by
    by_cases h:4294967295<lead/top
    ·exact⟨4294967295,by rw [if_pos om];rfl,om,hrj.out⟩
    ·exact⟨lead/top,by rw [if_neg om],om,hge.out⟩
   obtain⟨g0,hg0e,hg0l,hg0⟩:=hg0;clear hge;have hpr:∀g,g<4294967296→Pu Tryz.prog 82 [nat V,nat g] (nat (V*g)):=fun g hg=>j7 V g om (by have:=dU (n:=g) (k:=1) om;omega)
   have hlf:∀g,g<4294967296→Pu Tryz.prog 230 [nat (V*g),lit (.int .i64 (32*j))] (nat (g*(V*4294967296^j))):=fun g hg=>by
    have hg1:=dU (n:=g) (k:=1) om;have hl:=eV V g;have:=xO (V*g) (32*j) om;rw [show V*g*2^(32*j)=g*(V*4294967296^j)from by rw [nO,show(2^32:Nat)=4294967296 from rfl,iV,aI]]at this;rw [show((32*j:Nat):Int)=32*(j:Int)from by omega]at this;exact this
   refine A2 ⟨?_⟩;intros;refine Wo (KI rfl rfl hg0e) ?_;refine A2 ⟨?_⟩;intros;refine Wc (mI g0 om) ?_;refine A2 ⟨?_⟩;intros;refine Wc (hpr g0 hg0l) ?_;refine A2 ⟨?_⟩;intros;refine Wc (hlf g0 hg0l) ?_;refine A2 ⟨?_⟩;intros
   have hgl:∀g,g<4294967296→(dgs (g*(V*4294967296^j))).length≤100000000:=fun g hg=>by
    have h1:=eV g (V*4294967296^j);have h2:=eV V (4294967296^j);have h3:=dU (n:=4294967296^j) (k:=j+1) (Nat.pow_lt_pow_right om om);have h4:=dU (n:=g) (k:=1) om;omega
   refine WP.viaB (fun F H=>∃g,g<4294967296∧g*(V*4294967296^j)≤R∧Hid (R<(g+1)*(V*4294967296^j))∧LeF F (fm (Nj s V R top ob ((dgs a).length-n) j [(14,lit (.int .u64 g)),(15,nat (g*(V*4294967296^j)))]))∧H=[(ob,252,bI os)]) ?_ ?_
   ·refine WP.loop (ι:=Nat) (fun g=>g<4294967296∧Hid (R<(g+1)*(V*4294967296^j))) (fun g=>g) (fun g=>fm (Nj s V R top ob ((dgs a).length-n) j [(14,lit (.int .u64 g)),(15,nat (g*(V*4294967296^j)))])) (fun _=>[(ob,252,bI os)]) g0
     ⟨hg0l,hg0⟩ lfA rfl ?_
    rintro g ⟨hgB,hgR⟩ K2 hK2;have hc:=uc (g*(V*4294967296^j)) R (by have:=hgl g hgB;omega) om;by_cases hgt:R<g*(V*4294967296^j)
    ·rw [oF hgt]at hc;rcases g with _|g
     ·rw [bS]at hgt;omega
     have hgt:Hid (R<(g+1)*(V*4294967296^j)):=hgt;clear hgR;refine A2 ⟨?_⟩;intros;refine Wc hc ?_;refine A2 ⟨?_⟩;intros;rw [show((g+1:Nat):Int)-1=(g:Int)from by omega];refine Wc (mI g om) ?_;refine A2 ⟨?_⟩;intros;refine Wc (hpr g om) ?_;refine A2 ⟨?_⟩;intros;refine Wc (hlf g om) ?_;refine A2 ⟨?_⟩;intros;exact hK2 _ _ g ⟨om,hgt⟩ om lfA rfl
    ·have hle2:pF (g*(V*4294967296^j)) R≤0:=by
      rcases aN (g*(V*4294967296^j)) R with h|h
      ·rw [mS h];omega
      ·have e:g*(V*4294967296^j)=R:=by omega
       rw [e,uU];omega
     have hgt:g*(V*4294967296^j)≤R:=by omega
     generalize pF (g*(V*4294967296^j)) R=cc at *;refine A2 ⟨?_⟩;intros;refine Wc hc ?_;refine A2 ⟨?_⟩;intros;exact⟨g,hgB,hgt,hgR,lfA,rfl⟩
   ·rintro F H ⟨g,hgB,hgt,hgR,hF,rfl⟩;refine WP.le hF ?_;have hl:=xN R (g*(V*4294967296^j)) hgt om;have hsub:(dgs (R-g*(V*4294967296^j))).length≤(dgs R).length:=cH (nL _ _)
    have hfin:Hid (R-g*(V*4294967296^j)+4294967296^j*(val ((os.set j g).drop j)*V)=A):=by
     show _=_
     rw [oE os j g om,i4,←hval.out,bU,aJ,aP,←jQ];have e:4294967296^j*(g*V)=g*(V*4294967296^j):=by rw [pY,aI V]
     rw [e,sU hgt];simp only [aM]
    have hfr:Hid (R-g*(V*4294967296^j)<V*4294967296^j):=by
     have:=hgR.out;rw [aJ,aY]at this;show _<_
     omega
    clear hgt;refine A2 ⟨?_⟩;intros;refine k9 g rfl rfl rfl (bz.here _) om ?_;refine A2 ⟨?_⟩;intros;refine Wc hl ?_;refine A2 ⟨?_⟩;intros;exact hKc _ _ (j,R-g*(V*4294967296^j),os.set j g) ⟨by simp only;omega,by simp only;omega,by simpa using hol,hO.set _ hgB,hfin,hfr⟩ (by simp only;omega) lfA rfl
theorem kP (a b:Nat) (h0:b≠0) (ha:(dgs a).length≤10000000) (hb:(dgs b).length≤10000000):Pu Tryz.prog 131 [nat a,nat b] (tup [nat (a/b),nat (a%b)]):=by
 have wa:=tW a om;have wb:=tW b om;have hc:=uc a b om om;have hpb:=eW h0;have hm:a%b<b:=cT _ om;by_cases h1:(dgs a).length≤2
 ·have ba:=wR h1;rw [if_pos h1]at wa;by_cases h2:(dgs b).length≤2
  ·have bb:=wR h2;rw [if_pos h2]at wb;have hq:=dw a b;have w1:=mI (a/b) om;have w2:=mI (a%b) om;clear hc;refine Pi Tryz.func131 fun C=>?_
   refine A2 ⟨?_⟩;intros;refine Wc wa ?_;refine A2 ⟨?_⟩;intros;refine Wc wb ?_;refine A2 ⟨?_⟩;intros;refine Wdc w1 ?_;refine A2 ⟨?_⟩;intros;refine Wdc w2 ?_;refine A2 ⟨?_⟩;intros;exact G2
  ·rw [if_neg h2]at wb
   have hlt:a<b:=by
    rcases aN a b with h|h
    ·exact h
    ·have:=cH h;omega
   rw [mS hlt]at hc;rw [ft hlt,dP hlt];clear hm;refine Pi Tryz.func131 fun C=>?_
   refine A2 ⟨?_⟩;intros;refine Wc wa ?_;refine A2 ⟨?_⟩;intros;refine Wc wb ?_;refine A2 ⟨?_⟩;intros;refine Wc hc ?_;refine A2 ⟨?_⟩;intros;refine db (eJ (RV.tmp rfl) (RV.tmp rfl) (Le.tup2 ?_ Lr));rw [show nat 0=dg []from by show dg (dgs 0)=_;rw [cI]];exact gC
 ·rw [if_neg h1]at wa;by_cases hlt:a<b
  ·rw [mS hlt]at hc;rw [ft hlt,dP hlt];clear hm;refine Pi Tryz.func131 fun C=>?_
   refine A2 ⟨?_⟩;intros;refine Wc wa ?_;refine A2 ⟨?_⟩;intros;refine Wc hc ?_;refine A2 ⟨?_⟩;intros;refine db (eJ (RV.tmp rfl) (RV.tmp rfl) (Le.tup2 ?_ Lr));rw [show nat 0=dg []from by show dg (dgs 0)=_;rw [cI]];exact gC
  ·have hge:0≤pF a b:=by
    rcases aN b a with h|h
    ·rw [oF h];omega
    ·have e:a=b:=by omega
     rw [e,uU];omega
   generalize pF a b=cc at *;by_cases hb1:(dgs b).length=1
   ·have hd:b=(dgs b).getD 0 0:=Hq hb1;have hdb:b<4294967296:=by rw [hd];exact(cE b).get _
    have hva:=aK a;have hP:=cE a;suffices h:Pu Tryz.prog 131 [dg (dgs a),nat b] (tup [nat (val (dgs a)/b),nat (val (dgs a)%b)]) by rw [hva]at h;exact h
    clear hm hva hlt;change Pu _ _ [dg (dgs a)] _ at wa
    change Pu _ _ [dg (dgs a),nat b] _ at hc
    generalize dgs a=xs at *;refine Pi Tryz.func131 fun C=>?_
    refine A2 ⟨?_⟩;intros;refine Wc wa ?_;refine A2 ⟨?_⟩;intros;refine Wc hc ?_;refine A2 ⟨?_⟩;intros;refine v8 xs.length rfl rfl om om fun bb=>?_
    refine A2 ⟨?_⟩;intros
    refine WP.loop (ι:=Nat×Nat×List Nat) (fun s=>s.1≤xs.length∧s.2.1<b∧s.2.2.length=xs.length∧D s.2.2∧Hid (val (xs.drop s.1)=val (s.2.2.drop s.1)*b+s.2.1)) (fun s=>s.1)
     (fun s=>fm [(0,dg xs),(1,nat b),(10,lit (.slice (some ⟨bb,0,none⟩) xs.length xs.length)),(11,lit (.int .u32 s.2.1)),(12,lit (.int .i64 ((s.1:Int)-1)))])
     (fun s=>[(bb,252,bI s.2.2)]) (xs.length,0,List.replicate xs.length 0) ⟨ar _,by simp only;omega,by simp,D.rep _,by simp [val,Hid]⟩ lfA rfl ?_
    rintro ⟨k,r,os⟩ ⟨hk,hr,hol,hO,hval⟩ K hK;simp only at hk hr hol hO hval⊢;rcases k with _|j
    ·have hv:=hval.out;simp only [bG]at hv
     have hq:Hid (val xs/b=val os):=by
      show _=_
      rw [hv,aI,pX om,ft hr,cA]
     have hm:Hid (val xs%b=r):=by
      show _=_
      rw [hv,aI,pW,dP hr]
     rw [hq.out,hm.out];have hrt:=gI [r] (by simp) (D.cons om D.nil);rw [show val [r]=r from by simp [val]]at hrt;clear hv;refine A2 ⟨?_⟩;intros;refine lm (ds:=os) 68 rfl (aq.here _) hol om om ?_;refine Wc (gI os om hO) ?_;(refine O1 ⟨?_⟩;intros)
     (refine O1 ⟨?_⟩;intros)
     refine lm (ds:=[r]) 71 rfl (aq.here _) rfl om om ?_;refine Wc hrt ?_;refine A2 ⟨?_⟩;intros;exact G2
    ·rw [show(((j+1:Nat):Int)-1)=(j:Int)from by omega];have hx:=hP.get j;have hdv:=M9 r (xs.getD j 0) b hr hx hdb
     have hlt:(r*4294967296+xs.getD j 0)/b<4294967296:=by
      rw [kG om];have:=aT 4294967296 hr;rw [aI 4294967296];omega
     have hrm:(r*4294967296+xs.getD j 0)%b<b:=cT _ om;have hsd:=@wd _ (val (xs.drop (j+1))) (val (os.drop (j+1))) b r (xs.getD j 0) _ _ _ hval.out rfl rfl rfl;have hsd:Hid _:=hsd;generalize(r*4294967296+xs.getD j 0)/b=q at *;generalize(r*4294967296+xs.getD j 0)%b=r2 at *;refine A2 ⟨?_⟩;intros;rw [←hd];refine Wdc hdv ?_;refine A2 ⟨?_⟩;intros;refine k9 q rfl rfl om (bz.here _) om ?_;refine A2 ⟨?_⟩;intros;refine hK _ _ (j,r2,os.set j q) ⟨by simp only;omega,hrm,by simpa using hol,hO.set _ hlt,?_⟩ (by simp only;omega) lfA rfl;simp only [Hid];rw [fX xs j om,oE os j _ om,i4,i4];exact hsd.out
   ·have hl:=Ke a b ha om om;clear hm hlt;refine Pi Tryz.func131 fun C=>?_
    refine A2 ⟨?_⟩;intros;refine Wc wa ?_;refine A2 ⟨?_⟩;intros;refine Wc hc ?_;refine A2 ⟨?_⟩;intros;refine Wc hl ?_;refine A2 ⟨?_⟩;intros;exact G2
end Go.Ab
