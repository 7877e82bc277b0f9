/- The reference's numbers: long division. -/
import Derived.Test.YtpeidlcjlfkpcaaGreatDoorB05
set_option linter.all false
set_option maxHeartbeats 16000000
namespace Go.Ab
open Go.Proofs
variable [Base]
theorem MQ (h l d:Nat) (hh:h<d) (hl:l<4294967296) (hd:d<4294967296):Pu Tryz.prog 137 [lit (.int .u32 h),lit (.int .u32 l),lit (.int .u32 d)] (tup [lit (.int .u32 ((h*4294967296+l)/d:Nat)),lit (.int .u32 ((h*4294967296+l)%d:Nat))]):=by
 have hlt:(h*4294967296+l)/d<4294967296:=by
  rw [kI om];have:=aR 4294967296 hh;rw [aE 4294967296];omega
 have hm:(h*4294967296+l)%d<d:=cS _ om;have ho:=Fa (a:=(h:Int)*4294967296) (b:=(l:Int)) h l rfl rfl om hl;obtain⟨v,hv⟩:∃v,v=h*4294967296+l:=⟨_,rfl⟩
 rw [←hv]at ho hlt hm⊢;have hvb:v≤18446744073709551615:=by omega
 clear hv;generalize hq:v/d=q at *;generalize hr:v%d=r at *;refine Pi Tryz.func137 fun C=>?_
 refine A2 ⟨?_⟩;intros;refine Wo (qP rfl rfl ho) ?_;refine A2 ⟨?_⟩;intros;rw [hq];refine A2 ⟨?_⟩;intros;rw [hr];refine A2 ⟨?_⟩;intros;exact G2
theorem Pf {R N:Nat}(hN:1≤N) (hR:R<4294967296^(N+1)) :
  R/4294967296^(N-1)=(if N<(dgs R).length then(dgs R).getD N 0*4294967296+(dgs R).getD (N-1) 0 else if N-1<(dgs R).length then(dgs R).getD (N-1) 0 else 0):=by
 have hl:=dU hR;have hD:=cu R;have hv:=aK R;by_cases h1:N<(dgs R).length
 ·rw [if_pos h1];have hs:=vt (j:=N-1) hD om;rw [hv,ze (dgs R) (N-1) om,show N-1+1=N from by omega,show N-1+2=N+1 from by omega,fR hl]at hs;rw [hs];simp [val];omega
 ·rw [if_neg h1];by_cases h2:N-1<(dgs R).length
  ·rw [if_pos h2];have hs:=vt (j:=N-1) hD om;rw [hv,fX (dgs R) (N-1) om,fR om]at hs;rw [hs];simp [val]
  ·rw [if_neg h2];exact iw (BT om)
theorem Pe {R N:Nat}(hN:1≤N) (hR:R<4294967296^(N+1)):R/4294967296^(N-1)<18446744073709551616:=by
 rw [kI (dc om)];rw [show N+1=(N-1)+2 from by omega,cD]at hR;rw [aE];simpa using hR
abbrev NX (s V R top ob L:Nat) (j:Int) (r:List (Nat×SV)):List (Nat×SV) :=
 (6,lit (.int .i64 s))::(7,nat V)::(8,nat R)::(9,lit (.int .u64 top))::(10,lit (.slice (some ⟨ob,0,none⟩) L L))::(11,lit (.int .i64 j))::r
theorem Mu {R V top N j nv:Nat}(hV:top*4294967296^(nv-1)≤V) (h1:1≤nv) (hN:N=nv+j) (ht:0<top):R<(R/4294967296^(N-1)/top+1)*(V*4294967296^j):=by
 have e1:R<(R/4294967296^(N-1)+1)*4294967296^(N-1):=by
  have:=fC R (4294967296^(N-1));have hm:=cS R (show 0<4294967296^(N-1)from dc om);rw [aT,aY,aE];omega
 generalize R/4294967296^(N-1)=l at *
 have e2:l+1≤(l/top+1)*top:=by
  have:=fC l top;have hm:=cS l ht;rw [aT,aY,aE];omega
 have e3:=aR (4294967296^(N-1)) e2;have e4:=eO (l/top+1) (aR (4294967296^j) hV);rw [show N-1=nv-1+j from by omega,cD]at e1 e3;rw [aI top]at e4;rw [aI (l/top+1) top]at e3;omega
set_option maxRecDepth 20000 in
theorem KF (a b:Nat) (hla:(dgs a).length≤10000000) (h2:2≤(dgs b).length) (hle:b≤a):Pu Tryz.prog 138 [nat a,nat b] (tup [nat (a/b),nat (a%b)]):=by
 obtain⟨n,hn⟩:∃n,(dgs b).length=n+1:=⟨(dgs b).length-1,om⟩
 have hlm:=cI hle;have hDb:=cu b;have htb:f5 ((dgs b).getD n 0)≤32:=j7.2 (by simpa using hDb.get n);obtain⟨s,hs⟩:∃s,s+f5 ((dgs b).getD n 0)=32:=⟨32-f5 ((dgs b).getD n 0),om⟩
 obtain⟨s32,hvl,htop,hbl⟩:=yr (y:=b) (k:=n) hn hs;have hlz:=BQ ((dgs b).getD n 0) (hDb.get n);rw [show(32:Int)-(f5 ((dgs b).getD n 0):Int)=(s:Int)from by omega]at hlz;have ps:0<2^s:=dc om;have hb0:0<b:=by have:0<4294967296^n:=dc om;omega
 have hlb:=ya b s om;have hlr:=ya a s om;rw [show a/b=a*2^s/(b*2^s)from(Nat.mul_div_mul_right _ _ ps).symm];have hmodm:Hid (a*2^s%(b*2^s)=a%b*2^s):=Nat.mul_mod_mul_right _ _ _;have hmod0:Hid (a%b=a*2^s%(b*2^s)/2^s):=by show _=_;rw [hmodm.out,Nat.mul_div_cancel _ ps]
 rw [hmod0.out]
 have hal:(dgs (a*2^s)).length≤(dgs a).length+1:=by
  refine dU ?_;have e1:=kH (o5 a) ps;have e2:=eO (4294967296^(dgs a).length) (show 2^s≤4294967296 from by have:=gN (n:=2) om (show s≤32 by omega);simpa using this);rw [bR];omega
 have hA0:a*2^s<b*2^s*4294967296^((dgs a).length-n):=by
  have e1:=kH (o5 a) ps;have e2:=aR (4294967296^((dgs a).length-n)) hbl;rw [←cD,show n+((dgs a).length-n)=(dgs a).length from by omega]at e2;have e3:=aR (2^s) e2;rw [iZ];omega
 have hVp:0<b*2^s:=kG hb0 ps
 have htopV:(dgs (b*2^s)).getD n 0*4294967296^n≤b*2^s:=by
  have:=bK (dgs (b*2^s)) n;rw [dz om,aK,aE (4294967296^n)]at this;omega
 have hVlt:b*2^s<4294967296^(n+1):=BT om;have hDv:=cu (b*2^s);have htl:=hDv.get n;generalize hA:a*2^s=A at *;generalize hV:b*2^s=V at *;refine Pi Tryz.func138 fun C=>?_
 refine A2 ⟨?_⟩;intros;rw [show(dgs b).length-1=n from by omega];refine Wc hlz ?_;refine A2 ⟨?_⟩;intros;refine Wc hlb ?_;refine A2 ⟨?_⟩;intros;refine Wc hlr ?_;refine A2 ⟨?_⟩;intros;rw [show(dgs V).length-1=n from by omega];generalize htope:(dgs V).getD n 0=top at *;refine A2 ⟨?_⟩;intros;refine vn ((dgs a).length-n) rfl rfl om om fun ob=>?_
 refine A2 ⟨?_⟩;intros
 refine WP.loop (ι:=Nat×Nat×List Nat)
  (fun st=>st.1≤(dgs a).length-n∧(dgs st.2.1).length≤(dgs a).length+1∧st.2.2.length=(dgs a).length-n∧D st.2.2∧Hid (st.2.1+4294967296^st.1*(val (st.2.2.drop st.1)*V)=A)∧Hid (st.2.1<V*4294967296^st.1))
  (fun st=>st.1) (fun st=>fm (NX s V st.2.1 top ob ((dgs a).length-n) ((st.1:Int)-1) []))
  (fun st=>[(ob,192,bC st.2.2)]) ((dgs a).length-n,A,List.replicate ((dgs a).length-n) 0)
  ⟨au _,hal,by simp,D.rep _,by rw [fR (by simp)];simp [val,Hid],hA0⟩ lfA rfl ?_
 rintro ⟨k,R,os⟩ ⟨hk,hRl,hol,hO,hval,hrem⟩ Kc hKc;simp only at hk hRl hol hO hval hrem⊢;clear hA0 hal hlb hlr hlz hmodm;rcases k with _|j
 ·have hv:=hval.out;have hr:=hrem.out;simp only [bD,jH,aY,cB]at hv hr
  have hq:Hid (A/V=val os):=by
   show _=_
   rw [←hv,gM,aE (val os),qa hVp,iw hr,cj]
  have hm:Hid (A%V=R):=by
   show _=_
   rw [←hv,gM,aE (val os),q9,eN hr]
  rw [hq.out,hm.out];refine WP.pub (d:=10) (s':=dg os) (aq.here _) rfl (fun m arr hm ha=>by rw [←hol];exact F4 om om m arr hm ha) ?_;clear hv hr;refine A2 ⟨?_⟩;intros;refine Wc (gD os om hO) ?_;refine A2 ⟨?_⟩;intros;refine Wc (It R s om s32) ?_;refine A2 ⟨?_⟩;intros;exact G2
 ·rw [show(((j+1:Nat):Int)-1)=(j:Int)from by omega]
  have hRB:R<4294967296^(n+1+j+1):=by
   have e1:=hrem.out;have e2:=kH hVlt (show 0<4294967296^(j+1)from dc om);rw [←cD,←jN]at e2;omega
  have hlead:=Pf (R:=R) (N:=n+1+j) om hRB;have hllt:=Pe (R:=R) (N:=n+1+j) om hRB;have hge:Hid (R<(R/4294967296^(n+1+j-1)/top+1)*(V*4294967296^j)):=Mu (nv:=n+1) (by rw [dZ];exact htopV) om rfl om
  have hrj:Hid (R<4294967296*(V*4294967296^j)):=by
   have e1:=hrem.out;rw [bR,←aI,aE]at e1;exact e1
  have hDR:=cu R;have hx0:=hDR.get (n+1+j);have hx1:=hDR.get (n+1+j-1);have hvl':(dgs V).length=n+1:=hvl;clear hRB htopV hVlt;generalize R/4294967296^(n+1+j-1)=lead at *;refine A2 ⟨?_⟩;intros;rw [hvl'];refine A2 ⟨?_⟩;intros;refine WP.via (fun F H=>LeF F (fm (NX s V R top ob ((dgs a).length-n) j [(12,lit (.int .u64 lead))]))∧H=[(ob,192,bC os)]) ?_ ?_
  ·refine WPd (fun h=>?_) (fun h=>?_)
   ·rw [if_pos om]at hlead;refine A2 ⟨?_⟩;intros;refine Wdo (qP rfl rfl ((Fa ((dgs R).getD (n+1+j) 0) ((dgs R).getD (n+1+j-1) 0) rfl rfl hx0 hx1).trans (congrArg Nat.cast hlead.symm))) ?_;refine A2 ⟨?_⟩;intros;exact⟨lfA,rfl⟩
   ·rw [if_neg om]at hlead;by_cases h3:n+1+j-1<(dgs R).length
    ·rw [if_pos h3]at hlead;refine A2 ⟨?_⟩;intros;exact⟨lfA,rfl⟩
    ·rw [if_neg h3]at hlead;refine A2 ⟨?_⟩;intros;exact⟨lfA,rfl⟩
  ·rintro F H ⟨hF,rfl⟩;refine WP.le hF ?_;clear hx0 hx1 hlead
   have hg0:∃g:Nat,(if(4294967295:Int)<((lead/top:Nat):Int)then(4294967295:Int)else((lead/top:Nat):Int))=(g:Int)∧g<4294967296∧Hid (R<(g+1)*(V*4294967296^j)):=by
    by_cases h:4294967295<lead/top
    ·exact⟨4294967295,by rw [if_pos om];rfl,om,hrj.out⟩
    ·exact⟨lead/top,by rw [if_neg om],om,hge.out⟩
   obtain⟨g0,hg0e,hg0l,hg0⟩:=hg0;clear hge;have hpr:∀g,g<4294967296→Pu Tryz.prog 56 [nat V,nat g] (nat (V*g)):=fun g hg=>i4 V g om (by have:=dU (n:=g) (k:=1) om;omega)
   have hlf:∀g,g<4294967296→Pu Tryz.prog 183 [nat (V*g),lit (.int .i64 (32*j))] (nat (g*(V*4294967296^j))):=fun g hg=>by
    have hg1:=dU (n:=g) (k:=1) om;have hl:=ew V g;have:=ya (V*g) (32*j) om;rw [show V*g*2^(32*j)=g*(V*4294967296^j)from by rw [nO,show(2^32:Nat)=4294967296 from rfl,iZ,aE]]at this;rw [show((32*j:Nat):Int)=32*(j:Int)from by omega]at this;exact this
   refine A2 ⟨?_⟩;intros;refine Wo (Lh rfl rfl hg0e) ?_;refine A2 ⟨?_⟩;intros;refine Wc (mG g0 om) ?_;refine A2 ⟨?_⟩;intros;refine Wc (hpr g0 hg0l) ?_;refine A2 ⟨?_⟩;intros;refine Wc (hlf g0 hg0l) ?_;refine A2 ⟨?_⟩;intros
   have hgl:∀g,g<4294967296→(dgs (g*(V*4294967296^j))).length≤100000000:=fun g hg=>by
    have h1:=ew g (V*4294967296^j);have h2:=ew V (4294967296^j);have h3:=dU (n:=4294967296^j) (k:=j+1) (Nat.pow_lt_pow_right om om);have h4:=dU (n:=g) (k:=1) om;omega
   refine WP.viaB (fun F H=>∃g,g<4294967296∧g*(V*4294967296^j)≤R∧Hid (R<(g+1)*(V*4294967296^j))∧LeF F (fm (NX s V R top ob ((dgs a).length-n) j [(14,lit (.int .u64 g)),(15,nat (g*(V*4294967296^j)))]))∧H=[(ob,192,bC os)]) ?_ ?_
   ·refine WP.loop (ι:=Nat) (fun g=>g<4294967296∧Hid (R<(g+1)*(V*4294967296^j))) (fun g=>g) (fun g=>fm (NX s V R top ob ((dgs a).length-n) j [(14,lit (.int .u64 g)),(15,nat (g*(V*4294967296^j)))])) (fun _=>[(ob,192,bC os)]) g0
     ⟨hg0l,hg0⟩ lfA rfl ?_
    rintro g ⟨hgB,hgR⟩ K2 hK2;have hc:=uu (g*(V*4294967296^j)) R (by have:=hgl g hgB;omega) om;by_cases hgt:R<g*(V*4294967296^j)
    ·rw [oH hgt]at hc;rcases g with _|g
     ·rw [bQ]at hgt;omega
     have hgt:Hid (R<(g+1)*(V*4294967296^j)):=hgt;clear hgR;refine A2 ⟨?_⟩;intros;refine Wc hc ?_;refine A2 ⟨?_⟩;intros;rw [show((g+1:Nat):Int)-1=(g:Int)from by omega];refine Wc (mG g om) ?_;refine A2 ⟨?_⟩;intros;refine Wc (hpr g om) ?_;refine A2 ⟨?_⟩;intros;refine Wc (hlf g om) ?_;refine A2 ⟨?_⟩;intros;exact hK2 _ _ g ⟨om,hgt⟩ om lfA rfl
    ·have hle2:pL (g*(V*4294967296^j)) R≤0:=by
      rcases aJ (g*(V*4294967296^j)) R with h|h
      ·rw [mT h];omega
      ·have e:g*(V*4294967296^j)=R:=by omega
       rw [e,vd];omega
     have hgt:g*(V*4294967296^j)≤R:=by omega
     generalize pL (g*(V*4294967296^j)) R=cc at *;refine A2 ⟨?_⟩;intros;refine Wc hc ?_;refine A2 ⟨?_⟩;intros;exact⟨g,hgB,hgt,hgR,lfA,rfl⟩
   ·rintro F H ⟨g,hgB,hgt,hgR,hF,rfl⟩;refine WP.le hF ?_;have hl:=y9 R (g*(V*4294967296^j)) hgt om;have hsub:(dgs (R-g*(V*4294967296^j))).length≤(dgs R).length:=cI (nK _ _)
    have hfin:Hid (R-g*(V*4294967296^j)+4294967296^j*(val ((os.set j g).drop j)*V)=A):=by
     show _=_
     rw [oG os j g om,i0,←hval.out,bR,aT,aM,←jN];have e:4294967296^j*(g*V)=g*(V*4294967296^j):=by rw [qc,aE V]
     rw [e,th hgt];simp only [aI]
    have hfr:Hid (R-g*(V*4294967296^j)<V*4294967296^j):=by
     have:=hgR.out;rw [aT,aY]at this;show _<_
     omega
    clear hgt;refine A2 ⟨?_⟩;intros;refine jY g rfl rfl rfl (br.here _) om ?_;refine A2 ⟨?_⟩;intros;refine Wc hl ?_;refine A2 ⟨?_⟩;intros;exact hKc _ _ (j,R-g*(V*4294967296^j),os.set j g) ⟨by simp only;omega,by simp only;omega,by simpa using hol,hO.set _ hgB,hfin,hfr⟩ (by simp only;omega) lfA rfl
theorem kR (a b:Nat) (h0:b≠0) (ha:(dgs a).length≤10000000) (hb:(dgs b).length≤10000000):Pu Tryz.prog 96 [nat a,nat b] (tup [nat (a/b),nat (a%b)]):=by
 have wa:=ui a om;have wb:=ui b om;have hc:=uu a b om om;have hpb:=f0 h0;have hm:a%b<b:=cS _ om;by_cases h1:(dgs a).length≤2
 ·have ba:=xd h1;rw [if_pos h1]at wa;by_cases h2:(dgs b).length≤2
  ·have bb:=xd h2;rw [if_pos h2]at wb;have hq:=dw a b;have w1:=mG (a/b) om;have w2:=mG (a%b) om;clear hc;refine Pi Tryz.func96 fun C=>?_
   refine A2 ⟨?_⟩;intros;refine Wc wa ?_;refine A2 ⟨?_⟩;intros;refine Wc wb ?_;refine A2 ⟨?_⟩;intros;refine Wdc w1 ?_;refine A2 ⟨?_⟩;intros;refine Wdc w2 ?_;refine A2 ⟨?_⟩;intros;exact G2
  ·rw [if_neg h2]at wb
   have hlt:a<b:=by
    rcases aJ a b with h|h
    ·exact h
    ·have:=cI h;omega
   rw [mT hlt]at hc;rw [iw hlt,eN hlt];clear hm;refine Pi Tryz.func96 fun C=>?_
   refine A2 ⟨?_⟩;intros;refine Wc wa ?_;refine A2 ⟨?_⟩;intros;refine Wc wb ?_;refine A2 ⟨?_⟩;intros;refine Wc hc ?_;refine A2 ⟨?_⟩;intros;refine cV (eJ (RV.tmp rfl) (RV.tmp rfl) (Le.tup2 ?_ Lr));rw [show nat 0=dg []from by show dg (dgs 0)=_;rw [bW]];exact gz
 ·rw [if_neg h1]at wa;by_cases hlt:a<b
  ·rw [mT hlt]at hc;rw [iw hlt,eN hlt];clear hm;refine Pi Tryz.func96 fun C=>?_
   refine A2 ⟨?_⟩;intros;refine Wc wa ?_;refine A2 ⟨?_⟩;intros;refine Wc hc ?_;refine A2 ⟨?_⟩;intros;refine cV (eJ (RV.tmp rfl) (RV.tmp rfl) (Le.tup2 ?_ Lr));rw [show nat 0=dg []from by show dg (dgs 0)=_;rw [bW]];exact gz
  ·have hge:0≤pL a b:=by
    rcases aJ b a with h|h
    ·rw [oH h];omega
    ·have e:a=b:=by omega
     rw [e,vd];omega
   generalize pL a b=cc at *;by_cases hb1:(dgs b).length=1
   ·have hd:b=(dgs b).getD 0 0:=HK hb1;have hdb:b<4294967296:=by rw [hd];exact(cu b).get _
    have hva:=aK a;have hP:=cu a;suffices h:Pu Tryz.prog 96 [dg (dgs a),nat b] (tup [nat (val (dgs a)/b),nat (val (dgs a)%b)]) by rw [hva]at h;exact h
    clear hm hva hlt;change Pu _ _ [dg (dgs a)] _ at wa
    change Pu _ _ [dg (dgs a),nat b] _ at hc
    generalize dgs a=xs at *;refine Pi Tryz.func96 fun C=>?_
    refine A2 ⟨?_⟩;intros;refine Wc wa ?_;refine A2 ⟨?_⟩;intros;refine Wc hc ?_;refine A2 ⟨?_⟩;intros;refine vn xs.length rfl rfl om om fun bb=>?_
    refine A2 ⟨?_⟩;intros
    refine WP.loop (ι:=Nat×Nat×List Nat) (fun s=>s.1≤xs.length∧s.2.1<b∧s.2.2.length=xs.length∧D s.2.2∧Hid (val (xs.drop s.1)=val (s.2.2.drop s.1)*b+s.2.1)) (fun s=>s.1)
     (fun s=>fm [(0,dg xs),(1,nat b),(10,lit (.slice (some ⟨bb,0,none⟩) xs.length xs.length)),(11,lit (.int .u32 s.2.1)),(12,lit (.int .i64 ((s.1:Int)-1)))])
     (fun s=>[(bb,192,bC s.2.2)]) (xs.length,0,List.replicate xs.length 0) ⟨au _,by simp only;omega,by simp,D.rep _,by simp [val,Hid]⟩ lfA rfl ?_
    rintro ⟨k,r,os⟩ ⟨hk,hr,hol,hO,hval⟩ K hK;simp only at hk hr hol hO hval⊢;rcases k with _|j
    ·have hv:=hval.out;simp only [bD]at hv
     have hq:Hid (val xs/b=val os):=by
      show _=_
      rw [hv,aE,qa om,iw hr,cj]
     have hm:Hid (val xs%b=r):=by
      show _=_
      rw [hv,aE,q9,eN hr]
     rw [hq.out,hm.out];have hrt:=gD [r] (by simp) (D.cons om D.nil);rw [show val [r]=r from by simp [val]]at hrt;clear hv;refine A2 ⟨?_⟩;intros;refine lr (ds:=os) 68 rfl (aq.here _) hol om om ?_;refine Wc (gD os om hO) ?_;(refine O1 ⟨?_⟩;intros)
     (refine O1 ⟨?_⟩;intros)
     refine lr (ds:=[r]) 71 rfl (aq.here _) rfl om om ?_;refine Wc hrt ?_;refine A2 ⟨?_⟩;intros;exact G2
    ·rw [show(((j+1:Nat):Int)-1)=(j:Int)from by omega];have hx:=hP.get j;have hdv:=MQ r (xs.getD j 0) b hr hx hdb
     have hlt:(r*4294967296+xs.getD j 0)/b<4294967296:=by
      rw [kI om];have:=aR 4294967296 hr;rw [aE 4294967296];omega
     have hrm:(r*4294967296+xs.getD j 0)%b<b:=cS _ om;have hsd:=@wv _ (val (xs.drop (j+1))) (val (os.drop (j+1))) b r (xs.getD j 0) _ _ _ hval.out rfl rfl rfl;have hsd:Hid _:=hsd;generalize(r*4294967296+xs.getD j 0)/b=q at *;generalize(r*4294967296+xs.getD j 0)%b=r2 at *;refine A2 ⟨?_⟩;intros;rw [←hd];refine Wdc hdv ?_;refine A2 ⟨?_⟩;intros;refine jY q rfl rfl om (br.here _) om ?_;refine A2 ⟨?_⟩;intros;refine hK _ _ (j,r2,os.set j q) ⟨by simp only;omega,hrm,by simpa using hol,hO.set _ hlt,?_⟩ (by simp only;omega) lfA rfl;simp only [Hid];rw [fX xs j om,oG os j _ om,i0,i0];exact hsd.out
   ·have hl:=KF a b ha om om;clear hm hlt;refine Pi Tryz.func96 fun C=>?_
    refine A2 ⟨?_⟩;intros;refine Wc wa ?_;refine A2 ⟨?_⟩;intros;refine Wc hc ?_;refine A2 ⟨?_⟩;intros;refine Wc hl ?_;refine A2 ⟨?_⟩;intros;exact G2
end Go.Ab
