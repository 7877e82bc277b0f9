/- Package nat: long division. -/
import Derived.Test.YtpeidlcjlfkpcaaGreatDoorB05
set_option linter.all false
set_option maxHeartbeats 16000000
namespace Go.Ab
open Go.Proofs
variable [Base]
abbrev lfr (s ub m K n top sec qb:Nat) (v:List Nat) (j:Int) (r:List (Nat×SV)):List (Nat×SV) :=
 (6,lit (.int .u64 s))::(7,lit (.slice (some ⟨ub,0,none⟩) (m+1) K))::(8,dg v)::(9,lit (.int .i64 n))::(10,lit (.int .u64 top))::(11,lit (.int .u64 sec)) ::
 (12,lit (.slice (some ⟨qb,0,none⟩) (m+1-n) (m+1-n)))::(13,lit (.int .i64 j))::r
set_option maxRecDepth 20000 in
theorem LW (xs ys:List Nat) (hx:xs=dgs (val xs)) (hy:ys=dgs (val ys)) (hlx:xs.length≤10000000) (h2:2≤ys.length) (hle:val ys≤val xs):Pu Tryz.prog 277 [dg xs,dg ys] (tup [nat (val xs/val ys),nat (val xs%val ys)]):=by
 obtain⟨n,hn⟩:∃n,ys.length=n:=⟨_,rfl⟩
 obtain⟨m,hm⟩:∃m,xs.length=m:=⟨_,rfl⟩
 have hnm:n≤m:=by have:=cI hle;rw [←hx,←hy]at this;omega
 have hmb:m≤10000000:=by omega
 have hn2:2≤n:=by omega
 have hDx:D xs:=hx▸cu _
 have hDy:D ys:=hy▸cu _
 have hty:=hDy.get (n-1);have htb:f5 (ys.getD (n-1) 0)≤32:=j7.2 (by simpa using hty);obtain⟨s,hs⟩:∃s,s+f5 (ys.getD (n-1) 0)=32:=⟨32-f5 (ys.getD (n-1) 0),om⟩
 obtain⟨s32,hvl,htop,hyl⟩:=yr (y:=val ys) (k:=n-1) (s:=s) (by rw [←hy];omega) (by rw [←hy];exact hs);have hy0:val ys≠0:=by have:0<4294967296^(n-1):=dc om;omega
 have hx0:val xs≠0:=by omega
 have hDv:=cu (val ys*2^s);have hvv:=aK (val ys*2^s);have hua:=aK (val xs*2^s);have hDa:=cu (val xs*2^s);have ps:0<2^s:=dc om;have hxl:val xs<4294967296^m:=hm▸eQ hDx
 have hal1:(dgs (val xs*2^s)).length≤m+1:=by
  refine dU ?_;rw [bR];have e1:=kH hxl ps;have e2:=eO (4294967296^m) (show 2^s≤4294967296 from by have:=gN (n:=2) om (show s≤32 by omega);simpa using this);omega
 have hal0:m≤(dgs (val xs*2^s)).length:=by
  have:=cI (a:=val xs) (b:=val xs*2^s) (Nat.le_mul_of_pos_right _ ps);rw [←hx,hm]at this;exact this
 have hane:dgs (val xs*2^s)≠[]:=fun e=>by rw [e]at hal0;simp at hal0;omega
 have hshift:val xs*2^s/4294967296^(m+1-n)<val ys*2^s:=by
  rw [kI (dc om)];have e1:=kH hxl ps;refine cQ e1 ?_;have e2:=aR (2^s) (aR (4294967296^(m+1-n)) hyl);rw [←cD,show n-1+(m+1-n)=m from by omega]at e2;rw [iZ];exact e2
 have hcap:=Gq xs s om hDx s32 hx0;have hshv:=NO ys s om hDy s32;rw [←hx,hm]at hcap;have hdivm:val xs/val ys=val xs*2^s/(val ys*2^s):=(Nat.mul_div_mul_right _ _ ps).symm;have hmodm:val xs*2^s%(val ys*2^s)=val xs%val ys*2^s:=Nat.mul_mod_mul_right _ _ _;rw [hdivm];have hlz:=BQ (ys.getD (n-1) 0) hty;rw [show(32:Int)-(f5 (ys.getD (n-1) 0):Int)=(s:Int)from by omega]at hlz;change Pu _ _ _ (dg (dgs (val ys*2^s)))at hshv
 generalize dgs (val xs*2^s)=us0 at *;generalize dgs (val ys*2^s)=v at *;obtain⟨vl,hvl1,hvl2⟩:=LZ (n:=n) hDv om om;rw [hvv]at hvl2;have hv1:=hDv.get (n-1);have hv2:=hDv.get (n-2);have hVlt:val ys*2^s<4294967296^n:=by have:=eQ hDv;rw [hvv,hvl,show n-1+1=n from by omega]at this;exact this
 have hvlen:v.length=n:=by omega
 clear hvl hs htb;refine Pi Tryz.func277 fun C=>?_
 repeat(refine AS ⟨?_⟩;intros)
 iterate 2 (refine O1 ⟨?_⟩;intros)
 repeat(refine AS ⟨?_⟩;intros)
 iterate 4 (refine O1 ⟨?_⟩;intros)
 refine Wo (uB (n-1) rfl rfl om om) ?_;(refine O1 ⟨?_⟩;intros)
 refine Wc hlz ?_;refine A2 ⟨?_⟩;intros;refine Wc hcap ?_;(refine O1 ⟨?_⟩;intros)
 refine Te (es:=[0,0]) rfl rfl (by first|exact Ms|exact Mc Ms) hane (by simp;omega) (by simp;omega) fun ub K hK jz hjz=>?_
 simp only [aF,bq,aB,Nat.reduceAdd]at hjz⊢;have hUl:(us0++[0,0]++List.replicate jz 0).length=K:=by simp;omega
 have hDU:D (us0++[0,0]++List.replicate jz 0):=(hDa.append (D.rep 2)).append (D.rep jz);have hUv:val (us0++[0,0]++List.replicate jz 0)=val xs*2^s:=by rw [qk,qk,uc,hua];simp [val]
 have hKm:m+1<K:=by omega
 clear hjz;generalize us0++[0,0]++List.replicate jz 0=us1 at *;iterate 3 (refine O1 ⟨?_⟩;intros)
 refine Wo (QY (m+1) rfl rfl om om) ?_;(refine O1 ⟨?_⟩;intros)
 repeat(refine AS ⟨?_⟩;intros)
 iterate 2 (refine O1 ⟨?_⟩;intros)
 refine Wc hshv ?_;refine A2 ⟨?_⟩;intros;rw [hvlen];generalize htope:v.getD (n-1) 0=top at *;generalize hsece:v.getD (n-2) 0=sec at *;refine vn (m+1-n) rfl rfl om om fun qb=>?_
 refine A2 ⟨?_⟩;intros;refine WP.drop (aq.there _ (aq.there _ (aq.here _))) ?_;have hpv:0<4294967296^(n-1):=dc om
 refine WP.loop (ι:=Nat×List Nat×List Nat)
  (fun st=>st.1≤m+1-n∧st.2.1.length=K∧D st.2.1∧st.2.2.length=m+1-n∧D st.2.2∧val st.2.1+4294967296^st.1*(val (st.2.2.drop st.1)*(val ys*2^s))=val xs*2^s∧val (st.2.1.drop st.1)<val ys*2^s)
  (fun st=>st.1) (fun st=>fm (lfr s ub m K n top sec qb v ((st.1:Int)-1) []))
  (fun st=>[(qb,192,bC st.2.2),(ub,192,bC st.2.1)]) (m+1-n,us1,List.replicate (m+1-n) 0)
  ⟨au _,hUl,hDU,by simp,D.rep _,by rw [fR (by simp)];simp [val,hUv],by rw [←vt hDU om,hUv];exact hshift⟩ lfA rfl ?_
 rintro ⟨k,us,qs⟩ ⟨hk,hul,hU,hql,hQ,hval,hrem⟩ Kc hKc;simp only at hk hul hU hql hQ hval hrem⊢;rcases k with _|j
 ·refine WP.pub (d:=12) (s':=dg qs) (aq.here _) rfl (fun m arr hm ha=>by rw [←hql];exact F4 om om m arr hm ha) ?_;refine WP.pub (d:=7) (s':=dg (us.take (m+1))) (aq.here _) rfl (fun m' arr hm ha=>O2 om om hK m' arr hm ha) ?_;simp only [bD,jH,aY]at hval hrem
  have hqv:val qs=val xs*2^s/(val ys*2^s):=by
   rw [←hval,gM,aE (val qs),qa om,iw hrem,cj]
  have huv:val us=val xs%val ys*2^s:=by
   rw [←hmodm,←hval,gM,aE (val qs),q9,eN hrem]
  have htk:=(oM (us:=us) (n:=n) om om).1;have ht2:(us.take (m+1)).take n=us.take n:=by rw [kV,dv om]
  have hs1:=NN (us.take n) s (by rw [aC];omega) (hU.take n) s32;rw [←htk,huv,Nat.mul_div_cancel _ ps]at hs1;have htl:(us.take (m+1)).length=m+1:=by rw [aC];omega
  refine A2 ⟨?_⟩;intros;refine Wdc (gj qs om hQ) ?_;rw [hqv];refine A2 ⟨?_⟩;intros;refine Wdo (BB n rfl rfl rfl om) ?_;rw [ht2];refine A2 ⟨?_⟩;intros;refine Wdc hs1 ?_;refine A2 ⟨?_⟩;intros;exact G2
 ·clear hmodm hdivm hshift hyl hxl hx0 hy0 hle hua hUv hty hlz hcap hshv hx hy hal1 hal0 hane ps hpv;have hjn:j+n≤m:=by omega
  rw [show(((j+1:Nat):Int)-1)=(j:Int)from by omega];have hu1:=hU.get (j+n);have hu0:=hU.get (j+n-1);have hu3:=hU.get (j+n-2);obtain⟨wl,hwl,hW⟩:=I8 (us:=us) (j:=j) (n:=n) hU om om om;obtain⟨first,hfe⟩:∃f,f=us.getD (j+n) 0*4294967296+us.getD (j+n-1) 0:=⟨_,rfl⟩
  rw [←hfe]at hW
  have hzj:∀i,j+n+1≤i→us.getD i 0=0:=fun i hi=>by
   have:=(oM (us:=us.drop (j+1)) (n:=n) om (by rw [cO];omega)).2 (i-(j+1)) om;rwa [List.getD,eD,show j+1+(i-(j+1))=i from by omega]at this
  have hWV:val (us.drop j)<4294967296*(val ys*2^s):=by
   rw [fX us j om,i0];have h1:=hU.get j;have h2:=eO 4294967296 hrem;rw [Nat.mul_succ]at h2;omega
  clear hrem hVlt;generalize hWe:val (us.drop j)=W at *;refine A2 ⟨?_⟩;intros;refine Wdo (qP rfl rfl ((Fa (us.getD (j+n) 0) (us.getD (j+n-1) 0) rfl rfl hu1 hu0).trans (congrArg Nat.cast hfe.symm))) ?_;have hfb:first≤18446744073709551615:=by omega
  refine A2 ⟨?_⟩;intros;have hdm:=fC first top
  have hml:first%top<top:=cS _ om
  have hg1:=DW (B:=4294967296) (g:=first/top) (hvl2) hW hwl hu3 (by rw [aT,aY,aE];omega);obtain⟨hgB,hfs⟩:=DV (B:=4294967296) (g:=first/top) hvl2 hW hvl1 hv2 hWV (by rw [aE];omega) om om;generalize first/top=g0 at *
  generalize first%top=r0 at *
  rw [aE]at hdm;refine WP.viaB (fun F H=>∃g,g<4294967296∧W<(g+1)*(val ys*2^s)∧g*(val ys*2^s)≤W+val ys*2^s∧LeF F (fm (lfr s ub m K n top sec qb v j [(15,lit (.int .u64 g))]))∧H=[(qb,192,bC qs),(ub,192,bC us)]) ?_ ?_
  ·have hsecB:=hv2
   refine WP.loop (ι:=Nat×Nat) (fun st=>st.1*top+st.2=first∧W<(st.1+1)*(val ys*2^s)∧st.2<4294967296∧st.1≤4294967297) (fun st=>st.1)
    (fun st=>fm (lfr s ub m K n top sec qb v j [(15,lit (.int .u64 st.1)),(16,lit (.int .u64 st.2))])) (fun _=>[(qb,192,bC qs),(ub,192,bC us)]) (g0,r0)
    ⟨hdm,hg1,by simp only;omega,by simp only;omega⟩ lfA rfl ?_
   rintro ⟨g,r⟩ ⟨hgr,hgW,hrl,hgl⟩ K2 hK2;simp only at hgr hgW hrl hgl⊢
   have hless:Hid (W<g*(val ys*2^s)→1≤g):=fun h=>by
    rcases g with _|g
    ·rw [bQ]at h;omega
    ·omega
   have hdown:Hid (W<g*(val ys*2^s)→W<(g-1+1)*(val ys*2^s)):=fun h=>by rw [th (hless.out h)];exact h
   have hdec:Hid (1≤g→(g-1)*top+(r+top)=first):=fun h=>by
    rw [←hgr];obtain⟨g',rfl⟩:∃g',g=g'+1:=⟨g-1,om⟩
    rw [dZ,aT,aY];omega
   have hfin:Hid (∀g' r',g'*top+r'=first→W<(g'+1)*(val ys*2^s)→g'<4294967296→g'*sec≤r'*4294967296+us.getD (j+n-2) 0→g'*(val ys*2^s)≤W+val ys*2^s):=fun g' r' h1 h2 h3 h4 =>
    FG hvl2 hW hvl1 h1 h4 h3 om
   have hbrk:Hid (4294967296≤r+top→1≤g→g-1<4294967296∧(g-1)*sec≤(r+top)*4294967296+us.getD (j+n-2) 0):=fun h h'=>by
    have h1:=hdec.out h';have h2:(g-1)*sec≤4294967296*4294967295:=db om om;have h3:=aR 4294967296 h;refine⟨xE (a:=top) (by rw [aE 4294967296];omega),om⟩
   have hmore:Hid (r*4294967296+us.getD (j+n-2) 0<g*sec→W<g*(val ys*2^s)):=FF hvl2 hW hwl hgr;have hlarge:Hid (4294967296≤g→W<g*(val ys*2^s)):=fun h=>cQ hWV (aR _ h)
   have hgr:Hid (g*top+r=first):=hgr;have hgW:Hid (W<(g+1)*(val ys*2^s)):=hgW;clear hfe hW hval hfs hdm hml hg1 hgB hWe hvl2 hvl1 hwl hvv hu1 hu0 hql hk hlx hUl hWV hvlen h2 hm hn hnm;by_cases hgB2:g<4294967296
   ·have hpr:=mM hgB2 hv2;have hcast:((g*sec:Nat):Int)=(g:Int)*(sec:Int):=cX _ _;repeat(refine AS ⟨?_⟩;intros)
    refine A2 ⟨?_⟩;intros;refine Wog (qP rfl rfl (Fa r (us.getD (j+n-2) 0) rfl rfl hrl hu3)) ?_;by_cases hc:r*4294967296+us.getD (j+n-2) 0<g*sec
    ·have hl:=hmore.out hc;have h1:=hless.out hl;have hd:Hid ((g-1)*top+(r+top)=first):=hdec.out h1;have hdn:Hid (W<(g-1+1)*(val ys*2^s)):=hdown.out hl;by_cases hrt:r+top<4294967296
     ·iterate 2 (refine O1 ⟨?_⟩;intros)
      refine A2 ⟨?_⟩;intros;exact hK2 _ _ (g-1,r+top) ⟨hd.out,hdn.out,hrt,by simp only;omega⟩ (by simp only;omega) lfA rfl
     ·have hb:=hbrk.out om h1;iterate 2 (refine O1 ⟨?_⟩;intros)
      refine A2 ⟨?_⟩;intros;exact⟨g-1,hb.1,hdn.out,hfin.out _ _ hd.out hdn.out hb.1 hb.2,lfA,rfl⟩
    ·have hgV:=hfin.out g r hgr.out hgW.out hgB2 om;iterate 2 (refine O1 ⟨?_⟩;intros)
     refine A2 ⟨?_⟩;intros;exact⟨g,hgB2,hgW.out,hgV,lfA,rfl⟩
   ·have hl:=hlarge.out om;have h1:=hless.out hl;have hd:Hid ((g-1)*top+(r+top)=first):=hdec.out h1;have hdn:Hid (W<(g-1+1)*(val ys*2^s)):=hdown.out hl;by_cases hrt:r+top<4294967296
    ·refine A2 ⟨?_⟩;intros;exact hK2 _ _ (g-1,r+top) ⟨hd.out,hdn.out,hrt,by simp only;omega⟩ (by simp only;omega) lfA rfl
    ·have hb:=hbrk.out om h1;refine A2 ⟨?_⟩;intros;exact⟨g-1,hb.1,hdn.out,hfin.out _ _ hd.out hdn.out hb.1 hb.2,lfA,rfl⟩
  ·rintro F H ⟨g,hgl,hgW,hgV,hF,rfl⟩;refine WP.le hF ?_
   have hend:Hid (∀g' us4,g'<4294967296→us4.length=K→D us4→val us4+4294967296^j*(g'*(val ys*2^s))=val us→W<(g'+1)*(val ys*2^s)→
     j≤m+1-n∧us4.length=K∧D us4∧(qs.set j g').length=m+1-n∧D (qs.set j g')∧val us4+4294967296^j*(val ((qs.set j g').drop j)*(val ys*2^s))=val xs*2^s∧val (us4.drop j)<val ys*2^s):=by
    intro g' us4 h1 h2 h3 h4 h5;refine⟨om,h2,h3,by simpa using hql,hQ.set _ h1,?_,EM hU h3 om om hWe h4 h5⟩;rw [oG qs j g' om,i0,←hval,←h4,bR,aT,aM];simp only [aI,jN]
   have hgV:Hid (g*(val ys*2^s)≤W+val ys*2^s):=hgV;have hgW:Hid (W<(g+1)*(val ys*2^s)):=hgW;have hus:=lM us j om;rw [hWe]at hus;have husl:=eQ (hU.take j);rw [aC,dv om]at husl;have hus:Hid (val us=val (us.take j)+4294967296^j*W):=hus;have husl:Hid (val (us.take j)<4294967296^j):=husl;clear hfe hW hval hfs hdm hml hg1 hgB hWe hvl2 hvl1 hwl hu1 hu0 hu3 hlx hUl hWV h2 hm hn hsece;refine A2 ⟨?_⟩;intros
   refine WP.loop (ι:=Nat×Nat×Nat×List Nat) (fun st=>st.1≤n∧st.2.1<4294967296∧st.2.2.1≤1∧st.2.2.2.length=K∧D st.2.2.2∧Hid (val st.2.2.2+4294967296^j*(g*val (v.take st.1))=val us+4294967296^j*(4294967296^st.1*(st.2.1+st.2.2.1)))∧
     ∀p,j+st.1≤p→st.2.2.2.getD p 0=us.getD p 0) (fun st=>n-st.1)
    (fun st=>fm (lfr s ub m K n top sec qb v j [(15,lit (.int .u64 g)),(17,lit (.int .u64 st.2.2.1)),(18,lit (.int .u64 st.2.1)),(122,dg v),(123,lit (.int .i64 n)),(124,lit (.int .i64 st.1))]))
    (fun st=>[(qb,192,bC qs),(ub,192,bC st.2.2.2)]) (0,0,0,us) ⟨an _,by simp,an _,hul,hU,by simp [val,Hid],fun _ _=>rfl⟩ lfA rfl ?_
   rintro ⟨i,c,w,us2⟩ ⟨hi,hc,hw,hul2,hU2,hv2,heq⟩ K2 hK2;simp only at hi hc hw hul2 hU2 hv2 heq⊢;by_cases hin:i<n
   ·have hd:=hDv.get i;have hx:=hU2.get (j+i);have hpr:=mM hgl hd;have hcast:((g*v.getD i 0:Nat):Int)=(g:Int)*(v.getD i 0:Int):=cX _ _
    have fin:Hid (∀x' w',x'<4294967296→w'≤1→x'+(c+g*v.getD i 0)%4294967296+w=us2.getD (j+i) 0+4294967296*w'→∀F' H',
      LeF F' (fm (lfr s ub m K n top sec qb v j [(15,lit (.int .u64 g)),(17,lit (.int .u64 w')),(18,lit (.int .u64 ((c+g*v.getD i 0)/4294967296:Nat))),(122,dg v),(123,lit (.int .i64 n)),(124,lit (.int .i64 ((i+1:Nat):Int)))]))→
      H'=[(qb,192,bC qs),(ub,192,bC (us2.set (j+i) x'))]→K2 F' H'):=fun x' w' h1 h2 h3 F' H' hF hH=>by
     refine hK2 F' H' (i+1,(c+g*v.getD i 0)/4294967296,w',us2.set (j+i) x') ⟨by simp only;omega,by simp only;omega,h2,by simpa using hul2,hU2.set _ h1,?_,fun p hp=>?_⟩ (by simp only;omega) hF hH
     ·simp only [Hid];have hs:=jQ us2 (j+i) x' om;rw [cD]at hs;rw [bK,bR];exact Ff hv2.out rfl h3 hs
     ·simp only at hp⊢;rw [dF _ _ _ _ om];exact heq p om
    by_cases hb:us2.getD (j+i) 0<(c+g*v.getD i 0)%4294967296+w
    ·refine A2 ⟨?_⟩;intros;refine Wo (yo rfl rfl (rI (c+g*v.getD i 0) om om)) ?_;refine A2 ⟨?_⟩;intros;refine jY (us2.getD (j+i) 0+4294967296-(c+g*v.getD i 0)%4294967296-w) rfl rfl om (br.there _ (br.here _)) om ?_;refine A2 ⟨?_⟩;intros;exact fin.out _ 1 om om om _ _ lfA rfl
    ·refine A2 ⟨?_⟩;intros;refine Wo (yo rfl rfl (rI (c+g*v.getD i 0) om om)) ?_;refine A2 ⟨?_⟩;intros;refine jY (us2.getD (j+i) 0-(c+g*v.getD i 0)%4294967296-w) rfl rfl om (br.there _ (br.here _)) om ?_;refine A2 ⟨?_⟩;intros;exact fin.out _ 0 om om om _ _ lfA rfl
   ·have hie:i=n:=by omega
    subst hie;rw [←hvlen,aP,hvlen,hvv]at hv2;have hx:=hU2.get (j+i);have hz2:∀p,j+i+1≤p→us2.getD p 0=0:=fun p hp=>by rw [heq p om];exact hzj p hp
    have hqj:(qs.set j g).getD j 0=g:=by
     have:j<qs.length:=by omega
     simp [List.getD,this]
    by_cases hb:us2.getD (j+i) 0<c+w
    ·obtain⟨x3,hx3⟩:∃x,x=us2.getD (j+i) 0+4294967296-c-w:=⟨_,rfl⟩
     have hs3:=jQ us2 (j+i) x3 om;rw [cD]at hs3;have hf3:Hid (val (us2.set (j+i) x3)+4294967296^j*(g*(val ys*2^s))=val us+4294967296^j*4294967296^i*4294967296):=MC hv2.out hs3 om;have hl3:(us2.set (j+i) x3).length=K:=by simpa using hul2
     have hU3:=hU2.set (j+i) (show x3<4294967296 by omega);have hz3:∀p,j+i+1≤p→(us2.set (j+i) x3).getD p 0=0:=fun p hp=>by rw [dF _ _ _ _ om];exact hz2 p hp
     clear hs3;refine A2 ⟨?_⟩;intros;refine jY x3 rfl rfl om (br.there _ (br.here _)) om ?_;clear hx3;generalize us2.set (j+i) x3=us3 at *;clear hul2 hv2 heq hz2;have hv3:=zS hU3 om hz3;rw [bR,cD]at hv3;have hgW2:=Oe hf3.out hv3 hus.out
     have hg1:1≤g:=by
      rcases g with _|g
      ·rw [bQ]at hgW2;omega
      ·omega
     have hgW2:Hid (W<g*(val ys*2^s)):=hgW2;clear hv3;refine A2 ⟨?_⟩;intros;refine jY g rfl rfl rfl (br.here _) om ?_;have hql1:(qs.set j g).length=m+1-i:=by simpa using hql
     refine A2 ⟨?_⟩;intros;rw [hqj];refine jY (g-1) rfl rfl om (br.here _) om ?_;rw [List.set_set];refine A2 ⟨?_⟩;intros
     refine WP.loop (ι:=Nat×Nat×List Nat) (fun st=>st.1≤i∧st.2.1≤1∧st.2.2.length=K∧D st.2.2∧Hid (val st.2.2+4294967296^j*(4294967296^st.1*st.2.1)=val us3+4294967296^j*val (v.take st.1))∧
       ∀p,j+i+1≤p→st.2.2.getD p 0=0) (fun st=>i-st.1)
      (fun st=>fm (lfr s ub m K i top sec qb v j [(18,lit (.int .u64 st.2.1)),(191,dg v),(192,lit (.int .i64 i)),(193,lit (.int .i64 st.1))]))
      (fun st=>[(qb,192,bC (qs.set j (g-1))),(ub,192,bC st.2.2)]) (0,0,us3) ⟨an _,an _,hl3,hU3,by simp [val,Hid],hz3⟩ lfA rfl ?_
     rintro ⟨k,c4,us4⟩ ⟨hk4,hc4,hul4,hU4,hv4,hz4⟩ K3 hK3;simp only at hk4 hc4 hul4 hU4 hv4 hz4⊢;clear hb hx hc hw;by_cases hkn:k<i
     ·have hd:=hDv.get k;have hx:=hU4.get (j+k);refine A2 ⟨?_⟩;intros;refine jY ((c4+(us4.getD (j+k) 0+v.getD k 0))%4294967296) rfl rfl om (br.there _ (br.here _)) om ?_;refine A2 ⟨?_⟩;intros;refine hK3 _ _ (k+1,(c4+(us4.getD (j+k) 0+v.getD k 0))/4294967296,us4.set (j+k) ((c4+(us4.getD (j+k) 0+v.getD k 0))%4294967296)) ⟨by simp only;omega,by simp only;omega,by simpa using hul4,hU4.set _ om,?_,fun p hp=>?_⟩ (by simp only;omega) lfA rfl
      ·simp only [Hid];have hs:=jQ us4 (j+k) ((c4+(us4.getD (j+k) 0+v.getD k 0))%4294967296) om;rw [cD]at hs;rw [bK,bR];exact Fq hv4.out rfl hs
      ·simp only at hp⊢;rw [dF _ _ _ _ om];exact hz4 p hp
     ·have hke:k=i:=by omega
      subst hke;rw [←hvlen,aP,hvlen,hvv]at hv4;have hx:=hU4.get (j+k);have hs5:=jQ us4 (j+k) ((us4.getD (j+k) 0+c4)%4294967296) om;rw [cD]at hs5;have hU5:=hU4.set (j+k) (show(us4.getD (j+k) 0+c4)%4294967296<4294967296 by omega);have hl5:(us4.set (j+k) ((us4.getD (j+k) 0+c4)%4294967296)).length=K:=by simpa using hul4
      have hv5:=zS (k:=j+k+1) hU5 om (fun p hp=>by rw [dF _ _ _ _ om];exact hz4 p hp);rw [bR,cD]at hv5;have hfb:=MD hf3.out hv4.out hs5 hv5 hc4 hx hgV.out hus.out
      have hfe:val (us4.set (j+k) ((us4.getD (j+k) 0+c4)%4294967296))+4294967296^j*((g-1)*(val ys*2^s))=val us:=by
       obtain⟨g',rfl⟩:∃g',g=g'+1:=⟨g-1,om⟩
       rw [aT g',aY,aM]at hfb;rw [dZ];omega
      have hall:=hend.out (g-1) _ om hl5 hU5 hfe (by rw [th hg1];exact hgW2.out);have hall:Hid _:=hall;clear hfe hfb hv5 hs5 hl5;refine A2 ⟨?_⟩;intros;refine jY ((us4.getD (j+k) 0+c4)%4294967296) rfl rfl om (br.there _ (br.here _)) om ?_;refine A2 ⟨?_⟩;intros;exact hKc _ _ (j,us4.set (j+k) ((us4.getD (j+k) 0+c4)%4294967296),qs.set j (g-1)) hall.out (by simp only;omega) lfA rfl
    ·obtain⟨x3,hx3⟩:∃x,x=us2.getD (j+i) 0-c-w:=⟨_,rfl⟩
     have hs3:=jQ us2 (j+i) x3 om;rw [cD]at hs3;have hf3:=Jl hv2.out hs3 om;have hl3:(us2.set (j+i) x3).length=K:=by simpa using hul2
     have hall:Hid _:=hend.out g _ hgl hl3 (hU2.set (j+i) (show x3<4294967296 by omega)) hf3 hgW.out;clear hs3 hf3 hl3;refine A2 ⟨?_⟩;intros;refine jY x3 rfl rfl om (br.there _ (br.here _)) om ?_;refine A2 ⟨?_⟩;intros;refine jY g rfl rfl rfl (br.here _) om ?_;refine A2 ⟨?_⟩;intros;exact hKc _ _ (j,us2.set (j+i) x3,qs.set j g) hall.out (by simp only;omega) lfA rfl
end Go.Ab
