/- Texts laid one behind the other: RNum, Rev, FmtN, Fmt, Wrt, RPoint, Node. -/
import Derived.Test.YtjopjomoejfehaaGreatDoorB33
set_option linter.all false
set_option maxHeartbeats 16000000
namespace Go.Ab
open Go.Proofs
variable [Base]
def Iw (r:RQ):List UInt8:=if j9 r=true then fmt r.v else []
theorem L0 {r:RQ}(h:j9 r=true):Iw r=fmt r.v:=by unfold Iw;rw [if_pos h]
theorem Da {r:RQ}{L:Nat}(h:r.ok L):(Iw r).length≤20*L+24:=by
 unfold Iw;split
 ·have:=rY (uH h);omega
 ·simp
def K6 (l m:List UInt8) (i:Nat):Prop:=m.length=l.length∧∀p,p<l.length→m.getD p 0=if p<i∨l.length-i≤p then l.getD (l.length-1-p) 0 else l.getD p 0
theorem I3 (l:List UInt8):K6 l l 0:=⟨rfl,fun p hp=>by rw [if_neg om]⟩
theorem I4 {l m:List UInt8}{i:Nat}(h:K6 l m i) (hi:i+1≤l.length-1-i):K6 l ((m.set i (m.getD (l.length-1-i) 0)).set (l.length-1-i) (m.getD i 0)) (i+1):=by
 obtain⟨h1,h2⟩:=h;refine⟨by rw [gK,gK,h1],fun p hp=>?_⟩;have ei:=h2 i om;have ej:=h2 (l.length-1-i) om;rw [if_neg om]at ei ej
 have g:∀(x:List UInt8) (k:Nat) (v:UInt8) (q:Nat),k<x.length→(x.set k v).getD q 0=if q=k then v else x.getD q 0:=fun x k v q hk=>by
  simp only [List.getD,List.getElem?_set];by_cases e:k=q
  ·subst e;simp [hk]
  ·simp [e,lG e]
 rw [g _ _ _ _ (by rw [gK];omega),g _ _ _ _ om,ei,ej];by_cases p1:p=l.length-1-i
 ·subst p1;rw [if_pos rfl,if_pos om];congr 1;omega
 ·rw [if_neg p1];by_cases p2:p=i
  ·subst p2;rw [if_pos rfl,if_pos om]
  ·rw [if_neg p2,h2 p hp];by_cases p3:p<i∨l.length-i≤p
   ·rw [if_pos p3,if_pos om]
   ·rw [if_neg p3,if_neg om]
theorem K5 {l m:List UInt8}{i:Nat}(h:K6 l m i) (hi:l.length≤2*i+1) (hi2:2*i≤l.length+1):m=l.reverse:=by
 obtain⟨h1,h2⟩:=h;apply q9;intro p;by_cases hp:p<l.length
 ·have h3:=h2 p hp;have hm:p<m.length:=by omega
  have e1:m[p]? = some (m.getD p 0):=by simp [List.getD,hm]
  rw [e1,h3,List.getElem?_reverse hp];have hl:l.length-1-p<l.length:=by omega
  by_cases p3:p<i∨l.length-i≤p
  ·rw [if_pos p3];simp [List.getD,hl]
  ·rw [if_neg p3];have:p=l.length-1-p:=by omega
   rw [←this];simp [List.getD,hp]
 ·rw [cM om,cM (by simp;omega)]
theorem HC {l:List UInt8}{rest:List SV}{i:Nat}(h:i<l.length):(bys l++rest)[i]? = some (lit (.int .u8 ((l.getD i 0).toNat:Nat))):=by
 rw [dO (by rw [mT];exact h)];simp [bys,List.getD,h]
theorem HB {l:List UInt8}{rest:List SV}{i:Nat}(h:i<l.length) (x:UInt8):spl (bys l++rest) i [lit (.int .u8 (x.toNat:Nat))]=bys (l.set i x)++rest:=by
 simp only [spl];rw [List.set_append_left _ _ (by rw [mT];exact h)];unfold bys;rw [List.map_set]
theorem HF {l:List UInt8}{rest:List SV}{i:Nat}(h:i<l.length):Nat.ble (i+1) (bys l++rest).length=true:=by
 apply pL;rw [ac,mT];omega
theorem EF (b c:Nat) (l:List UInt8) (rest:List SV) (hl:l.length≤1000000000) :
  PuH Tryz.prog 326 [lit (.slice (some ⟨b,0,none⟩) l.length c)] [(b,5,bys l++rest)] (fun r H=>r=Ab.tup []∧H=[(b,5,bys l.reverse++rest)]) noX:=by
 refine PuH.intro Tryz.func326 rfl kr fun C hC=>?_
 refine A2 ⟨?_⟩;intros;refine WP.loopS (ι:=Nat×List UInt8) (fun x=>K6 l x.2 x.1∧2*x.1≤l.length+1) (fun x=>l.length-x.1) (fun x=>fm [(0,lit (.slice (some ⟨b,0,none⟩) l.length c)),(2,lit (.int .i64 x.1)),(3,lit (.int .i64 ((l.length:Int)-1-x.1)))]) (fun x=>[(b,5,bys x.2++rest)]) (0,l) ⟨I3 l,om⟩ ?_ Sr ?_
 ·exact LeF.cons Lr (LeF.cons Lr (LeF.cons (Le.int (by simp)) (LeF.nil _)))
 ·rintro ⟨i,m⟩ ⟨hm,hi⟩ K hK;simp only at hi hm⊢;have hml:=hm.1;by_cases hc:(i:Int)<(l.length:Int)-1-i
  ·have ej:(l.length:Int)-1-i=((l.length-1-i:Nat):Int):=by omega
   rw [ej]at hc⊢;generalize hj:l.length-1-i=j at hc⊢;repeat(first|(refine AS ⟨?_⟩;intros)|(refine O1 ⟨?_⟩;intros))
   refine WdL 13 1 ?_;refine A2 ⟨?_⟩;intros;refine Wdo (eR rfl mmA (HC om)) ?_;refine A2 ⟨?_⟩;intros;refine Wdo (eR rfl mmA (HC om)) ?_;refine A2 ⟨?_⟩;intros;refine dL0 ?_;refine Gs (b:=b) (o:=i) (sv:=lit (.int .u8 ((m.getD j 0).toNat:Nat))) (cs':=bys (m.set i (m.getD j 0))++rest) rfl rfl rfl (.here _) (HB om _) (HF om) ?_ ?_
   ·(repeat(first|exact LOk.nil|refine Lsk ?_|refine Lcv ?_))
   refine Gn ?_ ?_
   ·(repeat(first|exact LOk.nil|refine Lsk ?_|refine Lcv ?_))
   refine A2 ⟨?_⟩;intros;refine WPL.store (b:=b) (o:=j) (sv:=lit (.int .u8 ((m.getD i 0).toNat:Nat))) (cs':=bys ((m.set i (m.getD j 0)).set j (m.getD i 0))++rest) rfl rfl rfl (.here _) (HB (by rw [gK];omega) _) (HF (by rw [gK];omega)) ?_;refine A2 ⟨?_⟩;intros;subst hj;refine hK _ _ (i+1,_) ⟨I4 hm om,om⟩ (by simp only;omega) ?_ Sr;exact LeF.cons Lr (LeF.cons (Le.int (by simp)) (LeF.cons (Le.int (by simp only;omega)) (LeF.nil _)))
  ·refine A2 ⟨?_⟩;intros;refine gE _ _ jx Sr ⟨rfl,?_⟩;rw [K5 hm om om]
theorem QC (q m:Nat):q*10^(m+1)=10*(q*10^m):=by rw [bU,←aM,aI]
theorem R5 {q r m:Nat}(h0:¬(q=0∧r=0)):mR (q*10^(m+1)+r)=UInt8.ofNat (48+r%10)::mR (q*10^m+r/10):=by
 have hp:0<10^m:=cZ om;have e:=QC q m;generalize hz:q*10^m=z at *
 have hne:q*10^(m+1)+r≠0:=by
  rw [e];intro h;have hz0:z=0:=by omega
  rw [←hz]at hz0;rcases pM.1 hz0 with h1|h1
  ·exact h0 ⟨h1,om⟩
  ·omega
 rw [uR hne,e];congr 2
 ·omega
 ·omega
theorem Own.bytes {l:List UInt8}{s:SV}{H:LH}(hl:l.length≠0) (h:Own 5 1 l.length (bys l) s H):∃b c rest,s=lit (.slice (some ⟨b,0,none⟩) l.length c)∧H=[(b,5,bys l++rest)]:=by
 obtain⟨_,⟨e,_,_⟩|⟨b,c,_,_,rfl,rfl⟩⟩:=h
 ·exact absurd e hl
 ·exact⟨b,c,_,rfl,rfl⟩
theorem E9 (r:Nat):[lit (.int .u8 (48+((r%10:Nat):Int)))]=bys [UInt8.ofNat (48+r%10)]:=by
 have e2:(UInt8.ofNat (48+r%10)).toNat=48+r%10:=by rw [UInt8.toNat_ofNat'];omega
 show _=[lit (.int .u8 (((UInt8.ofNat (48+r%10)).toNat:Nat):Int))]
 rw [e2];rfl
theorem yC (n:Nat){L:Nat}(hn:(dgs n).length≤L) (hL:L≤100000):Pu Tryz.prog 312 [nat n] (str (dec n)):=by
 have c0:=gu (dgs n) om (cE n);rw [aK]at c0;have hdl:=DY hn;refine Pi Tryz.func312 fun C=>?_
 refine D1 c0 ⟨?_⟩;intros
 refine WP.loopS (ι:=Nat×List UInt8×SV×LH) (fun x=>x.2.1++mR x.1=mR n∧Own 5 1 x.2.1.length (bys x.2.1) x.2.2.1 x.2.2.2∧(dgs x.1).length≤L) (fun x=>x.1) (fun x=>fm [(0,nat x.1),(3,x.2.2.1)]) (fun x=>x.2.2.2) (n,[],lit (.slice none 0 0),[])
  ⟨by rw [a8],Own.nil _ _,hn⟩ lfA (aF _) ?_
 rintro ⟨x,acc,s,Hs⟩ ⟨hx,hown,hxL⟩ K hK;simp only at hx hown hxL⊢;haveI:=hown.co
 by_cases hx0:x=0
 ·subst hx0;have e:(dgs 0).length=0:=by rw [cI];rfl
  rw [s9,bw]at hx;subst hx;clear hK
  have ed:(mR n).length=0↔n=0:=by
   constructor
   ·intro h;by_cases h0:n=0
    ·exact h0
    ·rw [uR h0]at h;cases h
   ·rintro rfl;rw [s9];rfl
  by_cases h0:n=0
  ·have e2:=ed.2 h0;unfold dec;rw [if_pos h0];clear ed;refine A2 ⟨?_⟩;intros;refine Wo (be hown rfl) ?_;exact Z1
  ·have e2:(mR n).length≠0:=fun h=>h0 (ed.1 h)
   unfold dec;rw [if_neg h0];obtain⟨b,c,rest,rfl,rfl⟩:=hown.bytes e2;clear ed;generalize hl:mR n=l at *;refine A2 ⟨?_⟩;intros;refine WfH (EF b c l rest om) ?_;rintro _ _ ⟨rfl,rfl⟩;simp only [aa,a8];refine A2 ⟨?_⟩;intros;refine Wo (D6 (l:=l.reverse) (rest:=rest) (c:=c) kr (by rw [sH];rfl) mmA (LeL.refl _)) ?_;exact Z1
 ·have e:=lW hx0;refine A2 ⟨?_⟩;intros;have c1:=zU (dgs x) 1000000000 om (cE x) om om;rw [aK]at c1;have hq:(dgs (x/1000000000)).length≤L:=aO (cH (dw _ _)) hxL;have hfin:∀F' H' acc' s' Hs',acc'++mR (x/1000000000)=mR n→Own 5 1 acc'.length (bys acc') s' Hs'→LeF F' (fm [(0,nat (x/1000000000)),(3,s')])→Hs'.Sublist H'→K F' H':=fun F' H' acc' s' Hs' g1 g2 h1 h2=>hK F' H' (x/1000000000,acc',s',Hs') ⟨g1,g2,hq⟩ (by simp only;omega) h1 h2
  clear hK
  have hz:acc++mR (x/1000000000*10^(9-0)+x%1000000000)=mR n:=by
   rw [←hx];congr 2;omega
  have hr:x%1000000000<10^(9-0):=by
   show _<1000000000;omega
  generalize x%1000000000=r at *;generalize x/1000000000=q at *;refine D1 c1 ⟨?_⟩;intros
  refine WP.loopS (ι:=Nat×Nat×List UInt8×SV×LH) (fun y=>y.1≤9∧y.2.1<10^(9-y.1)∧y.2.2.1++mR (q*10^(9-y.1)+y.2.1)=mR n∧Own 5 1 y.2.2.1.length (bys y.2.2.1) y.2.2.2.1 y.2.2.2.2) (fun y=>9-y.1)
   (fun y=>fm [(0,nat q),(3,y.2.2.2.1),(4,lit (.int .u32 y.2.1)),(15,lit (.int .i64 y.1))]) (fun y=>y.2.2.2.2) (0,r,acc,s,Hs) ⟨om,hr,hz,hown⟩ lfA Sr ?_
  clear hr hz hown this hx c1;rintro ⟨k,r,acc,s,Hs⟩ ⟨hk,hr,hz,hown⟩ K2 hK2;simp only at hk hr hz hown⊢;haveI:=hown.co
  by_cases hk9:k=9
  ·subst hk9;have:r=0:=by simpa using hr
   subst this;rw [show q*10^(9-9)+0=q from by simp]at hz;clear hK2 hr;refine A2 ⟨?_⟩;intros;exact hfin _ _ acc s Hs hz hown lfA Sr
  ·obtain⟨m,hm⟩:∃m,9-k=m+1:=⟨8-k,om⟩
   have hm':9-(k+1)=m:=by omega
   rw [hm]at hr hz;have hrb:r<1000000000:=cR hr (show 10^(m+1)≤10^9 from gQ om om)
   have hal:acc.length≤10*L:=by
    have h2:=congrArg List.length hz;simp only [ac]at h2;omega
   by_cases hqr:q=0∧r=0
   ·obtain⟨rfl,rfl⟩:=hqr;have e:(dgs 0).length=0:=by rw [cI];rfl
    rw [bS]at hz;clear hK2 hr;refine A2 ⟨?_⟩;intros;exact hfin _ _ acc s Hs hz hown lfA Sr
   ·rw [R5 hqr]at hz
    have hr1:r/10<10^m:=by
     rw [bU]at hr;omega
    have hz1:(acc++[UInt8.ofNat (48+r%10)])++mR (q*10^m+r/10)=mR n:=by rw [←hz];simp
    have hfin2:∀F' H' s' Hs',Own 5 1 (acc.length+1) (bys acc++bys [UInt8.ofNat (48+r%10)]) s' Hs'→LeF F' (fm [(0,nat q),(3,s'),(4,lit (.int .u32 (r/10:Nat))),(15,lit (.int .i64 (k+1:Nat)))])→Hs'.Sublist H'→K2 F' H':=fun F' H' s' Hs' g h1 h2=>hK2 F' H' (k+1,r/10,acc++[UInt8.ofNat (48+r%10)],s',Hs') ⟨by simp only;omega,by simp only;rw [hm'];exact hr1,by simp only;rw [hm'];exact hz1,by simp only;rw [ac,tI];exact g⟩ (by simp only;omega) h1 h2
    clear hK2 hz hz1 hr hfin;by_cases hq0:q=0
    ·have hr0:r≠0:=fun h=>hqr ⟨hq0,h⟩
     subst hq0;have e:(dgs 0).length=0:=by rw [cI];rfl
     clear hqr;refine A2 ⟨?_⟩;intros;refine oo hown om (fun s1 H1 o1=>?_);rw [E9 r]at o1;haveI:=o1.co
     have ht:(r:Int).tdiv 10=((r/10:Nat):Int):=(Int.ofNat_tdiv r 10).symm;refine A2 ⟨?_⟩;intros;exact hfin2 _ _ s1 H1 o1 lfA (fZ _ _)
    ·have e:=lW hq0;clear hqr;refine A2 ⟨?_⟩;intros;refine oo hown om (fun s1 H1 o1=>?_);rw [E9 r]at o1;haveI:=o1.co
     have ht:(r:Int).tdiv 10=((r/10:Nat):Int):=(Int.ofNat_tdiv r 10).symm;refine A2 ⟨?_⟩;intros;exact hfin2 _ _ s1 H1 o1 lfA (fZ _ _)
theorem FB (z:Int){L:Nat}(hz:il z≤L) (hL:L≤10000):Pu Tryz.prog 327 [int z] (str (if z<0 then [45]++dec z.natAbs else dec z.natAbs)):=by
 have e1:il z=(dgs z.natAbs).length:=rfl;have c:=tV (decide (z<0)) (dgs z.natAbs) om (cE _);rw [aK,iH]at c;have c1:=yC z.natAbs (L:=L) om om;have hl:=uQ (n:=z.natAbs) (L:=L) om;generalize dec z.natAbs=s at *;have k1:([45]:List UInt8).length=1:=rfl;by_cases h:z<0
 ·rw [gg h]at c;rw [if_pos h];refine Pi Tryz.func327 fun C=>?_
  exact Y2 c c1
 ·obtain⟨hs,hs2⟩:0≤z.sign∧z.sign≤1:=by
   rcases iw z 0 with h0|h0|h0
   ·omega
   ·rw [h0];decide
   ·rw [fu h0];omega
  generalize z.sign=g at *;rw [if_neg h];refine Pi Tryz.func327 fun C=>?_
  exact Y2 c c1
theorem I2 (x:Rat) (h:ht x≤10000000):Pu Tryz.prog 328 [fr x] (lit (.bool (decide (x.den=1)))):=by
 have b1:=eP x;by_cases hs:dW x
 ·rw [ko hs];have h1:=hs.2;by_cases h2:x.den=1
  ·rw [a9 h2,h2];refine Pi Tryz.func328 fun C=>?_
   exact Z1
  ·rw [ab h2];have h3:=x.den_nz;refine Pi Tryz.func328 fun C=>?_
   exact Z1
 ·rw [sw hs];have c:=jd (dgs x.den) om (cE _);rw [aK]at c;have h1:=Mq (n:=x.den);by_cases h2:x.den=1
  ·have h3:=h1.2 h2;rw [a9 h2];refine Pi Tryz.func328 fun C=>?_
   exact Y1 c
  ·have h3:f4 x.den≠1:=fun h=>h2 (h1.1 h)
   rw [ab h2];refine Pi Tryz.func328 fun C=>?_
   exact Y1 c
theorem HS (x:Rat){L:Nat}(hx:ht x≤L) (hL:L≤10000):Pu Tryz.prog 313 [fr x] (str (fmt x)):=by
 have n1:=eh x;have n2:=eP x;have a1:=oQ x om;have a2:=qG x om;have a3:=I2 x om;have c1:=FB x.num (L:=L) om om;have c2:=yC x.den (L:=L) om om;have l1:=uQ (n:=x.num.natAbs) (L:=L) (show il x.num≤L by omega);have l2:=uQ (n:=x.den) (L:=L) om;have k1:([45]:List UInt8).length=1:=rfl;have k2:([47]:List UInt8).length=1:=rfl;unfold fmt
 have l3:(if x.num<0 then [45]++dec x.num.natAbs else dec x.num.natAbs).length≤10*L+2:=by
  split
  ·rw [ac,k1];omega
  ·omega
 generalize(if x.num<0 then [45]++dec x.num.natAbs else dec x.num.natAbs)=D1 at *;generalize hD2:dec x.den=D2 at *;have k3:([47]++D2).length=D2.length+1:=by simp
 by_cases h2:x.den=1
 ·rw [if_pos h2,bw];rw [a9 h2]at a3;refine Pi Tryz.func313 fun C=>?_
  refine D5 a1 a2 a3 c1 c2 ⟨?_⟩;intros;exact E1
 ·rw [if_neg h2];rw [ab h2]at a3;refine Pi Tryz.func313 fun C=>?_
  refine D5 a1 a2 a3 c1 c2 ⟨?_⟩;intros;exact E1
theorem FA (x:Rat){L:Nat}(hx:ht x≤L) (hL:L≤10000):Pu Tryz.prog 291 [q x] (str (fmt x)):=by
 have n1:=eh x;have n2:=eP x;have e1:il x.num=(dgs x.num.natAbs).length:=rfl;have c1:=KZ (decide (x.num<0)) (dgs x.num.natAbs) (dgs x.den) om om (cE _) (cE _);rw [aK,aK,iH,io]at c1;have c2:=HS x hx hL;refine Pi Tryz.func291 fun C=>?_
 exact Y2 c1 c2
def Wtr (w:Nat) (l:List UInt8) (d:Nat) (H:LH):Prop:=∃a s Hb,(a=ws∨a=vB w)∧Byt l s Hb∧H=(w,279,wrC a s d false)::Hb
theorem jT {w b d:Nat}{l:List UInt8}{H:LH}(h:Wtr w l d H) (t:List UInt8) (hl:l.length+t.length≤1000000000) :
  PuH Tryz.prog 203 [lit (.pointer (some ⟨w,0,none⟩)),lit (.slice (some ⟨b,0,none⟩) 1 1)] ((b,9,[str t])::H) (fun r H'=>r=Ab.tup []∧Wtr w (l++t) d H') noX:=by
 obtain⟨a,s,Hb,ha,hb,rfl⟩:=h
 exact(Gq ha hb t hl d false).mono (fun r H'=>by
  rintro ⟨s',Hb',hb',rfl,rfl⟩;exact⟨rfl,_,_,_, .inr rfl,hb',rfl⟩) fun _ _ h=>h
theorem AM (w n:Nat) (hn:(dgs n).length≤300):PuH Tryz.prog 290 [lit (.pointer (some ⟨w,0,none⟩)),nat n] [] (fun r H'=>r=Ab.tup []∧H'=[]) noX:=by
 have c:=jd (dgs n) om (cE _);have hb:=zd (cE n);rw [aK]at c hb;refine PuH.intro Tryz.func290 rfl kr fun C hC=>?_
 refine D1 c ⟨?_⟩;intros;exact gE _ _ jx Sr ⟨rfl,rfl⟩
theorem wh {w d:Nat}{l:List UInt8}{H:LH}(h:Wtr w l d H) (r:RQ){L:Nat}(hr:r.ok L) (hL:L≤200) (hl:l.length≤100000000) :
  PuH Tryz.prog 271 [lit (.pointer (some ⟨w,0,none⟩)),qr r] H (fun r' H'=>j9 r=true∧r'=Ab.tup []∧Wtr w (l++fmt r.v) d H') (fun pv _=>j9 r=false∧pv=inval):=by
 have c0:=FC hr om
 have c1:Pu Tryz.prog 289 [qr r] (lit (.bool (j9 r))):=by
  refine Pi Tryz.func289 fun C=>?_
  exact Y1 c0
 clear c0;have hht:=uH hr;cases hn:j9 r with
 |false =>
  rw [hn]at c1;refine PuH.intro Tryz.func271 rfl kr fun C hC=>?_
  refine D1 c1 ⟨?_⟩;intros;refine du ?_;rw [hC];exact⟨rfl,rfl⟩
 |true =>
  rw [hn]at c1;rw [Qz hn]at c1⊢;have n1:=eh r.v;have n2:=eP r.v;have e1:il r.v.num=(dgs r.v.num.natAbs).length:=rfl;have c2:=FA r.v hht om;have hf:=rY hht;generalize r.v=x at *;refine PuH.intro Tryz.func271 rfl kr fun C hC=>?_
  refine D1 c1 ⟨?_⟩;intros;refine dQ ?_;refine A2 ⟨?_⟩;intros;refine WfH (AM w x.num.natAbs om) ?_;rintro _ _ ⟨rfl,rfl⟩;simp only [aa,a8];refine A2 ⟨?_⟩;intros;refine WfH (AM w x.den om) ?_;rintro _ _ ⟨rfl,rfl⟩;simp only [aa,a8];refine D1 c2 ⟨?_⟩;intros;refine WfH (jT h (fmt x) om) ?_;rintro _ _ ⟨rfl,h'⟩;refine A2 ⟨?_⟩;intros;exact gE _ _ jx (f5 _ _) ⟨by trivial,rfl,h'⟩
def zn (a b:RQ):List UInt8:=[40]++fmt a.v++[44]++fmt b.v++[41]
theorem ud {a b:RQ}{L:Nat}(ha:a.ok L) (hb:b.ok L):(zn a b).length≤40*L+60:=by
 have h1:=rY (uH ha);have h2:=rY (uH hb);unfold zn;simp only [ac,aE,br];omega
theorem CN {w d:Nat}{l:List UInt8}{H:LH}(h:Wtr w l d H) (a b:RQ){L:Nat}(ha:a.ok L) (hb:b.ok L) (hL:L≤200) (hl:l.length≤90000000) :
  PuH Tryz.prog 249 [lit (.pointer (some ⟨w,0,none⟩)),pr a b] H (fun r' H'=>(j9 a&&j9 b)=true∧r'=Ab.tup []∧Wtr w (l++zn a b) d H') (fun pv _=>(j9 a&&j9 b)=false∧pv=inval):=by
 have h1:=rY (uH ha);have h2:=rY (uH hb);have k1:([40]:List UInt8).length=1:=rfl;have k2:([44]:List UInt8).length=1:=rfl;have k3:([41]:List UInt8).length=1:=rfl;refine PuH.intro Tryz.func249 rfl kr fun C hC=>?_
 refine A2 ⟨?_⟩;intros;refine WfH (jT h [40] om) ?_;rintro _ _ ⟨rfl,g1⟩;refine WPL.perm aC ?_;simp only [aa,a8];refine A2 ⟨?_⟩;intros;refine WfX (wh g1 a ha hL (by rw [ac];omega)) ?_ ?_
 ·rintro _ _ ⟨n1,rfl,g2⟩;simp only [aa,a8];refine A2 ⟨?_⟩;intros
  have hl2:(l++[40]++fmt a.v).length≤l.length+20*(L+1)+5:=by
   rw [ac,ac];omega
  refine WfH (jT g2 [44] om) ?_;rintro _ _ ⟨rfl,g3⟩;refine WPL.perm aC ?_;simp only [aa,a8];refine A2 ⟨?_⟩;intros;refine WfX (wh g3 b hb hL (by rw [ac];omega)) ?_ ?_
  ·rintro _ _ ⟨n2,rfl,g4⟩;simp only [aa,a8];refine A2 ⟨?_⟩;intros;refine WfH (jT g4 [41] (by rw [ac,ac];omega)) ?_;rintro _ _ ⟨rfl,g5⟩;refine A2 ⟨?_⟩;intros;exact gE _ _ jx (f5 _ _) ⟨by rw [n1,n2];rfl,rfl,by simpa only [zn,av] using g5⟩
  ·rintro _ _ ⟨n2,rfl⟩;rw [hC];exact⟨by rw [n1,n2];rfl,rfl⟩
 ·rintro _ _ ⟨n1,rfl⟩;rw [hC];exact⟨by rw [n1];rfl,rfl⟩
def A3 (a b c e:RQ):List UInt8:=[32]++zn a b++([32]++zn c e)
theorem If {w d bp:Nat}{l:List UInt8}{H:LH}(h:Wtr w l d H) (a b c e:RQ){L:Nat}(ha:a.ok L) (hb:b.ok L) (hc:c.ok L) (he:e.ok L) (hL:L≤200) (hl:l.length≤80000000) :
  PuH Tryz.prog 204 [lit (.pointer (some ⟨w,0,none⟩)),lit (.slice (some ⟨bp,0,none⟩) 2 2)]
   ((bp,90,[lit (.bool a.s),dg a.n,dg a.d,lit (.bool b.s),dg b.n,dg b.d,lit (.bool c.s),dg c.n,dg c.d,lit (.bool e.s),dg e.n,dg e.d])::H)
   (fun r' H'=>(j9 a&&j9 b&&(j9 c&&j9 e))=true∧r'=Ab.tup []∧Wtr w (l++A3 a b c e) d H') (fun pv _=>(j9 a&&j9 b&&(j9 c&&j9 e))=false∧pv=inval):=by
 have h1:=ud ha hb;have h2:=ud hc he;have k1:([32]:List UInt8).length=1:=rfl;refine PuH.intro Tryz.func204 rfl kr fun C hC=>?_
 refine A2 ⟨?_⟩;intros;refine dQ ?_;refine A2 ⟨?_⟩;intros;refine WP.unroll 3 ?_;refine WPR.succ ?_;refine A2 ⟨?_⟩;intros;refine WfH (jT h [32] om) ?_;rintro _ _ ⟨rfl,g1⟩;refine WPL.perm aC ?_;simp only [aa,a8];refine A2 ⟨?_⟩;intros;refine WfX (CN g1 a b ha hb hL (by rw [ac];omega)) ?_ ?_
 ·rintro _ _ ⟨n1,rfl,g2⟩;simp only [aa,a8];refine A2 ⟨?_⟩;intros
  have hl2:(l++[32]++zn a b).length=l.length+1+(zn a b).length:=by
   rw [ac,ac];omega
  refine WfH (jT g2 [32] om) ?_;rintro _ _ ⟨rfl,g3⟩;refine WPL.perm aC ?_;simp only [aa,a8];refine A2 ⟨?_⟩;intros;refine WfX (CN g3 c e hc he hL (by rw [ac];omega)) ?_ ?_
  ·rintro _ _ ⟨n2,rfl,g4⟩;simp only [aa,a8];refine A2 ⟨?_⟩;intros;refine gE _ _ jx ?_ ⟨by rw [n1,n2];rfl,rfl,by simpa only [A3,av] using g4⟩;repeat(first|exact Sr|refine Sc ?_)
  ·rintro _ _ ⟨n2,rfl⟩;rw [hC];exact⟨by rw [n1,n2];rfl,rfl⟩
 ·rintro _ _ ⟨n1,rfl⟩;rw [hC];exact⟨by rw [n1];rfl,rfl⟩
def rpT (a b:RQ):List UInt8:=[40]++Iw a++[44]++Iw b++[41]
theorem Cy {a b:RQ}(h:(j9 a&&j9 b)=true):rpT a b=zn a b:=by
 rw [bX]at h;unfold rpT zn;rw [L0 h.1,L0 h.2]
theorem Gf {a b:RQ}{L:Nat}(ha:a.ok L) (hb:b.ok L):(rpT a b).length≤40*L+60:=by
 have h1:=Da ha;have h2:=Da hb;unfold rpT;simp only [ac,aE,br];omega
structure Nd where
 k:Int
 nm:List UInt8
 a:RQ
 b:RQ
 c:RQ
 e:RQ
 op:Int
 x:Int
 y:Int
 ln:Int
 cl:Int
def IU (z:Int):Prop := -9223372036854775808≤z∧z≤9223372036854775807
abbrev ndx (n:Nd):List SV:=[lit (.int .i64 n.k),str n.nm,lit (.bool n.a.s),dg n.a.n,dg n.a.d,lit (.bool n.b.s),dg n.b.n,dg n.b.d,lit (.bool n.c.s),dg n.c.n,dg n.c.d,lit (.bool n.e.s),dg n.e.n,dg n.e.d,lit (.int .i64 n.op),lit (.int .i64 n.x),lit (.int .i64 n.y),lit (.int .i64 n.ln),lit (.int .i64 n.cl)]
structure Nd.ok (L:Nat) (n:Nd):Prop where
 a:n.a.ok L
 b:n.b.ok L
 c:n.c.ok L
 e:n.e.ok L
 nm:n.nm.length≤100
def zq (r:RQ):Bool := !r.s&&decide (r.n.length=0)&&decide (r.d.length=0)
def zp (a b:RQ):Bool:=zq a&&zq b
def okN (n:Nd):Bool :=
 (decide (1≤n.k)&&decide (n.k≤6))&&(decide (n.k=1)||decide (n.nm.length=0))&&(decide (n.k=4)||(zp n.a n.b&&zp n.c n.e))&&((decide (n.k=6)&&decide (1≤n.op)&&decide (n.op≤4))||(decide (n.k≠6)&&decide (n.op=0)))&&(decide (n.k=6)||decide (n.y=0))&&((decide (n.k=6)||decide (n.k=5))||decide (n.x=0))
theorem xv (r:RQ){L:Nat}(h:r.ok L) (hL:L≤1000):Pu Tryz.prog 269 [qr r] (lit (.bool (zq r))):=by
 obtain⟨_,_,h1,h2⟩:=h;show Pu _ _ [ag [lit (.bool r.s),dg r.n,dg r.d]] _
 cases hs:r.s with
 |true =>
  rw [show zq r=false from by unfold zq;rw [hs];rfl];refine Pi Tryz.func269 fun C=>?_
  exact Z1
 |false =>
  by_cases hn:r.n.length=0∧r.d.length=0
  ·obtain⟨hn1,hn2⟩:=hn;rw [show zq r=true from by unfold zq;rw [hs,a9 hn1,a9 hn2];rfl];refine Pi Tryz.func269 fun C=>?_
   exact Z1
  ·rw [show zq r=false from by unfold zq;rw [hs,Bool.not_false,bd,←Bool.decide_and];exact ab hn];have hn':r.n.length+r.d.length≠0:=by omega
   clear hn;refine Pi Tryz.func269 fun C=>?_
   exact Z1
theorem tK (a b:RQ){L:Nat}(ha:a.ok L) (hb:b.ok L) (hL:L≤1000):Pu Tryz.prog 245 [pr a b] (lit (.bool (zp a b))):=by
 have c1:=xv a ha hL;have c2:=xv b hb hL;unfold zp;cases hs:zq a with
 |true =>
  rw [hs]at c1;refine Pi Tryz.func245 fun C=>?_
  exact Y2 c1 c2
 |false =>
  rw [hs]at c1;refine Pi Tryz.func245 fun C=>?_
  exact Y2 c1 c2
theorem Gk (n:Nd):Pu Tryz.prog 208 [ag (ndx n)] (lit (.int .i64 (if n.k=6 then(if n.op=2 then 2 else 1)else 3))):=by
 by_cases h1:n.k=6
 ·rw [if_pos h1];by_cases h2:n.op=2
  ·rw [if_pos h2];refine Pi Tryz.func208 fun C=>?_
   exact Z1
  ·rw [if_neg h2];refine Pi Tryz.func208 fun C=>?_
   exact Z1
 ·rw [if_neg h1];refine Pi Tryz.func208 fun C=>?_
  exact Z1
theorem oB {l:List UInt8}:(l.length=0→l=[])∧(l.length≠0→¬l=[]) :=
 ⟨fun h=>cU h,fun h e=>h (by rw [e];rfl)⟩
theorem C0 (n:Nd){L:Nat}(h:n.ok L) (hL:L≤1000):PuH Tryz.prog 201 [ag (ndx n)] [] (fun r H=>okN n=true∧r=Ab.tup []∧H=[]) (fun pv _=>okN n=false∧pv=inval):=by
 have c1:=tK n.a n.b h.a h.b hL;have c2:=tK n.c n.e h.c h.e hL;clear h;refine PuH.intro Tryz.func201 rfl kr fun C hC=>?_
 by_cases p1:1≤n.k
 case neg =>
  have dp1:=ab p1;refine A2 ⟨?_⟩;intros;refine du ?_;rw [hC];exact⟨by simp only [okN,dp1,bq,bd,aU,aZ,bH,bB,aS,aW],rfl⟩
 have dp1:=a9 p1;by_cases p2:n.k≤6
 case neg =>
  have dp2:=ab p2;refine A2 ⟨?_⟩;intros;refine du ?_;rw [hC];exact⟨by simp only [okN,dp1,dp2,bq,bd,aU,aZ,bH,bB,aS,aW],rfl⟩
 have dp2:=a9 p2;refine A2 ⟨?_⟩;intros;refine dQ ?_;by_cases q1:n.k=1
 case pos =>
  have dk1:decide (n.k=1)=true:=a9 om;have dk4:decide (n.k=4)=false:=ab om;have dk5:decide (n.k=5)=false:=ab om;have dk6:decide (n.k=6)=false:=ab om;have dn6:decide (n.k≠6)=true:=a9 om;refine A2 ⟨?_⟩;intros;refine dQ ?_;cases z1:zp n.a n.b with
  |false =>
   rw [z1]at c1;refine D2 c1 c2 ⟨?_⟩;intros;refine du ?_;rw [hC];exact⟨by simp only [okN,dp1,dp2,dk1,dk4,dk5,dk6,dn6,z1,bq,bd,aU,aZ,bH,bB,aS,aW],rfl⟩
  |true =>
   rw [z1]at c1;cases z2:zp n.c n.e with
   |false =>
    rw [z2]at c2;refine D2 c1 c2 ⟨?_⟩;intros;refine du ?_;rw [hC];exact⟨by simp only [okN,dp1,dp2,dk1,dk4,dk5,dk6,dn6,z1,z2,bq,bd,aU,aZ,bH,bB,aS,aW],rfl⟩
   |true =>
    rw [z2]at c2;refine D2 c1 c2 ⟨?_⟩;intros;refine dQ ?_;by_cases o1:n.op=0
    case neg =>
     have do1:=ab o1;refine A2 ⟨?_⟩;intros;refine du ?_;rw [hC];exact⟨by simp only [okN,dp1,dp2,dk1,dk4,dk5,dk6,dn6,z1,z2,do1,bq,bd,aU,aZ,bH,bB,aS,aW],rfl⟩
    have do1:=a9 o1;refine A2 ⟨?_⟩;intros;refine dQ ?_;by_cases y1:n.y=0
    case neg =>
     have dy1:=ab y1;refine A2 ⟨?_⟩;intros;refine du ?_;rw [hC];exact⟨by simp only [okN,dp1,dp2,dk1,dk4,dk5,dk6,dn6,z1,z2,do1,dy1,bq,bd,aU,aZ,bH,bB,aS,aW],rfl⟩
    have dy1:=a9 y1;refine A2 ⟨?_⟩;intros;refine dQ ?_;by_cases x1:n.x=0
    case neg =>
     have dx1:=ab x1;refine A2 ⟨?_⟩;intros;refine du ?_;rw [hC];exact⟨by simp only [okN,dp1,dp2,dk1,dk4,dk5,dk6,dn6,z1,z2,do1,dy1,dx1,bq,bd,aU,aZ,bH,bB,aS,aW],rfl⟩
    have dx1:=a9 x1;refine A2 ⟨?_⟩;intros;refine dQ ?_;refine A2 ⟨?_⟩;intros;exact gE _ _ jx (aF _) ⟨by simp only [okN,dp1,dp2,dk1,dk4,dk5,dk6,dn6,z1,z2,do1,dy1,dx1,bq,bd,aU,aZ,bH,bB,aS,aW],rfl,rfl⟩
 by_cases q4:n.k=4
 case pos =>
  have dk1:decide (n.k=1)=false:=ab om;have dk4:decide (n.k=4)=true:=a9 om;have dk5:decide (n.k=5)=false:=ab om;have dk6:decide (n.k=6)=false:=ab om;have dn6:decide (n.k≠6)=true:=a9 om;by_cases r1:n.nm.length=0
  case neg =>
   have dr1:=ab r1;have sr1:=oB.2 r1;refine A2 ⟨?_⟩;intros;refine du ?_;rw [hC];exact⟨by simp only [okN,dp1,dp2,dk1,dk4,dk5,dk6,dn6,dr1,bq,bd,aU,aZ,bH,bB,aS,aW],rfl⟩
  have dr1:=a9 r1;have sr1:=oB.1 r1;refine A2 ⟨?_⟩;intros;refine dQ ?_;refine D2 c1 c2 ⟨?_⟩;intros;refine dQ ?_;by_cases o1:n.op=0
  case neg =>
   have do1:=ab o1;refine A2 ⟨?_⟩;intros;refine du ?_;rw [hC];exact⟨by simp only [okN,dp1,dp2,dk1,dk4,dk5,dk6,dn6,dr1,do1,bq,bd,aU,aZ,bH,bB,aS,aW],rfl⟩
  have do1:=a9 o1;refine A2 ⟨?_⟩;intros;refine dQ ?_;by_cases y1:n.y=0
  case neg =>
   have dy1:=ab y1;refine A2 ⟨?_⟩;intros;refine du ?_;rw [hC];exact⟨by simp only [okN,dp1,dp2,dk1,dk4,dk5,dk6,dn6,dr1,do1,dy1,bq,bd,aU,aZ,bH,bB,aS,aW],rfl⟩
  have dy1:=a9 y1;refine A2 ⟨?_⟩;intros;refine dQ ?_;by_cases x1:n.x=0
  case neg =>
   have dx1:=ab x1;refine A2 ⟨?_⟩;intros;refine du ?_;rw [hC];exact⟨by simp only [okN,dp1,dp2,dk1,dk4,dk5,dk6,dn6,dr1,do1,dy1,dx1,bq,bd,aU,aZ,bH,bB,aS,aW],rfl⟩
  have dx1:=a9 x1;refine A2 ⟨?_⟩;intros;refine dQ ?_;refine A2 ⟨?_⟩;intros;exact gE _ _ jx (aF _) ⟨by simp only [okN,dp1,dp2,dk1,dk4,dk5,dk6,dn6,dr1,do1,dy1,dx1,bq,bd,aU,aZ,bH,bB,aS,aW],rfl,rfl⟩
 by_cases q5:n.k=5
 case pos =>
  have dk1:decide (n.k=1)=false:=ab om;have dk4:decide (n.k=4)=false:=ab om;have dk5:decide (n.k=5)=true:=a9 om;have dk6:decide (n.k=6)=false:=ab om;have dn6:decide (n.k≠6)=true:=a9 om;by_cases r1:n.nm.length=0
  case neg =>
   have dr1:=ab r1;have sr1:=oB.2 r1;refine A2 ⟨?_⟩;intros;refine du ?_;rw [hC];exact⟨by simp only [okN,dp1,dp2,dk1,dk4,dk5,dk6,dn6,dr1,bq,bd,aU,aZ,bH,bB,aS,aW],rfl⟩
  have dr1:=a9 r1;have sr1:=oB.1 r1;refine A2 ⟨?_⟩;intros;refine dQ ?_;cases z1:zp n.a n.b with
  |false =>
   rw [z1]at c1;refine D2 c1 c2 ⟨?_⟩;intros;refine du ?_;rw [hC];exact⟨by simp only [okN,dp1,dp2,dk1,dk4,dk5,dk6,dn6,dr1,z1,bq,bd,aU,aZ,bH,bB,aS,aW],rfl⟩
  |true =>
   rw [z1]at c1;cases z2:zp n.c n.e with
   |false =>
    rw [z2]at c2;refine D2 c1 c2 ⟨?_⟩;intros;refine du ?_;rw [hC];exact⟨by simp only [okN,dp1,dp2,dk1,dk4,dk5,dk6,dn6,dr1,z1,z2,bq,bd,aU,aZ,bH,bB,aS,aW],rfl⟩
   |true =>
    rw [z2]at c2;refine D2 c1 c2 ⟨?_⟩;intros;refine dQ ?_;by_cases o1:n.op=0
    case neg =>
     have do1:=ab o1;refine A2 ⟨?_⟩;intros;refine du ?_;rw [hC];exact⟨by simp only [okN,dp1,dp2,dk1,dk4,dk5,dk6,dn6,dr1,z1,z2,do1,bq,bd,aU,aZ,bH,bB,aS,aW],rfl⟩
    have do1:=a9 o1;refine A2 ⟨?_⟩;intros;refine dQ ?_;by_cases y1:n.y=0
    case neg =>
     have dy1:=ab y1;refine A2 ⟨?_⟩;intros;refine du ?_;rw [hC];exact⟨by simp only [okN,dp1,dp2,dk1,dk4,dk5,dk6,dn6,dr1,z1,z2,do1,dy1,bq,bd,aU,aZ,bH,bB,aS,aW],rfl⟩
    have dy1:=a9 y1;refine A2 ⟨?_⟩;intros;refine dQ ?_;refine A2 ⟨?_⟩;intros;refine dQ ?_;refine A2 ⟨?_⟩;intros;exact gE _ _ jx (aF _) ⟨by simp only [okN,dp1,dp2,dk1,dk4,dk5,dk6,dn6,dr1,z1,z2,do1,dy1,bq,bd,aU,aZ,bH,bB,aS,aW],rfl,rfl⟩
 by_cases q6:n.k=6
 case pos =>
  have dk1:decide (n.k=1)=false:=ab om;have dk4:decide (n.k=4)=false:=ab om;have dk5:decide (n.k=5)=false:=ab om;have dk6:decide (n.k=6)=true:=a9 om;have dn6:decide (n.k≠6)=false:=ab om;by_cases r1:n.nm.length=0
  case neg =>
   have dr1:=ab r1;have sr1:=oB.2 r1;refine A2 ⟨?_⟩;intros;refine du ?_;rw [hC];exact⟨by simp only [okN,dp1,dp2,dk1,dk4,dk5,dk6,dn6,dr1,bq,bd,aU,aZ,bH,bB,aS,aW],rfl⟩
  have dr1:=a9 r1;have sr1:=oB.1 r1;refine A2 ⟨?_⟩;intros;refine dQ ?_;cases z1:zp n.a n.b with
  |false =>
   rw [z1]at c1;refine D2 c1 c2 ⟨?_⟩;intros;refine du ?_;rw [hC];exact⟨by simp only [okN,dp1,dp2,dk1,dk4,dk5,dk6,dn6,dr1,z1,bq,bd,aU,aZ,bH,bB,aS,aW],rfl⟩
  |true =>
   rw [z1]at c1;cases z2:zp n.c n.e with
   |false =>
    rw [z2]at c2;refine D2 c1 c2 ⟨?_⟩;intros;refine du ?_;rw [hC];exact⟨by simp only [okN,dp1,dp2,dk1,dk4,dk5,dk6,dn6,dr1,z1,z2,bq,bd,aU,aZ,bH,bB,aS,aW],rfl⟩
   |true =>
    rw [z2]at c2;refine D2 c1 c2 ⟨?_⟩;intros;refine dQ ?_;by_cases o1:1≤n.op
    case neg =>
     have do1:=ab o1;refine A2 ⟨?_⟩;intros;refine du ?_;rw [hC];exact⟨by simp only [okN,dp1,dp2,dk1,dk4,dk5,dk6,dn6,dr1,z1,z2,do1,bq,bd,aU,aZ,bH,bB,aS,aW],rfl⟩
    have do1:=a9 o1;by_cases o2:n.op≤4
    case neg =>
     have do2:=ab o2;refine A2 ⟨?_⟩;intros;refine du ?_;rw [hC];exact⟨by simp only [okN,dp1,dp2,dk1,dk4,dk5,dk6,dn6,dr1,z1,z2,do1,do2,bq,bd,aU,aZ,bH,bB,aS,aW],rfl⟩
    have do2:=a9 o2;refine A2 ⟨?_⟩;intros;refine dQ ?_;refine A2 ⟨?_⟩;intros;refine dQ ?_;refine A2 ⟨?_⟩;intros;refine dQ ?_;refine A2 ⟨?_⟩;intros;exact gE _ _ jx (aF _) ⟨by simp only [okN,dp1,dp2,dk1,dk4,dk5,dk6,dn6,dr1,z1,z2,do1,do2,bq,bd,aU,aZ,bH,bB,aS,aW],rfl,rfl⟩
 have dk1:decide (n.k=1)=false:=ab om;have dk4:decide (n.k=4)=false:=ab om;have dk5:decide (n.k=5)=false:=ab om;have dk6:decide (n.k=6)=false:=ab om;have dn6:decide (n.k≠6)=true:=a9 om;by_cases r1:n.nm.length=0
 case neg =>
  have dr1:=ab r1;have sr1:=oB.2 r1;refine A2 ⟨?_⟩;intros;refine du ?_;rw [hC];exact⟨by simp only [okN,dp1,dp2,dk1,dk4,dk5,dk6,dn6,dr1,bq,bd,aU,aZ,bH,bB,aS,aW],rfl⟩
 have dr1:=a9 r1;have sr1:=oB.1 r1;refine A2 ⟨?_⟩;intros;refine dQ ?_;cases z1:zp n.a n.b with
 |false =>
  rw [z1]at c1;refine D2 c1 c2 ⟨?_⟩;intros;refine du ?_;rw [hC];exact⟨by simp only [okN,dp1,dp2,dk1,dk4,dk5,dk6,dn6,dr1,z1,bq,bd,aU,aZ,bH,bB,aS,aW],rfl⟩
 |true =>
  rw [z1]at c1;cases z2:zp n.c n.e with
  |false =>
   rw [z2]at c2;refine D2 c1 c2 ⟨?_⟩;intros;refine du ?_;rw [hC];exact⟨by simp only [okN,dp1,dp2,dk1,dk4,dk5,dk6,dn6,dr1,z1,z2,bq,bd,aU,aZ,bH,bB,aS,aW],rfl⟩
  |true =>
   rw [z2]at c2;refine D2 c1 c2 ⟨?_⟩;intros;refine dQ ?_;by_cases o1:n.op=0
   case neg =>
    have do1:=ab o1;refine A2 ⟨?_⟩;intros;refine du ?_;rw [hC];exact⟨by simp only [okN,dp1,dp2,dk1,dk4,dk5,dk6,dn6,dr1,z1,z2,do1,bq,bd,aU,aZ,bH,bB,aS,aW],rfl⟩
   have do1:=a9 o1;refine A2 ⟨?_⟩;intros;refine dQ ?_;by_cases y1:n.y=0
   case neg =>
    have dy1:=ab y1;refine A2 ⟨?_⟩;intros;refine du ?_;rw [hC];exact⟨by simp only [okN,dp1,dp2,dk1,dk4,dk5,dk6,dn6,dr1,z1,z2,do1,dy1,bq,bd,aU,aZ,bH,bB,aS,aW],rfl⟩
   have dy1:=a9 y1;refine A2 ⟨?_⟩;intros;refine dQ ?_;by_cases x1:n.x=0
   case neg =>
    have dx1:=ab x1;refine A2 ⟨?_⟩;intros;refine du ?_;rw [hC];exact⟨by simp only [okN,dp1,dp2,dk1,dk4,dk5,dk6,dn6,dr1,z1,z2,do1,dy1,dx1,bq,bd,aU,aZ,bH,bB,aS,aW],rfl⟩
   have dx1:=a9 x1;refine A2 ⟨?_⟩;intros;refine dQ ?_;refine A2 ⟨?_⟩;intros;exact gE _ _ jx (aF _) ⟨by simp only [okN,dp1,dp2,dk1,dk4,dk5,dk6,dn6,dr1,z1,z2,do1,dy1,dx1,bq,bd,aU,aZ,bH,bB,aS,aW],rfl,rfl⟩
end Go.Ab
