/- Texts laid one behind the other: RNum, Rev, FmtN, Fmt, Wrt, RPoint, Node. -/
import Derived.Test.YtpeidlcjlfkpcaaGreatDoorB33
set_option linter.all false
set_option maxHeartbeats 16000000
namespace Go.Ab
open Go.Proofs
variable [Base]
def IV (r:RQ):List UInt8:=if je r=true then fmt r.v else []
theorem LE {r:RQ}(h:je r=true):IV r=fmt r.v:=by unfold IV;rw [if_pos h]
theorem Dq {r:RQ}{L:Nat}(h:r.ok L):(IV r).length≤20*L+24:=by
 unfold IV;split
 ·have:=sj (qV h);omega
 ·simp
def Ky (l m:List UInt8) (i:Nat):Prop:=m.length=l.length∧∀p,p<l.length→m.getD p 0=if p<i∨l.length-i≤p then l.getD (l.length-1-p) 0 else l.getD p 0
theorem Io (l:List UInt8):Ky l l 0:=⟨rfl,fun p hp=>by rw [if_neg om]⟩
theorem Ip {l m:List UInt8}{i:Nat}(h:Ky l m i) (hi:i+1≤l.length-1-i):Ky l ((m.set i (m.getD (l.length-1-i) 0)).set (l.length-1-i) (m.getD i 0)) (i+1):=by
 obtain⟨h1,h2⟩:=h;refine⟨by rw [gG,gG,h1],fun p hp=>?_⟩;have ei:=h2 i om;have ej:=h2 (l.length-1-i) om;rw [if_neg om]at ei ej
 have g:∀(x:List UInt8) (k:Nat) (v:UInt8) (q:Nat),k<x.length→(x.set k v).getD q 0=if q=k then v else x.getD q 0:=fun x k v q hk=>by
  simp only [List.getD,List.getElem?_set];by_cases e:k=q
  ·subst e;simp [hk]
  ·simp [e,lG e]
 rw [g _ _ _ _ (by rw [gG];omega),g _ _ _ _ om,ei,ej];by_cases p1:p=l.length-1-i
 ·subst p1;rw [if_pos rfl,if_pos om];congr 1;omega
 ·rw [if_neg p1];by_cases p2:p=i
  ·subst p2;rw [if_pos rfl,if_pos om]
  ·rw [if_neg p2,h2 p hp];by_cases p3:p<i∨l.length-i≤p
   ·rw [if_pos p3,if_pos om]
   ·rw [if_neg p3,if_neg om]
theorem Kx {l m:List UInt8}{i:Nat}(h:Ky l m i) (hi:l.length≤2*i+1) (hi2:2*i≤l.length+1):m=l.reverse:=by
 obtain⟨h1,h2⟩:=h;apply qf;intro p;by_cases hp:p<l.length
 ·have h3:=h2 p hp;have hm:p<m.length:=by omega
  have e1:m[p]? = some (m.getD p 0):=by simp [List.getD,hm]
  rw [e1,h3,List.getElem?_reverse hp];have hl:l.length-1-p<l.length:=by omega
  by_cases p3:p<i∨l.length-i≤p
  ·rw [if_pos p3];simp [List.getD,hl]
  ·rw [if_neg p3];have:p=l.length-1-p:=by omega
   rw [←this];simp [List.getD,hp]
 ·rw [df om,df (by simp;omega)]
theorem HX {l:List UInt8}{rest:List SV}{i:Nat}(h:i<l.length):(bys l++rest)[i]? = some (lit (.int .u8 ((l.getD i 0).toNat:Nat))):=by
 rw [fD (by rw [mU];exact h)];simp [bys,List.getD,h]
theorem HW {l:List UInt8}{rest:List SV}{i:Nat}(h:i<l.length) (x:UInt8):spl (bys l++rest) i [lit (.int .u8 (x.toNat:Nat))]=bys (l.set i x)++rest:=by
 simp only [spl];rw [List.set_append_left _ _ (by rw [mU];exact h)];unfold bys;rw [List.map_set]
theorem HZ {l:List UInt8}{rest:List SV}{i:Nat}(h:i<l.length):Nat.ble (i+1) (bys l++rest).length=true:=by
 apply ly;rw [ac,mU];omega
theorem EP (b c:Nat) (l:List UInt8) (rest:List SV) (hl:l.length≤1000000000) :
  PuH Tryz.prog 336 [lit (.slice (some ⟨b,0,none⟩) l.length c)] [(b,5,bys l++rest)] (fun r H=>r=Ab.tup []∧H=[(b,5,bys l.reverse++rest)]) noX:=by
 refine PuH.intro Tryz.func336 rfl kr fun C hC=>?_
 refine A2 ⟨?_⟩;intros;refine WP.loopS (ι:=Nat×List UInt8) (fun x=>Ky l x.2 x.1∧2*x.1≤l.length+1) (fun x=>l.length-x.1) (fun x=>fm [(0,lit (.slice (some ⟨b,0,none⟩) l.length c)),(2,lit (.int .i64 x.1)),(3,lit (.int .i64 ((l.length:Int)-1-x.1)))]) (fun x=>[(b,5,bys x.2++rest)]) (0,l) ⟨Io l,om⟩ ?_ Sr ?_
 ·exact LeF.cons Lr (LeF.cons Lr (LeF.cons (Le.int (by simp)) (LeF.nil _)))
 ·rintro ⟨i,m⟩ ⟨hm,hi⟩ K hK;simp only at hi hm⊢;have hml:=hm.1;by_cases hc:(i:Int)<(l.length:Int)-1-i
  ·have ej:(l.length:Int)-1-i=((l.length-1-i:Nat):Int):=by omega
   rw [ej]at hc⊢;generalize hj:l.length-1-i=j at hc⊢;repeat(first|(refine AS ⟨?_⟩;intros)|(refine O1 ⟨?_⟩;intros))
   refine WdL 13 1 ?_;refine A2 ⟨?_⟩;intros;refine Wdo (eG rfl mmA (HX om)) ?_;refine A2 ⟨?_⟩;intros;refine Wdo (eG rfl mmA (HX om)) ?_;refine A2 ⟨?_⟩;intros;refine dL0 ?_;refine Gs (b:=b) (o:=i) (sv:=lit (.int .u8 ((m.getD j 0).toNat:Nat))) (cs':=bys (m.set i (m.getD j 0))++rest) rfl rfl rfl (.here _) (HW om _) (HZ om) ?_ ?_
   ·(repeat(first|exact LOk.nil|refine Lsk ?_|refine Lcv ?_))
   refine Gn ?_ ?_
   ·(repeat(first|exact LOk.nil|refine Lsk ?_|refine Lcv ?_))
   refine A2 ⟨?_⟩;intros;refine WPL.store (b:=b) (o:=j) (sv:=lit (.int .u8 ((m.getD i 0).toNat:Nat))) (cs':=bys ((m.set i (m.getD j 0)).set j (m.getD i 0))++rest) rfl rfl rfl (.here _) (HW (by rw [gG];omega) _) (HZ (by rw [gG];omega)) ?_;refine A2 ⟨?_⟩;intros;subst hj;refine hK _ _ (i+1,_) ⟨Ip hm om,om⟩ (by simp only;omega) ?_ Sr;exact LeF.cons Lr (LeF.cons (Le.int (by simp)) (LeF.cons (Le.int (by simp only;omega)) (LeF.nil _)))
  ·refine A2 ⟨?_⟩;intros;refine gB _ _ jv Sr ⟨rfl,?_⟩;rw [Kx hm om om]
theorem Rn (q m:Nat):q*10^(m+1)=10*(q*10^m):=by rw [bR,←aI,aE]
theorem RX {q r m:Nat}(h0:¬(q=0∧r=0)):mS (q*10^(m+1)+r)=UInt8.ofNat (48+r%10)::mS (q*10^m+r/10):=by
 have hp:0<10^m:=dc om;have e:=Rn q m;generalize hz:q*10^m=z at *
 have hne:q*10^(m+1)+r≠0:=by
  rw [e];intro h;have hz0:z=0:=by omega
  rw [←hz]at hz0;rcases pR.1 hz0 with h1|h1
  ·exact h0 ⟨h1,om⟩
  ·omega
 rw [v8 hne,e];congr 2
 ·omega
 ·omega
theorem Own.bytes {l:List UInt8}{s:SV}{H:LH}(hl:l.length≠0) (h:Own 5 1 l.length (bys l) s H):∃b c rest,s=lit (.slice (some ⟨b,0,none⟩) l.length c)∧H=[(b,5,bys l++rest)]:=by
 obtain⟨_,⟨e,_,_⟩|⟨b,c,_,_,rfl,rfl⟩⟩:=h
 ·exact absurd e hl
 ·exact⟨b,c,_,rfl,rfl⟩
theorem Ej (r:Nat):[lit (.int .u8 (48+((r%10:Nat):Int)))]=bys [UInt8.ofNat (48+r%10)]:=by
 have e2:(UInt8.ofNat (48+r%10)).toNat=48+r%10:=by rw [UInt8.toNat_ofNat'];omega
 show _=[lit (.int .u8 (((UInt8.ofNat (48+r%10)).toNat:Nat):Int))]
 rw [e2];rfl
theorem yQ (n:Nat){L:Nat}(hn:(dgs n).length≤L) (hL:L≤100000):Pu Tryz.prog 322 [nat n] (str (dec n)):=by
 have c0:=gj (dgs n) om (cu n);rw [aK]at c0;have hdl:=E9 hn;refine Pi Tryz.func322 fun C=>?_
 refine D1 c0 ⟨?_⟩;intros
 refine WP.loopS (ι:=Nat×List UInt8×SV×LH) (fun x=>x.2.1++mS x.1=mS n∧Own 5 1 x.2.1.length (bys x.2.1) x.2.2.1 x.2.2.2∧(dgs x.1).length≤L) (fun x=>x.1) (fun x=>fm [(0,nat x.1),(3,x.2.2.1)]) (fun x=>x.2.2.2) (n,[],lit (.slice none 0 0),[])
  ⟨by rw [a8],Own.nil _ _,hn⟩ lfA (av _) ?_
 rintro ⟨x,acc,s,Hs⟩ ⟨hx,hown,hxL⟩ K hK;simp only at hx hown hxL⊢;haveI:=hown.co
 by_cases hx0:x=0
 ·subst hx0;have e:(dgs 0).length=0:=by rw [bW];rfl
  rw [sw,bd]at hx;subst hx;clear hK
  have ed:(mS n).length=0↔n=0:=by
   constructor
   ·intro h;by_cases h0:n=0
    ·exact h0
    ·rw [v8 h0]at h;cases h
   ·rintro rfl;rw [sw];rfl
  by_cases h0:n=0
  ·have e2:=ed.2 h0;unfold dec;rw [if_pos h0];clear ed;refine A2 ⟨?_⟩;intros;refine Wo (bh hown rfl) ?_;exact Z1
  ·have e2:(mS n).length≠0:=fun h=>h0 (ed.1 h)
   unfold dec;rw [if_neg h0];obtain⟨b,c,rest,rfl,rfl⟩:=hown.bytes e2;clear ed;generalize hl:mS n=l at *;refine A2 ⟨?_⟩;intros;refine WfH (EP b c l rest om) ?_;rintro _ _ ⟨rfl,rfl⟩;simp only [ab,a8];refine A2 ⟨?_⟩;intros;refine Wo (Di (l:=l.reverse) (rest:=rest) (c:=c) kr (by rw [List.length_reverse];rfl) mmA (LeL.refl _)) ?_;exact Z1
 ·have e:=lV hx0;refine A2 ⟨?_⟩;intros;have c1:=A4 (dgs x) 1000000000 om (cu x) om om;rw [aK]at c1;have hq:(dgs (x/1000000000)).length≤L:=aU (cI (dw _ _)) hxL;have hfin:∀F' H' acc' s' Hs',acc'++mS (x/1000000000)=mS n→Own 5 1 acc'.length (bys acc') s' Hs'→LeF F' (fm [(0,nat (x/1000000000)),(3,s')])→Hs'.Sublist H'→K F' H':=fun F' H' acc' s' Hs' g1 g2 h1 h2=>hK F' H' (x/1000000000,acc',s',Hs') ⟨g1,g2,hq⟩ (by simp only;omega) h1 h2
  clear hK
  have hz:acc++mS (x/1000000000*10^(9-0)+x%1000000000)=mS n:=by
   rw [←hx];congr 2;omega
  have hr:x%1000000000<10^(9-0):=by
   show _<1000000000;omega
  generalize x%1000000000=r at *;generalize x/1000000000=q at *;refine D1 c1 ⟨?_⟩;intros
  refine WP.loopS (ι:=Nat×Nat×List UInt8×SV×LH) (fun y=>y.1≤9∧y.2.1<10^(9-y.1)∧y.2.2.1++mS (q*10^(9-y.1)+y.2.1)=mS n∧Own 5 1 y.2.2.1.length (bys y.2.2.1) y.2.2.2.1 y.2.2.2.2) (fun y=>9-y.1)
   (fun y=>fm [(0,nat q),(3,y.2.2.2.1),(4,lit (.int .u32 y.2.1)),(15,lit (.int .i64 y.1))]) (fun y=>y.2.2.2.2) (0,r,acc,s,Hs) ⟨om,hr,hz,hown⟩ lfA Sr ?_
  clear hr hz hown this hx c1;rintro ⟨k,r,acc,s,Hs⟩ ⟨hk,hr,hz,hown⟩ K2 hK2;simp only at hk hr hz hown⊢;haveI:=hown.co
  by_cases hk9:k=9
  ·subst hk9;have:r=0:=by simpa using hr
   subst this;rw [show q*10^(9-9)+0=q from by simp]at hz;clear hK2 hr;refine A2 ⟨?_⟩;intros;exact hfin _ _ acc s Hs hz hown lfA Sr
  ·obtain⟨m,hm⟩:∃m,9-k=m+1:=⟨8-k,om⟩
   have hm':9-(k+1)=m:=by omega
   rw [hm]at hr hz;have hrb:r<1000000000:=cQ hr (show 10^(m+1)≤10^9 from gN om om)
   have hal:acc.length≤10*L:=by
    have h2:=congrArg List.length hz;simp only [ac]at h2;omega
   by_cases hqr:q=0∧r=0
   ·obtain⟨rfl,rfl⟩:=hqr;have e:(dgs 0).length=0:=by rw [bW];rfl
    rw [bQ]at hz;clear hK2 hr;refine A2 ⟨?_⟩;intros;exact hfin _ _ acc s Hs hz hown lfA Sr
   ·rw [RX hqr]at hz
    have hr1:r/10<10^m:=by
     rw [bR]at hr;omega
    have hz1:(acc++[UInt8.ofNat (48+r%10)])++mS (q*10^m+r/10)=mS n:=by rw [←hz];simp
    have hfin2:∀F' H' s' Hs',Own 5 1 (acc.length+1) (bys acc++bys [UInt8.ofNat (48+r%10)]) s' Hs'→LeF F' (fm [(0,nat q),(3,s'),(4,lit (.int .u32 (r/10:Nat))),(15,lit (.int .i64 (k+1:Nat)))])→Hs'.Sublist H'→K2 F' H':=fun F' H' s' Hs' g h1 h2=>hK2 F' H' (k+1,r/10,acc++[UInt8.ofNat (48+r%10)],s',Hs') ⟨by simp only;omega,by simp only;rw [hm'];exact hr1,by simp only;rw [hm'];exact hz1,by simp only;rw [ac,tZ];exact g⟩ (by simp only;omega) h1 h2
    clear hK2 hz hz1 hr hfin;by_cases hq0:q=0
    ·have hr0:r≠0:=fun h=>hqr ⟨hq0,h⟩
     subst hq0;have e:(dgs 0).length=0:=by rw [bW];rfl
     clear hqr;refine A2 ⟨?_⟩;intros;refine ot hown om (fun s1 H1 o1=>?_);rw [Ej r]at o1;haveI:=o1.co
     have ht:(r:Int).tdiv 10=((r/10:Nat):Int):=(Int.ofNat_tdiv r 10).symm;refine A2 ⟨?_⟩;intros;exact hfin2 _ _ s1 H1 o1 lfA (fZ _ _)
    ·have e:=lV hq0;clear hqr;refine A2 ⟨?_⟩;intros;refine ot hown om (fun s1 H1 o1=>?_);rw [Ej r]at o1;haveI:=o1.co
     have ht:(r:Int).tdiv 10=((r/10:Nat):Int):=(Int.ofNat_tdiv r 10).symm;refine A2 ⟨?_⟩;intros;exact hfin2 _ _ s1 H1 o1 lfA (fZ _ _)
theorem FM (z:Int){L:Nat}(hz:il z≤L) (hL:L≤10000):Pu Tryz.prog 337 [int z] (str (if z<0 then [45]++dec z.natAbs else dec z.natAbs)):=by
 have e1:il z=(dgs z.natAbs).length:=rfl;have c:=uh (decide (z<0)) (dgs z.natAbs) om (cu _);rw [aK,iM]at c;have c1:=yQ z.natAbs (L:=L) om om;have hl:=v7 (n:=z.natAbs) (L:=L) om;generalize dec z.natAbs=s at *;have k1:([45]:List UInt8).length=1:=rfl;by_cases h:z<0
 ·rw [gf h]at c;rw [if_pos h];refine Pi Tryz.func337 fun C=>?_
  exact Y2 c c1
 ·obtain⟨hs,hs2⟩:0≤z.sign∧z.sign≤1:=by
   rcases iy z 0 with h0|h0|h0
   ·omega
   ·rw [h0];decide
   ·rw [fy h0];omega
  generalize z.sign=g at *;rw [if_neg h];refine Pi Tryz.func337 fun C=>?_
  exact Y2 c c1
theorem In (x:Rat) (h:ht x≤10000000):Pu Tryz.prog 338 [fr x] (lit (.bool (decide (x.den=1)))):=by
 have b1:=eh x;by_cases hs:dW x
 ·rw [kh hs];have h1:=hs.2;by_cases h2:x.den=1
  ·rw [a9 h2,h2];refine Pi Tryz.func338 fun C=>?_
   exact Z1
  ·rw [aa h2];have h3:=x.den_nz;refine Pi Tryz.func338 fun C=>?_
   exact Z1
 ·rw [sK hs];have c:=jf (dgs x.den) om (cu _);rw [aK]at c;have h1:=N7 (n:=x.den);by_cases h2:x.den=1
  ·have h3:=h1.2 h2;rw [a9 h2];refine Pi Tryz.func338 fun C=>?_
   exact Y1 c
  ·have h3:f5 x.den≠1:=fun h=>h2 (h1.1 h)
   rw [aa h2];refine Pi Tryz.func338 fun C=>?_
   exact Y1 c
theorem Ie (x:Rat){L:Nat}(hx:ht x≤L) (hL:L≤10000):Pu Tryz.prog 323 [fr x] (str (fmt x)):=by
 have n1:=ef x;have n2:=eh x;have a1:=oS x om;have a2:=qM x om;have a3:=In x om;have c1:=FM x.num (L:=L) om om;have c2:=yQ x.den (L:=L) om om;have l1:=v7 (n:=x.num.natAbs) (L:=L) (show il x.num≤L by omega);have l2:=v7 (n:=x.den) (L:=L) om;have k1:([45]:List UInt8).length=1:=rfl;have k2:([47]:List UInt8).length=1:=rfl;unfold fmt
 have l3:(if x.num<0 then [45]++dec x.num.natAbs else dec x.num.natAbs).length≤10*L+2:=by
  split
  ·rw [ac,k1];omega
  ·omega
 generalize(if x.num<0 then [45]++dec x.num.natAbs else dec x.num.natAbs)=D1 at *;generalize hD2:dec x.den=D2 at *;have k3:([47]++D2).length=D2.length+1:=by simp
 by_cases h2:x.den=1
 ·rw [if_pos h2,bd];rw [a9 h2]at a3;refine Pi Tryz.func323 fun C=>?_
  refine D5 a1 a2 a3 c1 c2 ⟨?_⟩;intros;exact E1
 ·rw [if_neg h2];rw [aa h2]at a3;refine Pi Tryz.func323 fun C=>?_
  refine D5 a1 a2 a3 c1 c2 ⟨?_⟩;intros;exact E1
theorem FL (x:Rat){L:Nat}(hx:ht x≤L) (hL:L≤10000):Pu Tryz.prog 301 [q x] (str (fmt x)):=by
 have n1:=ef x;have n2:=eh x;have e1:il x.num=(dgs x.num.natAbs).length:=rfl;have c1:=LD (decide (x.num<0)) (dgs x.num.natAbs) (dgs x.den) om om (cu _) (cu _);rw [aK,aK,iM,io]at c1;have c2:=Ie x hx hL;refine Pi Tryz.func301 fun C=>?_
 exact Y2 c1 c2
def Wtr (w:Nat) (l:List UInt8) (d:Nat) (H:LH):Prop:=∃a s Hb,(a=wG∨a=vO w)∧Byt l s Hb∧H=(w,307,wrC a s d false)::Hb
theorem jR {w b d:Nat}{l:List UInt8}{H:LH}(h:Wtr w l d H) (t:List UInt8) (hl:l.length+t.length≤1000000000) :
  PuH Tryz.prog 217 [lit (.pointer (some ⟨w,0,none⟩)),lit (.slice (some ⟨b,0,none⟩) 1 1)] ((b,9,[str t])::H) (fun r H'=>r=Ab.tup []∧Wtr w (l++t) d H') noX:=by
 obtain⟨a,s,Hb,ha,hb,rfl⟩:=h
 exact(GE ha hb t hl d false).mono (fun r H'=>by
  rintro ⟨s',Hb',hb',rfl,rfl⟩;exact⟨rfl,_,_,_, .inr rfl,hb',rfl⟩) fun _ _ h=>h
theorem B3 (w n:Nat) (hn:(dgs n).length≤300):PuH Tryz.prog 300 [lit (.pointer (some ⟨w,0,none⟩)),nat n] [] (fun r H'=>r=Ab.tup []∧H'=[]) noX:=by
 have c:=jf (dgs n) om (cu _);have hb:=zw (cu n);rw [aK]at c hb;refine PuH.intro Tryz.func300 rfl kr fun C hC=>?_
 refine D1 c ⟨?_⟩;intros;exact gB _ _ jv Sr ⟨rfl,rfl⟩
theorem wy {w d:Nat}{l:List UInt8}{H:LH}(h:Wtr w l d H) (r:RQ){L:Nat}(hr:r.ok L) (hL:L≤200) (hl:l.length≤100000000) :
  PuH Tryz.prog 280 [lit (.pointer (some ⟨w,0,none⟩)),qr r] H (fun r' H'=>je r=true∧r'=Ab.tup []∧Wtr w (l++fmt r.v) d H') (fun pv _=>je r=false∧pv=inval):=by
 have c0:=FN hr om
 have c1:Pu Tryz.prog 299 [qr r] (lit (.bool (je r))):=by
  refine Pi Tryz.func299 fun C=>?_
  exact Y1 c0
 clear c0;have hht:=qV hr;cases hn:je r with
 |false =>
  rw [hn]at c1;refine PuH.intro Tryz.func280 rfl kr fun C hC=>?_
  refine D1 c1 ⟨?_⟩;intros;refine dr ?_;rw [hC];exact⟨rfl,rfl⟩
 |true =>
  rw [hn]at c1;rw [Rk hn]at c1⊢;have n1:=ef r.v;have n2:=eh r.v;have e1:il r.v.num=(dgs r.v.num.natAbs).length:=rfl;have c2:=FL r.v hht om;have hf:=sj hht;generalize r.v=x at *;refine PuH.intro Tryz.func280 rfl kr fun C hC=>?_
  refine D1 c1 ⟨?_⟩;intros;refine dR ?_;refine A2 ⟨?_⟩;intros;refine WfH (B3 w x.num.natAbs om) ?_;rintro _ _ ⟨rfl,rfl⟩;simp only [ab,a8];refine A2 ⟨?_⟩;intros;refine WfH (B3 w x.den om) ?_;rintro _ _ ⟨rfl,rfl⟩;simp only [ab,a8];refine D1 c2 ⟨?_⟩;intros;refine WfH (jR h (fmt x) om) ?_;rintro _ _ ⟨rfl,h'⟩;refine A2 ⟨?_⟩;intros;exact gB _ _ jv (iS _ _) ⟨by trivial,rfl,h'⟩
def zG (a b:RQ):List UInt8:=[40]++fmt a.v++[44]++fmt b.v++[41]
theorem uv {a b:RQ}{L:Nat}(ha:a.ok L) (hb:b.ok L):(zG a b).length≤40*L+60:=by
 have h1:=sj (qV ha);have h2:=sj (qV hb);unfold zG;simp only [ac,aF,bq];omega
theorem D8 {w d:Nat}{l:List UInt8}{H:LH}(h:Wtr w l d H) (a b:RQ){L:Nat}(ha:a.ok L) (hb:b.ok L) (hL:L≤200) (hl:l.length≤90000000) :
  PuH Tryz.prog 259 [lit (.pointer (some ⟨w,0,none⟩)),pr a b] H (fun r' H'=>(je a&&je b)=true∧r'=Ab.tup []∧Wtr w (l++zG a b) d H') (fun pv _=>(je a&&je b)=false∧pv=inval):=by
 have h1:=sj (qV ha);have h2:=sj (qV hb);have k1:([40]:List UInt8).length=1:=rfl;have k2:([44]:List UInt8).length=1:=rfl;have k3:([41]:List UInt8).length=1:=rfl;refine PuH.intro Tryz.func259 rfl kr fun C hC=>?_
 refine A2 ⟨?_⟩;intros;refine WfH (jR h [40] om) ?_;rintro _ _ ⟨rfl,g1⟩;refine WPL.perm aG ?_;simp only [ab,a8];refine A2 ⟨?_⟩;intros;refine WfX (wy g1 a ha hL (by rw [ac];omega)) ?_ ?_
 ·rintro _ _ ⟨n1,rfl,g2⟩;simp only [ab,a8];refine A2 ⟨?_⟩;intros
  have hl2:(l++[40]++fmt a.v).length≤l.length+20*(L+1)+5:=by
   rw [ac,ac];omega
  refine WfH (jR g2 [44] om) ?_;rintro _ _ ⟨rfl,g3⟩;refine WPL.perm aG ?_;simp only [ab,a8];refine A2 ⟨?_⟩;intros;refine WfX (wy g3 b hb hL (by rw [ac];omega)) ?_ ?_
  ·rintro _ _ ⟨n2,rfl,g4⟩;simp only [ab,a8];refine A2 ⟨?_⟩;intros;refine WfH (jR g4 [41] (by rw [ac,ac];omega)) ?_;rintro _ _ ⟨rfl,g5⟩;refine A2 ⟨?_⟩;intros;exact gB _ _ jv (iS _ _) ⟨by rw [n1,n2];rfl,rfl,by simpa only [zG,ax] using g5⟩
  ·rintro _ _ ⟨n2,rfl⟩;rw [hC];exact⟨by rw [n1,n2];rfl,rfl⟩
 ·rintro _ _ ⟨n1,rfl⟩;rw [hC];exact⟨by rw [n1];rfl,rfl⟩
def Ad (a b c e:RQ):List UInt8:=[32]++zG a b++([32]++zG c e)
theorem IC {w d bp:Nat}{l:List UInt8}{H:LH}(h:Wtr w l d H) (a b c e:RQ){L:Nat}(ha:a.ok L) (hb:b.ok L) (hc:c.ok L) (he:e.ok L) (hL:L≤200) (hl:l.length≤80000000) :
  PuH Tryz.prog 218 [lit (.pointer (some ⟨w,0,none⟩)),lit (.slice (some ⟨bp,0,none⟩) 2 2)]
   ((bp,66,[lit (.bool a.s),dg a.n,dg a.d,lit (.bool b.s),dg b.n,dg b.d,lit (.bool c.s),dg c.n,dg c.d,lit (.bool e.s),dg e.n,dg e.d])::H)
   (fun r' H'=>(je a&&je b&&(je c&&je e))=true∧r'=Ab.tup []∧Wtr w (l++Ad a b c e) d H') (fun pv _=>(je a&&je b&&(je c&&je e))=false∧pv=inval):=by
 have h1:=uv ha hb;have h2:=uv hc he;have k1:([32]:List UInt8).length=1:=rfl;refine PuH.intro Tryz.func218 rfl kr fun C hC=>?_
 refine A2 ⟨?_⟩;intros;refine dR ?_;refine A2 ⟨?_⟩;intros;refine WP.unroll 3 ?_;refine WPR.succ ?_;refine A2 ⟨?_⟩;intros;refine WfH (jR h [32] om) ?_;rintro _ _ ⟨rfl,g1⟩;refine WPL.perm aG ?_;simp only [ab,a8];refine A2 ⟨?_⟩;intros;refine WfX (D8 g1 a b ha hb hL (by rw [ac];omega)) ?_ ?_
 ·rintro _ _ ⟨n1,rfl,g2⟩;simp only [ab,a8];refine A2 ⟨?_⟩;intros
  have hl2:(l++[32]++zG a b).length=l.length+1+(zG a b).length:=by
   rw [ac,ac];omega
  refine WfH (jR g2 [32] om) ?_;rintro _ _ ⟨rfl,g3⟩;refine WPL.perm aG ?_;simp only [ab,a8];refine A2 ⟨?_⟩;intros;refine WfX (D8 g3 c e hc he hL (by rw [ac];omega)) ?_ ?_
  ·rintro _ _ ⟨n2,rfl,g4⟩;simp only [ab,a8];refine A2 ⟨?_⟩;intros;refine gB _ _ jv ?_ ⟨by rw [n1,n2];rfl,rfl,by simpa only [Ad,ax] using g4⟩;repeat(first|exact Sr|refine Sc ?_)
  ·rintro _ _ ⟨n2,rfl⟩;rw [hC];exact⟨by rw [n1,n2];rfl,rfl⟩
 ·rintro _ _ ⟨n1,rfl⟩;rw [hC];exact⟨by rw [n1];rfl,rfl⟩
def rpT (a b:RQ):List UInt8:=[40]++IV a++[44]++IV b++[41]
theorem CM {a b:RQ}(h:(je a&&je b)=true):rpT a b=zG a b:=by
 rw [bG]at h;unfold rpT zG;rw [LE h.1,LE h.2]
theorem Gw {a b:RQ}{L:Nat}(ha:a.ok L) (hb:b.ok L):(rpT a b).length≤40*L+60:=by
 have h1:=Dq ha;have h2:=Dq hb;unfold rpT;simp only [ac,aF,bq];omega
structure Nd where
 k:Int
 nm:List UInt8
 a:RQ
 b:RQ
 c:RQ
 e:RQ
 op:Int
 x:Int
 y:Int
 ln:Int
 cl:Int
def Jg (z:Int):Prop := -9223372036854775808≤z∧z≤9223372036854775807
abbrev ndx (n:Nd):List SV:=[lit (.int .i64 n.k),str n.nm,lit (.bool n.a.s),dg n.a.n,dg n.a.d,lit (.bool n.b.s),dg n.b.n,dg n.b.d,lit (.bool n.c.s),dg n.c.n,dg n.c.d,lit (.bool n.e.s),dg n.e.n,dg n.e.d,lit (.int .i64 n.op),lit (.int .i64 n.x),lit (.int .i64 n.y),lit (.int .i64 n.ln),lit (.int .i64 n.cl)]
structure Nd.ok (L:Nat) (n:Nd):Prop where
 a:n.a.ok L
 b:n.b.ok L
 c:n.c.ok L
 e:n.e.ok L
 nm:n.nm.length≤100
def zq (r:RQ):Bool := !r.s&&decide (r.n.length=0)&&decide (r.d.length=0)
def zp (a b:RQ):Bool:=zq a&&zq b
def okN (n:Nd):Bool :=
 (decide (1≤n.k)&&decide (n.k≤6))&&(decide (n.k=1)||decide (n.nm.length=0))&&(decide (n.k=4)||(zp n.a n.b&&zp n.c n.e))&&((decide (n.k=6)&&decide (1≤n.op)&&decide (n.op≤4))||(decide (n.k≠6)&&decide (n.op=0)))&&(decide (n.k=6)||decide (n.y=0))&&((decide (n.k=6)||decide (n.k=5))||decide (n.x=0))
theorem xN (r:RQ){L:Nat}(h:r.ok L) (hL:L≤1000):Pu Tryz.prog 278 [qr r] (lit (.bool (zq r))):=by
 obtain⟨_,_,h1,h2⟩:=h;show Pu _ _ [ag [lit (.bool r.s),dg r.n,dg r.d]] _
 cases hs:r.s with
 |true =>
  rw [show zq r=false from by unfold zq;rw [hs];rfl];refine Pi Tryz.func278 fun C=>?_
  exact Z1
 |false =>
  by_cases hn:r.n.length=0∧r.d.length=0
  ·obtain⟨hn1,hn2⟩:=hn;rw [show zq r=true from by unfold zq;rw [hs,a9 hn1,a9 hn2];rfl];refine Pi Tryz.func278 fun C=>?_
   exact Z1
  ·rw [show zq r=false from by unfold zq;rw [hs,sO,aX,←Bool.decide_and];exact aa hn];have hn':r.n.length+r.d.length≠0:=by omega
   clear hn;refine Pi Tryz.func278 fun C=>?_
   exact Z1
theorem u4 (a b:RQ){L:Nat}(ha:a.ok L) (hb:b.ok L) (hL:L≤1000):Pu Tryz.prog 255 [pr a b] (lit (.bool (zp a b))):=by
 have c1:=xN a ha hL;have c2:=xN b hb hL;unfold zp;cases hs:zq a with
 |true =>
  rw [hs]at c1;refine Pi Tryz.func255 fun C=>?_
  exact Y2 c1 c2
 |false =>
  rw [hs]at c1;refine Pi Tryz.func255 fun C=>?_
  exact Y2 c1 c2
theorem GB (n:Nd):Pu Tryz.prog 222 [ag (ndx n)] (lit (.int .i64 (if n.k=6 then(if n.op=2 then 2 else 1)else 3))):=by
 by_cases h1:n.k=6
 ·rw [if_pos h1];by_cases h2:n.op=2
  ·rw [if_pos h2];refine Pi Tryz.func222 fun C=>?_
   exact Z1
  ·rw [if_neg h2];refine Pi Tryz.func222 fun C=>?_
   exact Z1
 ·rw [if_neg h1];refine Pi Tryz.func222 fun C=>?_
  exact Z1
theorem oD {l:List UInt8}:(l.length=0→l=[])∧(l.length≠0→¬l=[]) :=
 ⟨fun h=>cT h,fun h e=>h (by rw [e];rfl)⟩
theorem Cf (n:Nd){L:Nat}(h:n.ok L) (hL:L≤1000):PuH Tryz.prog 215 [ag (ndx n)] [] (fun r H=>okN n=true∧r=Ab.tup []∧H=[]) (fun pv _=>okN n=false∧pv=inval):=by
 have c1:=u4 n.a n.b h.a h.b hL;have c2:=u4 n.c n.e h.c h.e hL;clear h;refine PuH.intro Tryz.func215 rfl kr fun C hC=>?_
 by_cases p1:1≤n.k
 case neg =>
  have dp1:=aa p1;refine A2 ⟨?_⟩;intros;refine dr ?_;rw [hC];exact⟨by simp only [okN,dp1,bo,aX,aS,aZ,bB,bs,aQ,aW],rfl⟩
 have dp1:=a9 p1;by_cases p2:n.k≤6
 case neg =>
  have dp2:=aa p2;refine A2 ⟨?_⟩;intros;refine dr ?_;rw [hC];exact⟨by simp only [okN,dp1,dp2,bo,aX,aS,aZ,bB,bs,aQ,aW],rfl⟩
 have dp2:=a9 p2;refine A2 ⟨?_⟩;intros;refine dR ?_;by_cases q1:n.k=1
 case pos =>
  have dk1:decide (n.k=1)=true:=a9 om;have dk4:decide (n.k=4)=false:=aa om;have dk5:decide (n.k=5)=false:=aa om;have dk6:decide (n.k=6)=false:=aa om;have dn6:decide (n.k≠6)=true:=a9 om;refine A2 ⟨?_⟩;intros;refine dR ?_;cases z1:zp n.a n.b with
  |false =>
   rw [z1]at c1;refine D2 c1 c2 ⟨?_⟩;intros;refine dr ?_;rw [hC];exact⟨by simp only [okN,dp1,dp2,dk1,dk4,dk5,dk6,dn6,z1,bo,aX,aS,aZ,bB,bs,aQ,aW],rfl⟩
  |true =>
   rw [z1]at c1;cases z2:zp n.c n.e with
   |false =>
    rw [z2]at c2;refine D2 c1 c2 ⟨?_⟩;intros;refine dr ?_;rw [hC];exact⟨by simp only [okN,dp1,dp2,dk1,dk4,dk5,dk6,dn6,z1,z2,bo,aX,aS,aZ,bB,bs,aQ,aW],rfl⟩
   |true =>
    rw [z2]at c2;refine D2 c1 c2 ⟨?_⟩;intros;refine dR ?_;by_cases o1:n.op=0
    case neg =>
     have do1:=aa o1;refine A2 ⟨?_⟩;intros;refine dr ?_;rw [hC];exact⟨by simp only [okN,dp1,dp2,dk1,dk4,dk5,dk6,dn6,z1,z2,do1,bo,aX,aS,aZ,bB,bs,aQ,aW],rfl⟩
    have do1:=a9 o1;refine A2 ⟨?_⟩;intros;refine dR ?_;by_cases y1:n.y=0
    case neg =>
     have dy1:=aa y1;refine A2 ⟨?_⟩;intros;refine dr ?_;rw [hC];exact⟨by simp only [okN,dp1,dp2,dk1,dk4,dk5,dk6,dn6,z1,z2,do1,dy1,bo,aX,aS,aZ,bB,bs,aQ,aW],rfl⟩
    have dy1:=a9 y1;refine A2 ⟨?_⟩;intros;refine dR ?_;by_cases x1:n.x=0
    case neg =>
     have dx1:=aa x1;refine A2 ⟨?_⟩;intros;refine dr ?_;rw [hC];exact⟨by simp only [okN,dp1,dp2,dk1,dk4,dk5,dk6,dn6,z1,z2,do1,dy1,dx1,bo,aX,aS,aZ,bB,bs,aQ,aW],rfl⟩
    have dx1:=a9 x1;refine A2 ⟨?_⟩;intros;refine dR ?_;refine A2 ⟨?_⟩;intros;exact gB _ _ jv (av _) ⟨by simp only [okN,dp1,dp2,dk1,dk4,dk5,dk6,dn6,z1,z2,do1,dy1,dx1,bo,aX,aS,aZ,bB,bs,aQ,aW],rfl,rfl⟩
 by_cases q4:n.k=4
 case pos =>
  have dk1:decide (n.k=1)=false:=aa om;have dk4:decide (n.k=4)=true:=a9 om;have dk5:decide (n.k=5)=false:=aa om;have dk6:decide (n.k=6)=false:=aa om;have dn6:decide (n.k≠6)=true:=a9 om;by_cases r1:n.nm.length=0
  case neg =>
   have dr1:=aa r1;have sr1:=oD.2 r1;refine A2 ⟨?_⟩;intros;refine dr ?_;rw [hC];exact⟨by simp only [okN,dp1,dp2,dk1,dk4,dk5,dk6,dn6,dr1,bo,aX,aS,aZ,bB,bs,aQ,aW],rfl⟩
  have dr1:=a9 r1;have sr1:=oD.1 r1;refine A2 ⟨?_⟩;intros;refine dR ?_;refine D2 c1 c2 ⟨?_⟩;intros;refine dR ?_;by_cases o1:n.op=0
  case neg =>
   have do1:=aa o1;refine A2 ⟨?_⟩;intros;refine dr ?_;rw [hC];exact⟨by simp only [okN,dp1,dp2,dk1,dk4,dk5,dk6,dn6,dr1,do1,bo,aX,aS,aZ,bB,bs,aQ,aW],rfl⟩
  have do1:=a9 o1;refine A2 ⟨?_⟩;intros;refine dR ?_;by_cases y1:n.y=0
  case neg =>
   have dy1:=aa y1;refine A2 ⟨?_⟩;intros;refine dr ?_;rw [hC];exact⟨by simp only [okN,dp1,dp2,dk1,dk4,dk5,dk6,dn6,dr1,do1,dy1,bo,aX,aS,aZ,bB,bs,aQ,aW],rfl⟩
  have dy1:=a9 y1;refine A2 ⟨?_⟩;intros;refine dR ?_;by_cases x1:n.x=0
  case neg =>
   have dx1:=aa x1;refine A2 ⟨?_⟩;intros;refine dr ?_;rw [hC];exact⟨by simp only [okN,dp1,dp2,dk1,dk4,dk5,dk6,dn6,dr1,do1,dy1,dx1,bo,aX,aS,aZ,bB,bs,aQ,aW],rfl⟩
  have dx1:=a9 x1;refine A2 ⟨?_⟩;intros;refine dR ?_;refine A2 ⟨?_⟩;intros;exact gB _ _ jv (av _) ⟨by simp only [okN,dp1,dp2,dk1,dk4,dk5,dk6,dn6,dr1,do1,dy1,dx1,bo,aX,aS,aZ,bB,bs,aQ,aW],rfl,rfl⟩
 by_cases q5:n.k=5
 case pos =>
  have dk1:decide (n.k=1)=false:=aa om;have dk4:decide (n.k=4)=false:=aa om;have dk5:decide (n.k=5)=true:=a9 om;have dk6:decide (n.k=6)=false:=aa om;have dn6:decide (n.k≠6)=true:=a9 om;by_cases r1:n.nm.length=0
  case neg =>
   have dr1:=aa r1;have sr1:=oD.2 r1;refine A2 ⟨?_⟩;intros;refine dr ?_;rw [hC];exact⟨by simp only [okN,dp1,dp2,dk1,dk4,dk5,dk6,dn6,dr1,bo,aX,aS,aZ,bB,bs,aQ,aW],rfl⟩
  have dr1:=a9 r1;have sr1:=oD.1 r1;refine A2 ⟨?_⟩;intros;refine dR ?_;cases z1:zp n.a n.b with
  |false =>
   rw [z1]at c1;refine D2 c1 c2 ⟨?_⟩;intros;refine dr ?_;rw [hC];exact⟨by simp only [okN,dp1,dp2,dk1,dk4,dk5,dk6,dn6,dr1,z1,bo,aX,aS,aZ,bB,bs,aQ,aW],rfl⟩
  |true =>
   rw [z1]at c1;cases z2:zp n.c n.e with
   |false =>
    rw [z2]at c2;refine D2 c1 c2 ⟨?_⟩;intros;refine dr ?_;rw [hC];exact⟨by simp only [okN,dp1,dp2,dk1,dk4,dk5,dk6,dn6,dr1,z1,z2,bo,aX,aS,aZ,bB,bs,aQ,aW],rfl⟩
   |true =>
    rw [z2]at c2;refine D2 c1 c2 ⟨?_⟩;intros;refine dR ?_;by_cases o1:n.op=0
    case neg =>
     have do1:=aa o1;refine A2 ⟨?_⟩;intros;refine dr ?_;rw [hC];exact⟨by simp only [okN,dp1,dp2,dk1,dk4,dk5,dk6,dn6,dr1,z1,z2,do1,bo,aX,aS,aZ,bB,bs,aQ,aW],rfl⟩
    have do1:=a9 o1;refine A2 ⟨?_⟩;intros;refine dR ?_;by_cases y1:n.y=0
    case neg =>
     have dy1:=aa y1;refine A2 ⟨?_⟩;intros;refine dr ?_;rw [hC];exact⟨by simp only [okN,dp1,dp2,dk1,dk4,dk5,dk6,dn6,dr1,z1,z2,do1,dy1,bo,aX,aS,aZ,bB,bs,aQ,aW],rfl⟩
    have dy1:=a9 y1;refine A2 ⟨?_⟩;intros;refine dR ?_;refine A2 ⟨?_⟩;intros;refine dR ?_;refine A2 ⟨?_⟩;intros;exact gB _ _ jv (av _) ⟨by simp only [okN,dp1,dp2,dk1,dk4,dk5,dk6,dn6,dr1,z1,z2,do1,dy1,bo,aX,aS,aZ,bB,bs,aQ,aW],rfl,rfl⟩
 by_cases q6:n.k=6
 case pos =>
  have dk1:decide (n.k=1)=false:=aa om;have dk4:decide (n.k=4)=false:=aa om;have dk5:decide (n.k=5)=false:=aa om;have dk6:decide (n.k=6)=true:=a9 om;have dn6:decide (n.k≠6)=false:=aa om;by_cases r1:n.nm.length=0
  case neg =>
   have dr1:=aa r1;have sr1:=oD.2 r1;refine A2 ⟨?_⟩;intros;refine dr ?_;rw [hC];exact⟨by simp only [okN,dp1,dp2,dk1,dk4,dk5,dk6,dn6,dr1,bo,aX,aS,aZ,bB,bs,aQ,aW],rfl⟩
  have dr1:=a9 r1;have sr1:=oD.1 r1;refine A2 ⟨?_⟩;intros;refine dR ?_;cases z1:zp n.a n.b with
  |false =>
   rw [z1]at c1;refine D2 c1 c2 ⟨?_⟩;intros;refine dr ?_;rw [hC];exact⟨by simp only [okN,dp1,dp2,dk1,dk4,dk5,dk6,dn6,dr1,z1,bo,aX,aS,aZ,bB,bs,aQ,aW],rfl⟩
  |true =>
   rw [z1]at c1;cases z2:zp n.c n.e with
   |false =>
    rw [z2]at c2;refine D2 c1 c2 ⟨?_⟩;intros;refine dr ?_;rw [hC];exact⟨by simp only [okN,dp1,dp2,dk1,dk4,dk5,dk6,dn6,dr1,z1,z2,bo,aX,aS,aZ,bB,bs,aQ,aW],rfl⟩
   |true =>
    rw [z2]at c2;refine D2 c1 c2 ⟨?_⟩;intros;refine dR ?_;by_cases o1:1≤n.op
    case neg =>
     have do1:=aa o1;refine A2 ⟨?_⟩;intros;refine dr ?_;rw [hC];exact⟨by simp only [okN,dp1,dp2,dk1,dk4,dk5,dk6,dn6,dr1,z1,z2,do1,bo,aX,aS,aZ,bB,bs,aQ,aW],rfl⟩
    have do1:=a9 o1;by_cases o2:n.op≤4
    case neg =>
     have do2:=aa o2;refine A2 ⟨?_⟩;intros;refine dr ?_;rw [hC];exact⟨by simp only [okN,dp1,dp2,dk1,dk4,dk5,dk6,dn6,dr1,z1,z2,do1,do2,bo,aX,aS,aZ,bB,bs,aQ,aW],rfl⟩
    have do2:=a9 o2;refine A2 ⟨?_⟩;intros;refine dR ?_;refine A2 ⟨?_⟩;intros;refine dR ?_;refine A2 ⟨?_⟩;intros;refine dR ?_;refine A2 ⟨?_⟩;intros;exact gB _ _ jv (av _) ⟨by simp only [okN,dp1,dp2,dk1,dk4,dk5,dk6,dn6,dr1,z1,z2,do1,do2,bo,aX,aS,aZ,bB,bs,aQ,aW],rfl,rfl⟩
 have dk1:decide (n.k=1)=false:=aa om;have dk4:decide (n.k=4)=false:=aa om;have dk5:decide (n.k=5)=false:=aa om;have dk6:decide (n.k=6)=false:=aa om;have dn6:decide (n.k≠6)=true:=a9 om;by_cases r1:n.nm.length=0
 case neg =>
  have dr1:=aa r1;have sr1:=oD.2 r1;refine A2 ⟨?_⟩;intros;refine dr ?_;rw [hC];exact⟨by simp only [okN,dp1,dp2,dk1,dk4,dk5,dk6,dn6,dr1,bo,aX,aS,aZ,bB,bs,aQ,aW],rfl⟩
 have dr1:=a9 r1;have sr1:=oD.1 r1;refine A2 ⟨?_⟩;intros;refine dR ?_;cases z1:zp n.a n.b with
 |false =>
  rw [z1]at c1;refine D2 c1 c2 ⟨?_⟩;intros;refine dr ?_;rw [hC];exact⟨by simp only [okN,dp1,dp2,dk1,dk4,dk5,dk6,dn6,dr1,z1,bo,aX,aS,aZ,bB,bs,aQ,aW],rfl⟩
 |true =>
  rw [z1]at c1;cases z2:zp n.c n.e with
  |false =>
   rw [z2]at c2;refine D2 c1 c2 ⟨?_⟩;intros;refine dr ?_;rw [hC];exact⟨by simp only [okN,dp1,dp2,dk1,dk4,dk5,dk6,dn6,dr1,z1,z2,bo,aX,aS,aZ,bB,bs,aQ,aW],rfl⟩
  |true =>
   rw [z2]at c2;refine D2 c1 c2 ⟨?_⟩;intros;refine dR ?_;by_cases o1:n.op=0
   case neg =>
    have do1:=aa o1;refine A2 ⟨?_⟩;intros;refine dr ?_;rw [hC];exact⟨by simp only [okN,dp1,dp2,dk1,dk4,dk5,dk6,dn6,dr1,z1,z2,do1,bo,aX,aS,aZ,bB,bs,aQ,aW],rfl⟩
   have do1:=a9 o1;refine A2 ⟨?_⟩;intros;refine dR ?_;by_cases y1:n.y=0
   case neg =>
    have dy1:=aa y1;refine A2 ⟨?_⟩;intros;refine dr ?_;rw [hC];exact⟨by simp only [okN,dp1,dp2,dk1,dk4,dk5,dk6,dn6,dr1,z1,z2,do1,dy1,bo,aX,aS,aZ,bB,bs,aQ,aW],rfl⟩
   have dy1:=a9 y1;refine A2 ⟨?_⟩;intros;refine dR ?_;by_cases x1:n.x=0
   case neg =>
    have dx1:=aa x1;refine A2 ⟨?_⟩;intros;refine dr ?_;rw [hC];exact⟨by simp only [okN,dp1,dp2,dk1,dk4,dk5,dk6,dn6,dr1,z1,z2,do1,dy1,dx1,bo,aX,aS,aZ,bB,bs,aQ,aW],rfl⟩
   have dx1:=a9 x1;refine A2 ⟨?_⟩;intros;refine dR ?_;refine A2 ⟨?_⟩;intros;exact gB _ _ jv (av _) ⟨by simp only [okN,dp1,dp2,dk1,dk4,dk5,dk6,dn6,dr1,z1,z2,do1,dy1,dx1,bo,aX,aS,aZ,bB,bs,aQ,aW],rfl,rfl⟩
end Go.Ab
