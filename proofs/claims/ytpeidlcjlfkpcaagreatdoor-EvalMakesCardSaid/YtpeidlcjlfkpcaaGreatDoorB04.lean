/- Texts laid one behind the other: NatE, NatF, RefC, Int, IntB, RefD. -/
import Derived.Test.YtpeidlcjlfkpcaaGreatDoorB03
set_option linter.all false
set_option maxHeartbeats 16000000
namespace Go.Ab
open Go.Proofs
variable [Base]
theorem Id {vo va vb p c c' x y d:Nat}(h:vo+vb=va+p*c) (hd:d+4294967296*c'=x+c+y):vo+p*x+(vb+p*y)=va+p*d+p*4294967296*c':=by
 have:=congrArg (fun t=>p*t) hd;simp only [aM,←aI]at this;omega
theorem LX (a b:Nat) (hab:b≤a) (hl:(dgs a).length≤100000000):Pu Tryz.prog 316 [nat a,nat b] (nat (a-b)):=by
 have hP:=cu a;have hQ:=cu b;have hqp:=cI hab;have hva:=aK a;have hvb:=aK b;show Pu _ _ [dg (dgs a),dg (dgs b)] _
 generalize dgs a=p at *;generalize dgs b=q at *;refine Pi Tryz.func316 fun C=>?_
 refine A2 ⟨?_⟩;intros;refine vn p.length rfl rfl om om fun bb=>?_
 refine A2 ⟨?_⟩;intros
 refine WP.loop (ι:=Nat×Nat×List Nat) (fun s=>s.1≤p.length∧s.2.1≤1∧s.2.2.length=p.length∧D s.2.2∧val (s.2.2.take s.1)+val (q.take s.1)=val (p.take s.1)+4294967296^s.1*s.2.1) (fun s=>p.length-s.1)
  (fun s=>fm [(1,dg q),(5,lit (.slice (some ⟨bb,0,none⟩) p.length p.length)),(6,lit (.int .u64 s.2.1)),(14,dg p),(15,lit (.int .i64 p.length)),(16,lit (.int .i64 s.1))])
  (fun s=>[(bb,192,bC s.2.2)]) (0,0,List.replicate p.length 0) ⟨an _,an _,by simp,D.rep _,by simp [val]⟩ lfA rfl ?_
 rintro ⟨k,c,os⟩ ⟨hk,hc,hol,hO,hval⟩ K hK;simp only at hk hc hol hO hval⊢;have hp:=hP.get k;have hq:=hQ.get k;by_cases hkl:k<p.length
 ·have fin:∀x c',c'≤1→x<4294967296→p.getD k 0+4294967296*c'=x+c+q.getD k 0→∀F' H',LeF F' (fm [(1,dg q),(5,lit (.slice (some ⟨bb,0,none⟩) p.length p.length)),(6,lit (.int .u64 c')),(14,dg p),(15,lit (.int .i64 p.length)),(16,lit (.int .i64 ((k+1:Nat):Int)))])→
    H'=[(bb,192,bC (os.set k x))]→K F' H':=fun x c' hc' hx hd F' H' hF hH=>by
   refine hK F' H' (k+1,c',os.set k x) ⟨by simp only;omega,hc',by simpa using hol,hO.set k hx,?_⟩ (by simp only;omega) hF hH;simp only;rw [hZ os k _ om,bK,bK,bR];exact Id hval hd
  by_cases hkq:k<q.length
  ·by_cases hb:p.getD k 0<c+q.getD k 0
   ·refine A2 ⟨?_⟩;intros;refine jY (p.getD k 0+4294967296-c-q.getD k 0) rfl rfl om (br.here _) om ?_;refine A2 ⟨?_⟩;intros;exact fin _ 1 om om om _ _ lfA rfl
   ·refine A2 ⟨?_⟩;intros;refine jY (p.getD k 0-c-q.getD k 0) rfl rfl om (br.here _) om ?_;refine A2 ⟨?_⟩;intros;exact fin _ 0 om om om _ _ lfA rfl
  ·have hq0:q.getD k 0=0:=by simp [List.getD,df (iK.1 hkq)]
   by_cases hb:p.getD k 0<c
   ·refine A2 ⟨?_⟩;intros;refine jY (p.getD k 0+4294967296-c) rfl rfl om (br.here _) om ?_;refine A2 ⟨?_⟩;intros;exact fin _ 1 om om om _ _ lfA rfl
   ·refine A2 ⟨?_⟩;intros;refine jY (p.getD k 0-c) rfl rfl om (br.here _) om ?_;refine A2 ⟨?_⟩;intros;exact fin _ 0 om om om _ _ lfA rfl
 ·have hke:k=p.length:=by omega
  subst hke;refine A2 ⟨?_⟩;intros;refine lr (ds:=os) 45 rfl (aq.here _) hol om om ?_;refine Wc (gj os om hO) ?_
  have hfull:val os=a-b:=by
   rw [aP,dz hqp,dz om,hva,hvb]at hval;have h1:=eQ hO;rw [hol]at h1;rcases aJ 0 c with h|h
   ·have:c=1:=by omega
    subst this;omega
   ·have:c=0:=by omega
    subst this;omega
  rw [hfull];exact Z1
theorem Gh (xs ys:List Nat) (hla:xs.length≤100000000) (hlb:ys.length≤100000000) (hA:D xs) (hB:D ys):Pu Tryz.prog 292 [dg xs,dg ys]
  (if val xs<val ys then tup [dg [],lit (.bool false)]else tup [nat (val xs-val ys),lit (.bool true)]):=by
 have hc:=Ce (val xs) (val ys);refine Pi Tryz.func292 fun C=>?_
 refine A2 ⟨?_⟩;intros;refine Wc (HS xs ys om om hA hB) ?_;by_cases h:val xs<val ys
 ·have h':=hc.2.2.2 h;rw [if_pos h];refine A2 ⟨?_⟩;intros;refine cV (eJ (RV.tmp rfl) (RV.tmp rfl) ?_);intro m v hv;unfold tup at hv⊢;obtain⟨arr,rfl,hall⟩:=hv;refine⟨arr,rfl,?_⟩;rcases arr with⟨l⟩
  match l,hall with
  | [x,y],hall=>exact⟨gz _ _ hall.1,hall.2⟩
 ·have h':¬pL (val xs) (val ys)<0:=fun hh=>h (hc.2.2.1 hh)
  rw [if_neg h];refine A2 ⟨?_⟩;intros;refine Wc (gj xs om hA) ?_;refine A2 ⟨?_⟩;intros;refine Wc (gj ys om hB) ?_;refine Wc (LX (val xs) (val ys) om (by have:=dU (eQ hA);omega)) ?_;refine A2 ⟨?_⟩;intros;exact G2
theorem jQ (ds:List Nat) (j x:Nat) (h:j<ds.length):val (ds.set j x)+4294967296^j*ds.getD j 0=val ds+4294967296^j*x:=by
 have h1:=Bc ds j h;have h2:=Bc (ds.set j x) j (by simpa using h)
 rw [List.take_set_of_le (au _),show(ds.set j x).drop (j+1)=ds.drop (j+1)from by rw [List.drop_set];simp,
  show(ds.set j x).getD j 0=x from by simp [List.getD,h]]at h2
 rw [h1,h2,aM,aM];omega
theorem dF (ds:List Nat) (j k x:Nat) (h:j≠k):(ds.set j x).getD k 0=ds.getD k 0:=by simp [List.getD,List.getElem?_set_ne h]
theorem Ax {vo v p c x y o t:Nat}(vq:Nat){B1:Nat}(h:vo+B1*p*c=v+B1*x*vq) (ht:t=c+x*y+o){vo':Nat}(hs:vo'+B1*p*o=vo+B1*p*(t%4294967296)) :
  vo'+B1*(p*4294967296)*(t/4294967296)=v+B1*x*(vq+p*y):=by
 have e:=fC t 4294967296;have e2:=congrArg (fun z=>B1*p*z) e;rw [ht]at e2;simp only [aM,←aI]at e2 h⊢;rw [←ht]at e2;have e3:B1*p*x*y=B1*x*p*y:=by rw [iZ B1 p x]
 omega
theorem mM {x y:Nat}(hx:x<4294967296) (hy:y<4294967296):(x:Int)*(y:Int)≤18446744065119617025∧0≤(x:Int)*(y:Int):=by
 have h:x*y≤4294967295*4294967295:=db om om;have h2:((x*y:Nat):Int)≤18446744065119617025:=by omega
 rw [cX]at h2;exact⟨h2,tn om om⟩
theorem ql (xs:List Nat){k:Nat}(hl:xs.length≤k) (hk:k≤1000000000) (hA:D xs):∃p,Pu Tryz.prog 233 [dg xs] (dg p)∧p.length≤k∧D p∧val p=val xs∧p=dgs (val xs) :=
 ⟨dgs (val xs),gj xs om hA,by have:=dU (eQ hA);omega,cu _,aK _,rfl⟩
theorem He (xs ys:List Nat) (hla:xs.length≤100000000) (hlb:ys.length≤100000000) (hA:D xs) (hB:D ys):Pu Tryz.prog 210 [dg xs,dg ys] (nat (val xs*val ys)):=by
 obtain⟨p,t1,h1,hP,hva,_⟩:=ql xs hla om hA;obtain⟨q,t2,h2,hQ,hvb,_⟩:=ql ys hlb om hB;rw [←hva,←hvb];refine Pi Tryz.func210 fun C=>?_
 refine A2 ⟨?_⟩;intros;refine Wc t1 ?_;refine A2 ⟨?_⟩;intros;refine Wc t2 ?_;refine A2 ⟨?_⟩;intros;refine vn (p.length+q.length) rfl rfl om om fun bb=>?_
 refine A2 ⟨?_⟩;intros
 refine WP.loop (ι:=Nat×List Nat) (fun s=>s.1≤p.length∧s.2.length=p.length+q.length∧D s.2∧val s.2=val (p.take s.1)*val q∧∀j,s.1+q.length≤j→s.2.getD j 0=0) (fun s=>p.length-s.1)
  (fun s=>fm [(1,dg q),(5,lit (.slice (some ⟨bb,0,none⟩) (p.length+q.length) (p.length+q.length))),(21,dg p),(22,lit (.int .i64 p.length)),(23,lit (.int .i64 s.1))])
  (fun s=>[(bb,192,bC s.2)]) (0,List.replicate (p.length+q.length) 0) ⟨an _,by simp,D.rep _,by simp [val,uc],fun j _=>by simp [List.getD,nL];split <;> simp⟩ lfA rfl ?_
 rintro ⟨i,os⟩ ⟨hi,hol,hO,hval,hz⟩ K hK;simp only at hi hol hO hval hz⊢;by_cases hil:i<p.length
 ·have hx:=hP.get i;refine A2 ⟨?_⟩;intros
  refine WP.loop (ι:=Nat×Nat×List Nat) (fun s=>s.1≤q.length∧s.2.1<4294967296∧s.2.2.length=p.length+q.length∧D s.2.2∧val s.2.2+4294967296^i*4294967296^s.1*s.2.1=val os+4294967296^i*p.getD i 0*val (q.take s.1)∧∀j,i+q.length≤j→s.2.2.getD j 0=0) (fun s=>q.length-s.1)
   (fun s=>fm [(1,dg q),(5,lit (.slice (some ⟨bb,0,none⟩) (p.length+q.length) (p.length+q.length))),(6,lit (.int .i64 i)),(7,lit (.int .u32 (p.getD i 0:Nat))),(8,lit (.int .u64 s.2.1)),(21,dg p),(22,lit (.int .i64 p.length)),(23,lit (.int .i64 i)),(28,dg q),(29,lit (.int .i64 q.length)),(30,lit (.int .i64 s.1))])
   (fun s=>[(bb,192,bC s.2.2)]) (0,0,os) ⟨an _,by simp,hol,hO,by simp [val],hz⟩ lfA rfl ?_
  rintro ⟨k,c,us⟩ ⟨hk,hc,hul,hU,hvu,hzu⟩ K2 hK2;simp only at hk hc hul hU hvu hzu⊢;by_cases hkl:k<q.length
  ·have hy:=hQ.get k;have ho:=hU.get (i+k);have hb:=mM hx hy;have hcast:((p.getD i 0*q.getD k 0:Nat):Int)=(p.getD i 0:Int)*(q.getD k 0:Int):=cX _ _;refine A2 ⟨?_⟩;intros;refine jY ((c+(p.getD i 0*q.getD k 0+us.getD (i+k) 0))%4294967296) rfl rfl om (br.here _) om ?_;refine A2 ⟨?_⟩;intros
   refine hK2 _ _ (k+1,(c+(p.getD i 0*q.getD k 0+us.getD (i+k) 0))/4294967296,us.set (i+k) ((c+(p.getD i 0*q.getD k 0+us.getD (i+k) 0))%4294967296))
    ⟨by simp only;omega,by simp only;omega,by simpa using hul,hU.set _ om,?_,fun j hj=>by rw [dF _ _ _ _ (by(try simp only at hj);omega)];exact hzu j hj⟩ (by simp only;omega) lfA rfl
   simp only;rw [bK,bR];have hs:=jQ us (i+k) ((c+(p.getD i 0*q.getD k 0+us.getD (i+k) 0))%4294967296) om;rw [cD]at hs;exact Ax _ hvu om hs
  ·have hke:k=q.length:=by omega
   subst hke;have hz0:=hzu (i+q.length) om;refine A2 ⟨?_⟩;intros;refine jY c rfl rfl om (br.here _) om ?_;refine A2 ⟨?_⟩;intros;refine hK _ _ (i+1,us.set (i+q.length) c) ⟨by simp only;omega,by simpa using hul,hU.set _ hc,?_,fun j hj=>by rw [dF _ _ _ _ (by(try simp only at hj);omega)];exact hzu j (by(try simp only at hj);omega)⟩ (by simp only;omega) lfA rfl;simp only;have hs:=jQ us (i+q.length) c om;rw [hz0,jD,cj,cD]at hs;rw [hs,hvu,aP,hval,bK,aT]
 ·have hie:i=p.length:=by omega
  subst hie;rw [aP]at hval;refine A2 ⟨?_⟩;intros;refine lr (ds:=os) 69 rfl (aq.here _) hol om om ?_;refine Wc (gj os om hO) ?_;rw [hval];exact Z1
theorem y9 (a b:Nat) (hab:b≤a) (hl:(dgs a).length≤100000000):Pu Tryz.prog 135 [nat a,nat b] (nat (a-b)):=by
 have hP:=cu a;have hQ:=cu b;have hqp:=cI hab;have hva:=aK a;have hvb:=aK b;show Pu _ _ [dg (dgs a),dg (dgs b)] _
 generalize dgs a=p at *;generalize dgs b=q at *;refine Pi Tryz.func135 fun C=>?_
 refine A2 ⟨?_⟩;intros;refine vn p.length rfl rfl om om fun bb=>?_
 refine A2 ⟨?_⟩;intros
 refine WP.loop (ι:=Nat×Nat×List Nat) (fun s=>s.1≤p.length∧s.2.1≤1∧s.2.2.length=p.length∧D s.2.2∧val (s.2.2.take s.1)+val (q.take s.1)=val (p.take s.1)+4294967296^s.1*s.2.1) (fun s=>p.length-s.1)
  (fun s=>fm [(0,dg p),(1,dg q),(5,lit (.slice (some ⟨bb,0,none⟩) p.length p.length)),(6,lit (.int .u32 s.2.1)),(13,lit (.int .i64 p.length)),(14,lit (.int .i64 s.1))])
  (fun s=>[(bb,192,bC s.2.2)]) (0,0,List.replicate p.length 0) ⟨an _,an _,by simp,D.rep _,by simp [val]⟩ lfA rfl ?_
 rintro ⟨k,c,os⟩ ⟨hk,hc,hol,hO,hval⟩ K hK;simp only at hk hc hol hO hval⊢;by_cases hkl:k<p.length
 ·have hp:=hP.get k;have hq:=hQ.get k;refine A2 ⟨?_⟩;intros;refine WP.via (fun F H=>LeF F (fm [(0,dg p),(1,dg q),(5,lit (.slice (some ⟨bb,0,none⟩) p.length p.length)),(6,lit (.int .u32 c)),(7,lit (.int .i64 k)),(8,lit (.int .u32 (q.getD k 0:Nat))),(13,lit (.int .i64 p.length)),(14,lit (.int .i64 k))])∧H=[(bb,192,bC os)]) ?_ ?_
  ·refine WPd (fun h=>?_) (fun h=>?_)
   ·refine A2 ⟨?_⟩;intros;exact⟨lfA,rfl⟩
   ·have h0:q.getD k 0=0:=by simp [List.getD,df (show q.length≤k by omega)]
    refine A2 ⟨?_⟩;intros;exact⟨lfA,rfl⟩
  rintro F H ⟨hF,rfl⟩;refine WP.le hF ?_;refine A2 ⟨?_⟩;intros;refine Wc (Ke (p.getD k 0) (q.getD k 0) c hp hq hc) ?_
  have fin:∀x c',c'≤1→x<4294967296→p.getD k 0+4294967296*c'=x+c+q.getD k 0→∀F' H',LeF F' (fm [(0,dg p),(1,dg q),(5,lit (.slice (some ⟨bb,0,none⟩) p.length p.length)),(6,lit (.int .u32 c')),(13,lit (.int .i64 p.length)),(14,lit (.int .i64 ((k+1:Nat):Int)))])→
    H'=[(bb,192,bC (os.set k x))]→K F' H':=fun x c' hc' hx hd F' H' hF hH=>by
   refine hK F' H' (k+1,c',os.set k x) ⟨by simp only;omega,hc',by simpa using hol,hO.set k hx,?_⟩ (by simp only;omega) hF hH;simp only;rw [hZ os k _ om,bK,bK,bR];exact EJ hval hd
  by_cases hb:p.getD k 0<q.getD k 0+c
  ·rw [if_pos hb];refine A2 ⟨?_⟩;intros;refine jY ((p.getD k 0+8589934592-q.getD k 0-c)%4294967296) rfl rfl rfl (br.here _) om ?_;refine A2 ⟨?_⟩;intros;exact fin _ 1 om om om _ _ lfA rfl
  ·rw [if_neg hb];refine A2 ⟨?_⟩;intros;refine jY ((p.getD k 0+8589934592-q.getD k 0-c)%4294967296) rfl rfl rfl (br.here _) om ?_;refine A2 ⟨?_⟩;intros;exact fin _ 0 om om om _ _ lfA rfl
 ·have hke:k=p.length:=by omega
  subst hke;refine A2 ⟨?_⟩;intros;refine lr (ds:=os) 39 rfl (aq.here _) hol om om ?_;refine Wc (gD os om hO) ?_
  have hfull:val os=a-b:=by
   rw [aP,dz hqp,dz om,hva,hvb]at hval;have h1:=eQ hO;rw [hol]at h1;rcases aJ 0 c with h|h
   ·have:c=1:=by omega
    subst this;omega
   ·have:c=0:=by omega
    subst this;omega
  rw [hfull];exact Z1
theorem i4 (a b:Nat) (hla:(dgs a).length≤100000000) (hlb:(dgs b).length≤100000000):Pu Tryz.prog 56 [nat a,nat b] (nat (a*b)):=by
 by_cases h11:(dgs a).length=1∧(dgs b).length=1
 ·have ea:a=(dgs a).getD (Int.toNat 0) 0:=HK h11.1;have eb:b=(dgs b).getD (Int.toNat 0) 0:=HK h11.2;have b0:(dgs a).getD (Int.toNat 0) 0<4294967296:=(cu a).get 0;have b1:(dgs b).getD (Int.toNat 0) 0<4294967296:=(cu b).get 0;have hp:=mM b0 b1;have hq:=hp;rw [←ea,←eb]at hq;have hw:=mG (a*b) (by rw [←ea]at b0;rw [←eb]at b1;have:=db (Nat.le_of_lt_succ (Nat.lt_succ_of_le (Nat.le_pred_of_lt b0))) (Nat.le_of_lt_succ (Nat.lt_succ_of_le (Nat.le_pred_of_lt b1)));simp at this;omega);rw [cX]at hw;refine Pi Tryz.func56 fun C=>?_
  refine A2 ⟨?_⟩;intros;rw [←ea,←eb];refine Wdc hw ?_;exact Z1
 ·have hP:=cu a;have hQ:=cu b;have hva:=aK a;have hvb:=aK b;show Pu _ _ [dg (dgs a),dg (dgs b)] _
  generalize dgs a=p at *;generalize dgs b=q at *;subst hva;subst hvb;have h12:p.length=1→q.length≠1:=fun a b=>h11 ⟨a,b⟩
  clear h11;refine Pi Tryz.func56 fun C=>?_
  repeat(refine AS ⟨?_⟩;intros)
  iterate 1 (refine O1 ⟨?_⟩;intros)
  refine WPL.nil ?_;refine xW ?_;refine WP.seq' ?_;refine WP.via (fun F H=>LeF F (fm [(0,dg p),(1,dg q)])∧H=[]) ?_ ?_
  ·by_cases h1:p.length=1
   ·have h2:=h12 h1;clear h12;refine A2 ⟨?_⟩;intros;exact⟨lfA,rfl⟩
   ·clear h12;refine A2 ⟨?_⟩;intros;exact⟨lfA,rfl⟩
  ·rintro F H ⟨hF,rfl⟩;refine WP.le hF ?_;clear h12;refine A2 ⟨?_⟩;intros;refine vn (p.length+q.length) rfl rfl om om fun bb=>?_
   refine A2 ⟨?_⟩;intros
   refine WP.loop (ι:=Nat×List Nat) (fun s=>s.1≤p.length∧s.2.length=p.length+q.length∧D s.2∧val s.2=val (p.take s.1)*val q∧∀j,s.1+q.length≤j→s.2.getD j 0=0) (fun s=>p.length-s.1)
    (fun s=>fm [(1,dg q),(5,lit (.slice (some ⟨bb,0,none⟩) (p.length+q.length) (p.length+q.length))),(36,dg p),(37,lit (.int .i64 p.length)),(38,lit (.int .i64 s.1))])
    (fun s=>[(bb,192,bC s.2)]) (0,List.replicate (p.length+q.length) 0) ⟨an _,by simp,D.rep _,by simp [val,uc],fun j _=>by simp [List.getD,nL];split <;> simp⟩ lfA rfl ?_
   rintro ⟨i,os⟩ ⟨hi,hol,hO,hval,hz⟩ K hK;simp only at hi hol hO hval hz⊢;by_cases hil:i<p.length
   ·have hx:=hP.get i;refine A2 ⟨?_⟩;intros
    refine WP.loop (ι:=Nat×Nat×List Nat) (fun s=>s.1≤q.length∧s.2.1<4294967296∧s.2.2.length=p.length+q.length∧D s.2.2∧val s.2.2+4294967296^i*4294967296^s.1*s.2.1=val os+4294967296^i*p.getD i 0*val (q.take s.1)∧∀j,i+q.length≤j→s.2.2.getD j 0=0) (fun s=>q.length-s.1)
     (fun s=>fm [(1,dg q),(5,lit (.slice (some ⟨bb,0,none⟩) (p.length+q.length) (p.length+q.length))),(6,lit (.int .i64 i)),(7,lit (.int .u32 (p.getD i 0:Nat))),(8,lit (.int .u64 s.2.1)),(36,dg p),(37,lit (.int .i64 p.length)),(38,lit (.int .i64 i)),(43,dg q),(44,lit (.int .i64 q.length)),(45,lit (.int .i64 s.1))])
     (fun s=>[(bb,192,bC s.2.2)]) (0,0,os) ⟨an _,by simp,hol,hO,by simp [val],hz⟩ lfA rfl ?_
    rintro ⟨k,c,us⟩ ⟨hk,hc,hul,hU,hvu,hzu⟩ K2 hK2;simp only at hk hc hul hU hvu hzu⊢;by_cases hkl:k<q.length
    ·have hy:=hQ.get k;have ho:=hU.get (i+k);have hb:=mM hx hy;have hcast:((p.getD i 0*q.getD k 0:Nat):Int)=(p.getD i 0:Int)*(q.getD k 0:Int):=cX _ _;refine A2 ⟨?_⟩;intros;refine jY ((p.getD i 0*q.getD k 0+us.getD (i+k) 0+c)%4294967296) rfl rfl om (br.here _) om ?_;refine A2 ⟨?_⟩;intros
     refine hK2 _ _ (k+1,(p.getD i 0*q.getD k 0+us.getD (i+k) 0+c)/4294967296,us.set (i+k) ((p.getD i 0*q.getD k 0+us.getD (i+k) 0+c)%4294967296))
      ⟨by simp only;omega,by simp only;omega,by simpa using hul,hU.set _ om,?_,fun j hj=>by rw [dF _ _ _ _ (by(try simp only at hj);omega)];exact hzu j hj⟩ (by simp only;omega) lfA rfl
     simp only;rw [bK,bR];have hs:=jQ us (i+k) ((p.getD i 0*q.getD k 0+us.getD (i+k) 0+c)%4294967296) om;rw [cD]at hs;exact Ax _ hvu om hs
    ·have hke:k=q.length:=by omega
     subst hke;have hz0:=hzu (i+q.length) om;refine A2 ⟨?_⟩;intros;refine jY c rfl rfl om (br.here _) om ?_;refine A2 ⟨?_⟩;intros;refine hK _ _ (i+1,us.set (i+q.length) c) ⟨by simp only;omega,by simpa using hul,hU.set _ hc,?_,fun j hj=>by rw [dF _ _ _ _ (by(try simp only at hj);omega)];exact hzu j (by(try simp only at hj);omega)⟩ (by simp only;omega) lfA rfl;simp only;have hs:=jQ us (i+q.length) c om;rw [hz0,jD,cj,cD]at hs;rw [hs,hvu,aP,hval,bK,aT]
   ·have hie:i=p.length:=by omega
    subst hie;rw [aP]at hval;refine A2 ⟨?_⟩;intros;refine lr (ds:=os) 84 rfl (aq.here _) hol om om ?_;refine Wc (gD os om hO) ?_;rw [hval];exact Z1
def sv (s:Bool) (n:Nat):Int:=bif s then -(n:Int)else n
abbrev raw (s:Bool) (xs:List Nat):SV:=ag [lit (.bool s),dg xs]
abbrev int (z:Int):SV:=ag [lit (.bool (decide (z<0))),nat z.natAbs]
theorem l7 (s:Bool) (n:Nat):(sv s n).natAbs=n:=by cases s <;> simp [sv]
theorem K9 (s:Bool) (n:Nat):decide (sv s n<0)=(s&&decide (0<n)):=by
 cases s
 ·simp only [sv,kK,aZ];exact aa om
 ·simp [sv]
theorem iM (z:Int):sv (decide (z<0)) z.natAbs=z:=by
 by_cases h:z<0 <;> simp [sv,h] <;> omega
theorem Bh (n:Nat):sv false n=(n:Int):=rfl
theorem BW (s:Bool) (n:Nat):int (sv s n)=ag [lit (.bool (s&&decide (0<n))),nat n]:=by rw [int,l7,K9]
theorem xf (n:Nat):int (n:Int)=raw false (dgs n):=by rw [←Bh,BW];rfl
theorem f0 {n:Nat}(h:n≠0):0<(dgs n).length:=by
 rcases hd:dgs n with _|⟨d,l⟩
 ·have:=aK n;rw [hd]at this;exact absurd this.symm h
 ·simp
theorem zw {xs:List Nat}(h:D xs):f5 (val xs)≤32*xs.length:=j7.2 (by rw [nO];exact eQ h)
theorem s5 (s:Bool) (n:Nat) (h:(dgs n).length≤1000000000):Pu Tryz.prog 290 [lit (.bool s),nat n] (int (sv s n)):=by
 rw [BW];by_cases h0:n=0
 ·subst h0;have hl:(dgs 0).length=0:=by rw [bW];rfl
  cases s <;> simp only [Nat.lt_irrefl,lE,aS]
  all_goals
   refine Pi Tryz.func290 fun C=>?_
   exact Z2
 ·have hl:=f0 h0;cases s <;> simp only [aZ,aX,a9 (f9 h0)]
  all_goals
   refine Pi Tryz.func290 fun C=>?_
   exact Z2
theorem yt (s:Bool) (xs:List Nat) (h:xs.length≤1000000000) (hD:D xs):Pu Tryz.prog 131 [raw s xs] (int (sv s (val xs))):=by
 rw [BW];have hb:(dgs (val xs)).length≤1000000000:=by have:=dU (eQ hD);omega
 by_cases h0:val xs=0
 ·have hl:(dgs (val xs)).length=0:=by rw [h0,bW];rfl
  rw [show(s&&decide (0<val xs))=false from by rw [h0];simp];cases s
  all_goals
   refine Pi Tryz.func131 fun C=>?_
   refine A2 ⟨?_⟩;intros;refine Wc (pu xs h hD) ?_;exact Z2
 ·have hl:=f0 h0;rw [a9 (f9 h0),bo];cases s
  all_goals
   refine Pi Tryz.func131 fun C=>?_
   refine A2 ⟨?_⟩;intros;refine Wc (pu xs h hD) ?_;exact Z2
theorem OT (s:Bool) (xs:List Nat) (h:xs.length≤1000000000) (hD:D xs):Pu Tryz.prog 230 [raw s xs] (int (-sv s (val xs))):=by
 rw [show -sv s (val xs)=sv (!s) (val xs)from by cases s <;> simp [sv]];refine Pi Tryz.func230 fun C=>?_
 refine A2 ⟨?_⟩;intros;refine Wc (yt (!s) xs h hD) ?_;exact Z2
theorem uh (s:Bool) (xs:List Nat) (h:xs.length≤1000000000) (hD:D xs):Pu Tryz.prog 250 [raw s xs] (lit (.int .i64 (sv s (val xs)).sign)):=by
 by_cases h0:val xs=0
 ·rw [show(sv s (val xs)).sign=0 from by rw [h0];cases s <;> rfl];refine Pi Tryz.func250 fun C=>?_
  refine A2 ⟨?_⟩;intros;refine Wc (jf xs h hD) ?_;rw [h0,show f5 0=0 from rfl];exact Z1
 ·have hb:f5 (val xs)≠0:=fun e=>h0 (by have:=j7.1 (p9 e);omega)
  have hbb:=zw hD;cases s
  ·rw [show(sv false (val xs)).sign=1 from fy (by simp only [sv,kK];omega)];refine Pi Tryz.func250 fun C=>?_
   refine A2 ⟨?_⟩;intros;refine Wc (jf xs h hD) ?_;exact Z1
  ·rw [show(sv true (val xs)).sign = -1 from gf (by simp only [sv,iB];omega)];refine Pi Tryz.func250 fun C=>?_
   refine A2 ⟨?_⟩;intros;refine Wc (jf xs h hD) ?_;exact Z1
theorem JS {x:Int}(h0 : -9223372036854775808≤x) (h1:x≤9223372036854775807):IntKind.i64.wrap (x%18446744073709551616)=x:=by
 simp only [IntKind.wrap,IntKind.bits,IntKind.signed];simp;omega
theorem tT (z:Int) (h0 : -9223372036854775808≤z) (h1:z≤9223372036854775807):Pu Tryz.prog 132 [lit (.int .i64 z)] (int z):=by
 by_cases h:z<0
 ·rw [int,a9 h];refine Pi Tryz.func132 fun C=>?_
  refine A2 ⟨?_⟩;intros;rw [show -(z%18446744073709551616)%18446744073709551616=(z.natAbs:Int)from by omega];refine Wc (lj z.natAbs om) ?_;exact Z2
 ·rw [int,aa h];refine Pi Tryz.func132 fun C=>?_
  refine A2 ⟨?_⟩;intros;generalize hn:z.natAbs=n at *;have hz:z=(n:Int):=by omega
  subst hz;refine Wc (lj n om) ?_;exact Z2
theorem Jd (s:Bool) (xs:List Nat) (hl:xs.length≤1000000000) (hD:D xs) (hb:val xs<4611686018427387904):Pu Tryz.prog 252 [raw s xs] (tup [lit (.int .i64 (sv s (val xs))),lit (.bool true)]):=by
 have u:=ue xs hl hD;rw [if_pos om]at u;cases s
 ·simp only [sv,kK];refine Pi Tryz.func252 fun C=>?_
  refine A2 ⟨?_⟩;intros;refine Wc u ?_;refine A2 ⟨?_⟩;intros;exact G2
 ·simp only [sv,iB];refine Pi Tryz.func252 fun C=>?_
  refine A2 ⟨?_⟩;intros;refine Wc u ?_;refine A2 ⟨?_⟩;intros;refine cV (eJ (RV.tmp rfl) (RV.tmp rfl) (Le.tup2 (Le.int ?_) Lr));exact JS om om
theorem Ka (s t:Bool) (a b:Nat):sv (s != t) (a*b)=sv s a*sv t b:=by
 cases s <;> cases t <;> simp [sv,cX,qd,Int.neg_mul]
theorem Kb (s:Bool) (a b:Nat):sv s (a+b)=sv s a+sv s b:=by
 cases s <;> simp [sv] <;> omega
theorem Bg (s t:Bool) (h:s≠t){a b:Nat}(hab:b≤a):sv s (a-b)=sv s a+sv t b:=by
 cases s <;> cases t <;> simp_all [sv] <;> omega
theorem OY (s t:Bool) (xs ys:List Nat) (hlx:xs.length≤100000000) (hly:ys.length≤100000000) (hX:D xs) (hY:D ys):Pu Tryz.prog 265 [raw s xs,raw t ys] (int (sv s (val xs)*sv t (val ys))):=by
 have hl:=dU (cQ (Nat.mul_lt_mul'' (eQ hX) (eQ hY)) (p9 (cD ..).symm));rw [←Ka];refine Pi Tryz.func265 fun C=>?_
 refine A2 ⟨?_⟩;intros;refine Wdc (He xs ys hlx hly hX hY) ?_;refine A2 ⟨?_⟩;intros;refine Wdc (s5 (s != t) (val xs*val ys) om) ?_;exact Z2
theorem zf (a b:Nat):(dgs (a+b)).length≤max (dgs a).length (dgs b).length+1:=by
 refine dU ?_;have h1:=o5 a;have h2:=o5 b;have b1:4294967296^(dgs a).length≤4294967296^max (dgs a).length (dgs b).length:=gN om om;have b2:4294967296^(dgs b).length≤4294967296^max (dgs a).length (dgs b).length:=gN om om;rw [bR];omega
theorem ew (a b:Nat):(dgs (a*b)).length≤(dgs a).length+(dgs b).length:=by
 refine dU ?_;rw [cD];exact Nat.mul_lt_mul'' (o5 a) (o5 b)
theorem mq {xs:List Nat}(h:D xs):(dgs (val xs)).length≤xs.length:=dU (eQ h)
theorem Q7 (s t:Bool) (xs ys:List Nat) (hlx:xs.length≤100000000) (hly:ys.length≤100000000) (hX:D xs) (hY:D ys):Pu Tryz.prog 266 [raw s xs,raw t ys] (int (sv s (val xs)+sv t (val ys))):=by
 have hl1:=mq hX;have hl2:=mq hY;have s1:=Gh xs ys hlx hly hX hY;have s2:=Gh ys xs hly hlx hY hX;by_cases hst:s=t
 ·subst hst;have hl:=zf (val xs) (val ys);rw [←Kb];cases s
  all_goals
   refine Pi Tryz.func266 fun C=>?_
   refine A2 ⟨?_⟩;intros;refine Wdc (Q8 xs ys hlx hly hX hY) ?_;refine A2 ⟨?_⟩;intros;refine Wdc (s5 _ (val xs+val ys) om) ?_;exact Z2
 ·by_cases hlt:val xs<val ys
  ·rw [if_pos hlt]at s1;rw [if_neg om]at s2;have hl:=cI (nK (val ys) (val xs));rw [Int.add_comm,←Bg t s (lG hst) om];cases s <;> cases t <;> first|exact absurd rfl hst|skip
   all_goals
    refine Pi Tryz.func266 fun C=>?_
    refine A2 ⟨?_⟩;intros;refine Wc s1 ?_;refine A2 ⟨?_⟩;intros;refine Wc s2 ?_;refine A2 ⟨?_⟩;intros;refine Wc (s5 _ (val ys-val xs) om) ?_;exact Z2
  ·rw [if_neg om]at s1;have hl:=cI (nK (val xs) (val ys));rw [←Bg s t hst om];cases s <;> cases t <;> first|exact absurd rfl hst|skip
   all_goals
    refine Pi Tryz.func266 fun C=>?_
    refine A2 ⟨?_⟩;intros;refine Wc s1 ?_;refine A2 ⟨?_⟩;intros;refine Wc (s5 _ (val xs-val ys) om) ?_;exact Z2
theorem dH (s:Bool) (n:Nat) (h:(dgs n).length≤1000000000):Pu Tryz.prog 58 [lit (.bool s),nat n] (int (sv s n)):=by
 rw [BW];by_cases h0:n=0
 ·subst h0;have hl:(dgs 0).length=0:=by rw [bW];rfl
  cases s <;> simp only [Nat.lt_irrefl,lE,aS]
  all_goals
   refine Pi Tryz.func58 fun C=>?_
   exact Z2
 ·have hl:=f0 h0;cases s <;> simp only [aZ,aX,a9 (f9 h0)]
  all_goals
   refine Pi Tryz.func58 fun C=>?_
   exact Z2
theorem s6 (z:Int) (h:(dgs z.natAbs).length≤1000000000):Pu Tryz.prog 151 [int z] (lit (.int .i64 z.sign)):=by
 rcases iy z 0 with h0|h0|h0
 ·have hl:=f0 (n:=z.natAbs) om;rw [gf h0,int,a9 h0];refine Pi Tryz.func151 fun C=>?_
  exact Z1
 ·subst h0;have hl:(dgs (Int.natAbs 0)).length=0:=by rw [show Int.natAbs 0=0 from rfl,bW];rfl
  refine Pi Tryz.func151 fun C=>?_
  exact Z1
 ·have hl:=f0 (n:=z.natAbs) om;rw [fy h0,int,aa om];refine Pi Tryz.func151 fun C=>?_
  exact Z1
theorem nT (z:Int) (h:(dgs z.natAbs).length≤1000000000):Pu Tryz.prog 88 [int z] (int (-z)):=by
 have m:=dH (!decide (z<0)) z.natAbs h;rw [show sv (!decide (z<0)) z.natAbs = -z from by by_cases h:z<0 <;> simp [sv,h] <;> omega]at m;refine Pi Tryz.func88 fun C=>?_
 refine A2 ⟨?_⟩;intros;refine Wc m ?_;exact Z2
theorem ut (a b:Int) (h1:(dgs a.natAbs).length≤100000000) (h2:(dgs b.natAbs).length≤100000000):Pu Tryz.prog 91 [int a,int b] (int (a*b)):=by
 have hl:=ew a.natAbs b.natAbs;have m:=dH (decide (a<0) != decide (b<0)) (a.natAbs*b.natAbs) om;rw [Ka,iM,iM]at m;refine Pi Tryz.func91 fun C=>?_
 refine A2 ⟨?_⟩;intros;refine Wdc (i4 a.natAbs b.natAbs h1 h2) ?_;refine A2 ⟨?_⟩;intros;refine Wdc m ?_;exact Z2
theorem yf (a b:Int) (h1:(dgs a.natAbs).length≤100000000) (h2:(dgs b.natAbs).length≤100000000):Pu Tryz.prog 89 [int a,int b] (int (a+b)):=by
 have key:∀(s t:Bool) (x y:Nat),(dgs x).length≤100000000→(dgs y).length≤100000000→Pu Tryz.prog 89 [raw s (dgs x),raw t (dgs y)] (int (sv s x+sv t y)):=by
  intro s t x y hx hy;have cm:=uu x y om om;have cb:=Ce x y;by_cases hst:s=t
  ·subst hst;have hl:=zf x y;rw [←Kb];cases s
   all_goals
    refine Pi Tryz.func89 fun C=>?_
    refine A2 ⟨?_⟩;intros;refine Wdc (NT x y hx hy) ?_;refine A2 ⟨?_⟩;intros;refine Wdc (dH _ (x+y) om) ?_;exact Z2
  ·by_cases hlt:x<y
   ·have hl:=cI (nK y x);rw [mT hlt]at cm;clear cb;rw [Int.add_comm,←Bg t s (lG hst) om];cases s <;> cases t <;> first|exact absurd rfl hst|skip
    all_goals
     refine Pi Tryz.func89 fun C=>?_
     refine A2 ⟨?_⟩;intros;refine Wc cm ?_;refine A2 ⟨?_⟩;intros;refine Wdc (y9 y x om hy) ?_;refine A2 ⟨?_⟩;intros;refine Wdc (dH _ (y-x) om) ?_;exact Z2
   ·have hl:=cI (nK x y);have hc:0≤pL x y:=by omega
    generalize pL x y=c at *;have hc2:c≤1:=cb.2.1;clear cb;rw [←Bg s t hst om];cases s <;> cases t <;> first|exact absurd rfl hst|skip
    all_goals
     refine Pi Tryz.func89 fun C=>?_
     refine A2 ⟨?_⟩;intros;refine Wc cm ?_;refine A2 ⟨?_⟩;intros;refine Wdc (y9 x y om hx) ?_;refine A2 ⟨?_⟩;intros;refine Wdc (dH _ (x-y) om) ?_;exact Z2
 have k:=key (decide (a<0)) (decide (b<0)) a.natAbs b.natAbs h1 h2;rwa [iM,iM]at k
theorem Gz (z:Int) (h0 : -9223372036854775808≤z) (h1:z≤9223372036854775807):Pu Tryz.prog 107 [lit (.int .i64 z)] (int z):=by
 have hl:=dU (n:=z.natAbs) (k:=2) om;have m1:=dH true z.natAbs om;have m2:=dH false z.natAbs om;by_cases h:z<0
 ·rw [show sv true z.natAbs=z from by simp only [sv,iB];omega]at m1;refine Pi Tryz.func107 fun C=>?_
  refine A2 ⟨?_⟩;intros;rw [show -(z%18446744073709551616)%18446744073709551616=(z.natAbs:Int)from by omega];refine Wc (mG z.natAbs om) ?_;refine A2 ⟨?_⟩;intros;refine Wc m1 ?_;exact Z2
 ·rw [show sv false z.natAbs=z from by simp only [sv,kK];omega]at m2;have wp:=mG z.natAbs om;rw [show(z.natAbs:Int)=z from by omega]at wp;refine Pi Tryz.func107 fun C=>?_
  refine A2 ⟨?_⟩;intros;refine Wc wp ?_;refine A2 ⟨?_⟩;intros;refine Wc m2 ?_;exact Z2
end Go.Ab
