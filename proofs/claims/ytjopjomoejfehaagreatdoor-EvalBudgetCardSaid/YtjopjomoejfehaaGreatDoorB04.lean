/- Texts laid one behind the other: NatE, NatF, RefC, Int, IntB, RefD. -/
import Derived.Test.YtjopjomoejfehaaGreatDoorB03
set_option linter.all false
set_option maxHeartbeats 16000000
namespace Go.Ab
open Go.Proofs
variable [Base]
theorem HR {vo va vb p c c' x y d:Nat}(h:vo+vb=va+p*c) (hd:d+4294967296*c'=x+c+y):vo+p*x+(vb+p*y)=va+p*d+p*4294967296*c':=by
 have:=congrArg (fun t=>p*t) hd;simp only [aP,←aM]at this;omega
theorem Lj (a b:Nat) (hab:b≤a) (hl:(dgs a).length≤100000000):Pu Tryz.prog 306 [nat a,nat b] (nat (a-b)):=by
 have hP:=cE a;have hQ:=cE b;have hqp:=cH hab;have hva:=aK a;have hvb:=aK b;show Pu _ _ [dg (dgs a),dg (dgs b)] _
 generalize dgs a=p at *;generalize dgs b=q at *;refine Pi Tryz.func306 fun C=>?_
 refine A2 ⟨?_⟩;intros;refine v8 p.length rfl rfl om om fun bb=>?_
 refine A2 ⟨?_⟩;intros
 refine WP.loop (ι:=Nat×Nat×List Nat) (fun s=>s.1≤p.length∧s.2.1≤1∧s.2.2.length=p.length∧D s.2.2∧val (s.2.2.take s.1)+val (q.take s.1)=val (p.take s.1)+4294967296^s.1*s.2.1) (fun s=>p.length-s.1)
  (fun s=>fm [(1,dg q),(5,lit (.slice (some ⟨bb,0,none⟩) p.length p.length)),(6,lit (.int .u64 s.2.1)),(14,dg p),(15,lit (.int .i64 p.length)),(16,lit (.int .i64 s.1))])
  (fun s=>[(bb,252,bI s.2.2)]) (0,0,List.replicate p.length 0) ⟨ak _,ak _,by simp,D.rep _,by simp [val]⟩ lfA rfl ?_
 rintro ⟨k,c,os⟩ ⟨hk,hc,hol,hO,hval⟩ K hK;simp only at hk hc hol hO hval⊢;have hp:=hP.get k;have hq:=hQ.get k;by_cases hkl:k<p.length
 ·have fin:∀x c',c'≤1→x<4294967296→p.getD k 0+4294967296*c'=x+c+q.getD k 0→∀F' H',LeF F' (fm [(1,dg q),(5,lit (.slice (some ⟨bb,0,none⟩) p.length p.length)),(6,lit (.int .u64 c')),(14,dg p),(15,lit (.int .i64 p.length)),(16,lit (.int .i64 ((k+1:Nat):Int)))])→
    H'=[(bb,252,bI (os.set k x))]→K F' H':=fun x c' hc' hx hd F' H' hF hH=>by
   refine hK F' H' (k+1,c',os.set k x) ⟨by simp only;omega,hc',by simpa using hol,hO.set k hx,?_⟩ (by simp only;omega) hF hH;simp only;rw [i3 os k _ om,bN,bN,bU];exact HR hval hd
  by_cases hkq:k<q.length
  ·by_cases hb:p.getD k 0<c+q.getD k 0
   ·refine A2 ⟨?_⟩;intros;refine k9 (p.getD k 0+4294967296-c-q.getD k 0) rfl rfl om (bz.here _) om ?_;refine A2 ⟨?_⟩;intros;exact fin _ 1 om om om _ _ lfA rfl
   ·refine A2 ⟨?_⟩;intros;refine k9 (p.getD k 0-c-q.getD k 0) rfl rfl om (bz.here _) om ?_;refine A2 ⟨?_⟩;intros;exact fin _ 0 om om om _ _ lfA rfl
  ·have hq0:q.getD k 0=0:=by simp [List.getD,cM (iG.1 hkq)]
   by_cases hb:p.getD k 0<c
   ·refine A2 ⟨?_⟩;intros;refine k9 (p.getD k 0+4294967296-c) rfl rfl om (bz.here _) om ?_;refine A2 ⟨?_⟩;intros;exact fin _ 1 om om om _ _ lfA rfl
   ·refine A2 ⟨?_⟩;intros;refine k9 (p.getD k 0-c) rfl rfl om (bz.here _) om ?_;refine A2 ⟨?_⟩;intros;exact fin _ 0 om om om _ _ lfA rfl
 ·have hke:k=p.length:=by omega
  subst hke;refine A2 ⟨?_⟩;intros;refine lm (ds:=os) 45 rfl (aq.here _) hol om om ?_;refine Wc (gu os om hO) ?_
  have hfull:val os=a-b:=by
   rw [aX,da hqp,da om,hva,hvb]at hval;have h1:=eO hO;rw [hol]at h1;rcases aN 0 c with h|h
   ·have:c=1:=by omega
    subst this;omega
   ·have:c=0:=by omega
    subst this;omega
  rw [hfull];exact Z1
theorem G7 (xs ys:List Nat) (hla:xs.length≤100000000) (hlb:ys.length≤100000000) (hA:D xs) (hB:D ys):Pu Tryz.prog 282 [dg xs,dg ys]
  (if val xs<val ys then tup [dg [],lit (.bool false)]else tup [nat (val xs-val ys),lit (.bool true)]):=by
 have hc:=BY (val xs) (val ys);refine Pi Tryz.func282 fun C=>?_
 refine A2 ⟨?_⟩;intros;refine Wc (Hy xs ys om om hA hB) ?_;by_cases h:val xs<val ys
 ·have h':=hc.2.2.2 h;rw [if_pos h];refine A2 ⟨?_⟩;intros;refine db (eJ (RV.tmp rfl) (RV.tmp rfl) ?_);intro m v hv;unfold tup at hv⊢;obtain⟨arr,rfl,hall⟩:=hv;refine⟨arr,rfl,?_⟩;rcases arr with⟨l⟩
  match l,hall with
  | [x,y],hall=>exact⟨gC _ _ hall.1,hall.2⟩
 ·have h':¬pF (val xs) (val ys)<0:=fun hh=>h (hc.2.2.1 hh)
  rw [if_neg h];refine A2 ⟨?_⟩;intros;refine Wc (gu xs om hA) ?_;refine A2 ⟨?_⟩;intros;refine Wc (gu ys om hB) ?_;refine Wc (Lj (val xs) (val ys) om (by have:=dU (eO hA);omega)) ?_;refine A2 ⟨?_⟩;intros;exact G2
theorem jS (ds:List Nat) (j x:Nat) (h:j<ds.length):val (ds.set j x)+4294967296^j*ds.getD j 0=val ds+4294967296^j*x:=by
 have h1:=AW ds j h;have h2:=AW (ds.set j x) j (by simpa using h)
 rw [List.take_set_of_le (ar _),show(ds.set j x).drop (j+1)=ds.drop (j+1)from by rw [List.drop_set];simp,
  show(ds.set j x).getD j 0=x from by simp [List.getD,h]]at h2
 rw [h1,h2,aP,aP];omega
theorem dC (ds:List Nat) (j k x:Nat) (h:j≠k):(ds.set j x).getD k 0=ds.getD k 0:=by simp [List.getD,List.getElem?_set_ne h]
theorem Ah {vo v p c x y o t:Nat}(vq:Nat){B1:Nat}(h:vo+B1*p*c=v+B1*x*vq) (ht:t=c+x*y+o){vo':Nat}(hs:vo'+B1*p*o=vo+B1*p*(t%4294967296)) :
  vo'+B1*(p*4294967296)*(t/4294967296)=v+B1*x*(vq+p*y):=by
 have e:=fx t 4294967296;have e2:=congrArg (fun z=>B1*p*z) e;rw [ht]at e2;simp only [aP,←aM]at e2 h⊢;rw [←ht]at e2;have e3:B1*p*x*y=B1*x*p*y:=by rw [iV B1 p x]
 omega
theorem mK {x y:Nat}(hx:x<4294967296) (hy:y<4294967296):(x:Int)*(y:Int)≤18446744065119617025∧0≤(x:Int)*(y:Int):=by
 have h:x*y≤4294967295*4294967295:=dk om om;have h2:((x*y:Nat):Int)≤18446744065119617025:=by omega
 rw [cW]at h2;exact⟨h2,sY om om⟩
theorem qg (xs:List Nat){k:Nat}(hl:xs.length≤k) (hk:k≤1000000000) (hA:D xs):∃p,Pu Tryz.prog 227 [dg xs] (dg p)∧p.length≤k∧D p∧val p=val xs∧p=dgs (val xs) :=
 ⟨dgs (val xs),gu xs om hA,by have:=dU (eO hA);omega,cE _,aK _,rfl⟩
theorem GP (xs ys:List Nat) (hla:xs.length≤100000000) (hlb:ys.length≤100000000) (hA:D xs) (hB:D ys):Pu Tryz.prog 196 [dg xs,dg ys] (nat (val xs*val ys)):=by
 obtain⟨p,t1,h1,hP,hva,_⟩:=qg xs hla om hA;obtain⟨q,t2,h2,hQ,hvb,_⟩:=qg ys hlb om hB;rw [←hva,←hvb];refine Pi Tryz.func196 fun C=>?_
 refine A2 ⟨?_⟩;intros;refine Wc t1 ?_;refine A2 ⟨?_⟩;intros;refine Wc t2 ?_;refine A2 ⟨?_⟩;intros;refine v8 (p.length+q.length) rfl rfl om om fun bb=>?_
 refine A2 ⟨?_⟩;intros
 refine WP.loop (ι:=Nat×List Nat) (fun s=>s.1≤p.length∧s.2.length=p.length+q.length∧D s.2∧val s.2=val (p.take s.1)*val q∧∀j,s.1+q.length≤j→s.2.getD j 0=0) (fun s=>p.length-s.1)
  (fun s=>fm [(1,dg q),(5,lit (.slice (some ⟨bb,0,none⟩) (p.length+q.length) (p.length+q.length))),(21,dg p),(22,lit (.int .i64 p.length)),(23,lit (.int .i64 s.1))])
  (fun s=>[(bb,252,bI s.2)]) (0,List.replicate (p.length+q.length) 0) ⟨ak _,by simp,D.rep _,by simp [val,tP],fun j _=>by simp [List.getD,nM];split <;> simp⟩ lfA rfl ?_
 rintro ⟨i,os⟩ ⟨hi,hol,hO,hval,hz⟩ K hK;simp only at hi hol hO hval hz⊢;by_cases hil:i<p.length
 ·have hx:=hP.get i;refine A2 ⟨?_⟩;intros
  refine WP.loop (ι:=Nat×Nat×List Nat) (fun s=>s.1≤q.length∧s.2.1<4294967296∧s.2.2.length=p.length+q.length∧D s.2.2∧val s.2.2+4294967296^i*4294967296^s.1*s.2.1=val os+4294967296^i*p.getD i 0*val (q.take s.1)∧∀j,i+q.length≤j→s.2.2.getD j 0=0) (fun s=>q.length-s.1)
   (fun s=>fm [(1,dg q),(5,lit (.slice (some ⟨bb,0,none⟩) (p.length+q.length) (p.length+q.length))),(6,lit (.int .i64 i)),(7,lit (.int .u32 (p.getD i 0:Nat))),(8,lit (.int .u64 s.2.1)),(21,dg p),(22,lit (.int .i64 p.length)),(23,lit (.int .i64 i)),(28,dg q),(29,lit (.int .i64 q.length)),(30,lit (.int .i64 s.1))])
   (fun s=>[(bb,252,bI s.2.2)]) (0,0,os) ⟨ak _,by simp,hol,hO,by simp [val],hz⟩ lfA rfl ?_
  rintro ⟨k,c,us⟩ ⟨hk,hc,hul,hU,hvu,hzu⟩ K2 hK2;simp only at hk hc hul hU hvu hzu⊢;by_cases hkl:k<q.length
  ·have hy:=hQ.get k;have ho:=hU.get (i+k);have hb:=mK hx hy;have hcast:((p.getD i 0*q.getD k 0:Nat):Int)=(p.getD i 0:Int)*(q.getD k 0:Int):=cW _ _;refine A2 ⟨?_⟩;intros;refine k9 ((c+(p.getD i 0*q.getD k 0+us.getD (i+k) 0))%4294967296) rfl rfl om (bz.here _) om ?_;refine A2 ⟨?_⟩;intros
   refine hK2 _ _ (k+1,(c+(p.getD i 0*q.getD k 0+us.getD (i+k) 0))/4294967296,us.set (i+k) ((c+(p.getD i 0*q.getD k 0+us.getD (i+k) 0))%4294967296))
    ⟨by simp only;omega,by simp only;omega,by simpa using hul,hU.set _ om,?_,fun j hj=>by rw [dC _ _ _ _ (by(try simp only at hj);omega)];exact hzu j hj⟩ (by simp only;omega) lfA rfl
   simp only;rw [bN,bU];have hs:=jS us (i+k) ((c+(p.getD i 0*q.getD k 0+us.getD (i+k) 0))%4294967296) om;rw [cF]at hs;exact Ah _ hvu om hs
  ·have hke:k=q.length:=by omega
   subst hke;have hz0:=hzu (i+q.length) om;refine A2 ⟨?_⟩;intros;refine k9 c rfl rfl om (bz.here _) om ?_;refine A2 ⟨?_⟩;intros;refine hK _ _ (i+1,us.set (i+q.length) c) ⟨by simp only;omega,by simpa using hul,hU.set _ hc,?_,fun j hj=>by rw [dC _ _ _ _ (by(try simp only at hj);omega)];exact hzu j (by(try simp only at hj);omega)⟩ (by simp only;omega) lfA rfl;simp only;have hs:=jS us (i+q.length) c om;rw [hz0,jG,cA,cF]at hs;rw [hs,hvu,aX,hval,bN,aJ]
 ·have hie:i=p.length:=by omega
  subst hie;rw [aX]at hval;refine A2 ⟨?_⟩;intros;refine lm (ds:=os) 69 rfl (aq.here _) hol om om ?_;refine Wc (gu os om hO) ?_;rw [hval];exact Z1
theorem xN (a b:Nat) (hab:b≤a) (hl:(dgs a).length≤100000000):Pu Tryz.prog 142 [nat a,nat b] (nat (a-b)):=by
 have hP:=cE a;have hQ:=cE b;have hqp:=cH hab;have hva:=aK a;have hvb:=aK b;show Pu _ _ [dg (dgs a),dg (dgs b)] _
 generalize dgs a=p at *;generalize dgs b=q at *;refine Pi Tryz.func142 fun C=>?_
 refine A2 ⟨?_⟩;intros;refine v8 p.length rfl rfl om om fun bb=>?_
 refine A2 ⟨?_⟩;intros
 refine WP.loop (ι:=Nat×Nat×List Nat) (fun s=>s.1≤p.length∧s.2.1≤1∧s.2.2.length=p.length∧D s.2.2∧val (s.2.2.take s.1)+val (q.take s.1)=val (p.take s.1)+4294967296^s.1*s.2.1) (fun s=>p.length-s.1)
  (fun s=>fm [(0,dg p),(1,dg q),(5,lit (.slice (some ⟨bb,0,none⟩) p.length p.length)),(6,lit (.int .u32 s.2.1)),(13,lit (.int .i64 p.length)),(14,lit (.int .i64 s.1))])
  (fun s=>[(bb,252,bI s.2.2)]) (0,0,List.replicate p.length 0) ⟨ak _,ak _,by simp,D.rep _,by simp [val]⟩ lfA rfl ?_
 rintro ⟨k,c,os⟩ ⟨hk,hc,hol,hO,hval⟩ K hK;simp only at hk hc hol hO hval⊢;by_cases hkl:k<p.length
 ·have hp:=hP.get k;have hq:=hQ.get k;refine A2 ⟨?_⟩;intros;refine WP.via (fun F H=>LeF F (fm [(0,dg p),(1,dg q),(5,lit (.slice (some ⟨bb,0,none⟩) p.length p.length)),(6,lit (.int .u32 c)),(7,lit (.int .i64 k)),(8,lit (.int .u32 (q.getD k 0:Nat))),(13,lit (.int .i64 p.length)),(14,lit (.int .i64 k))])∧H=[(bb,252,bI os)]) ?_ ?_
  ·refine WPd (fun h=>?_) (fun h=>?_)
   ·refine A2 ⟨?_⟩;intros;exact⟨lfA,rfl⟩
   ·have h0:q.getD k 0=0:=by simp [List.getD,cM (show q.length≤k by omega)]
    refine A2 ⟨?_⟩;intros;exact⟨lfA,rfl⟩
  rintro F H ⟨hF,rfl⟩;refine WP.le hF ?_;refine A2 ⟨?_⟩;intros;refine Wc (JM (p.getD k 0) (q.getD k 0) c hp hq hc) ?_
  have fin:∀x c',c'≤1→x<4294967296→p.getD k 0+4294967296*c'=x+c+q.getD k 0→∀F' H',LeF F' (fm [(0,dg p),(1,dg q),(5,lit (.slice (some ⟨bb,0,none⟩) p.length p.length)),(6,lit (.int .u32 c')),(13,lit (.int .i64 p.length)),(14,lit (.int .i64 ((k+1:Nat):Int)))])→
    H'=[(bb,252,bI (os.set k x))]→K F' H':=fun x c' hc' hx hd F' H' hF hH=>by
   refine hK F' H' (k+1,c',os.set k x) ⟨by simp only;omega,hc',by simpa using hol,hO.set k hx,?_⟩ (by simp only;omega) hF hH;simp only;rw [i3 os k _ om,bN,bN,bU];exact Ez hval hd
  by_cases hb:p.getD k 0<q.getD k 0+c
  ·rw [if_pos hb];refine A2 ⟨?_⟩;intros;refine k9 ((p.getD k 0+8589934592-q.getD k 0-c)%4294967296) rfl rfl rfl (bz.here _) om ?_;refine A2 ⟨?_⟩;intros;exact fin _ 1 om om om _ _ lfA rfl
  ·rw [if_neg hb];refine A2 ⟨?_⟩;intros;refine k9 ((p.getD k 0+8589934592-q.getD k 0-c)%4294967296) rfl rfl rfl (bz.here _) om ?_;refine A2 ⟨?_⟩;intros;exact fin _ 0 om om om _ _ lfA rfl
 ·have hke:k=p.length:=by omega
  subst hke;refine A2 ⟨?_⟩;intros;refine lm (ds:=os) 39 rfl (aq.here _) hol om om ?_;refine Wc (gI os om hO) ?_
  have hfull:val os=a-b:=by
   rw [aX,da hqp,da om,hva,hvb]at hval;have h1:=eO hO;rw [hol]at h1;rcases aN 0 c with h|h
   ·have:c=1:=by omega
    subst this;omega
   ·have:c=0:=by omega
    subst this;omega
  rw [hfull];exact Z1
theorem j7 (a b:Nat) (hla:(dgs a).length≤100000000) (hlb:(dgs b).length≤100000000):Pu Tryz.prog 82 [nat a,nat b] (nat (a*b)):=by
 by_cases h11:(dgs a).length=1∧(dgs b).length=1
 ·have ea:a=(dgs a).getD (Int.toNat 0) 0:=Hq h11.1;have eb:b=(dgs b).getD (Int.toNat 0) 0:=Hq h11.2;have b0:(dgs a).getD (Int.toNat 0) 0<4294967296:=(cE a).get 0;have b1:(dgs b).getD (Int.toNat 0) 0<4294967296:=(cE b).get 0;have hp:=mK b0 b1;have hq:=hp;rw [←ea,←eb]at hq;have hw:=mI (a*b) (by rw [←ea]at b0;rw [←eb]at b1;have:=dk (Nat.le_of_lt_succ (Nat.lt_succ_of_le (Nat.le_pred_of_lt b0))) (Nat.le_of_lt_succ (Nat.lt_succ_of_le (Nat.le_pred_of_lt b1)));simp at this;omega);rw [cW]at hw;refine Pi Tryz.func82 fun C=>?_
  refine A2 ⟨?_⟩;intros;rw [←ea,←eb];refine Wdc hw ?_;exact Z1
 ·have hP:=cE a;have hQ:=cE b;have hva:=aK a;have hvb:=aK b;show Pu _ _ [dg (dgs a),dg (dgs b)] _
  generalize dgs a=p at *;generalize dgs b=q at *;subst hva;subst hvb;have h12:p.length=1→q.length≠1:=fun a b=>h11 ⟨a,b⟩
  clear h11;refine Pi Tryz.func82 fun C=>?_
  repeat(refine AS ⟨?_⟩;intros)
  iterate 1 (refine O1 ⟨?_⟩;intros)
  refine WPL.nil ?_;refine zM ?_;refine WP.seq' ?_;refine WP.via (fun F H=>LeF F (fm [(0,dg p),(1,dg q)])∧H=[]) ?_ ?_
  ·by_cases h1:p.length=1
   ·have h2:=h12 h1;clear h12;refine A2 ⟨?_⟩;intros;exact⟨lfA,rfl⟩
   ·clear h12;refine A2 ⟨?_⟩;intros;exact⟨lfA,rfl⟩
  ·rintro F H ⟨hF,rfl⟩;refine WP.le hF ?_;clear h12;refine A2 ⟨?_⟩;intros;refine v8 (p.length+q.length) rfl rfl om om fun bb=>?_
   refine A2 ⟨?_⟩;intros
   refine WP.loop (ι:=Nat×List Nat) (fun s=>s.1≤p.length∧s.2.length=p.length+q.length∧D s.2∧val s.2=val (p.take s.1)*val q∧∀j,s.1+q.length≤j→s.2.getD j 0=0) (fun s=>p.length-s.1)
    (fun s=>fm [(1,dg q),(5,lit (.slice (some ⟨bb,0,none⟩) (p.length+q.length) (p.length+q.length))),(36,dg p),(37,lit (.int .i64 p.length)),(38,lit (.int .i64 s.1))])
    (fun s=>[(bb,252,bI s.2)]) (0,List.replicate (p.length+q.length) 0) ⟨ak _,by simp,D.rep _,by simp [val,tP],fun j _=>by simp [List.getD,nM];split <;> simp⟩ lfA rfl ?_
   rintro ⟨i,os⟩ ⟨hi,hol,hO,hval,hz⟩ K hK;simp only at hi hol hO hval hz⊢;by_cases hil:i<p.length
   ·have hx:=hP.get i;refine A2 ⟨?_⟩;intros
    refine WP.loop (ι:=Nat×Nat×List Nat) (fun s=>s.1≤q.length∧s.2.1<4294967296∧s.2.2.length=p.length+q.length∧D s.2.2∧val s.2.2+4294967296^i*4294967296^s.1*s.2.1=val os+4294967296^i*p.getD i 0*val (q.take s.1)∧∀j,i+q.length≤j→s.2.2.getD j 0=0) (fun s=>q.length-s.1)
     (fun s=>fm [(1,dg q),(5,lit (.slice (some ⟨bb,0,none⟩) (p.length+q.length) (p.length+q.length))),(6,lit (.int .i64 i)),(7,lit (.int .u32 (p.getD i 0:Nat))),(8,lit (.int .u64 s.2.1)),(36,dg p),(37,lit (.int .i64 p.length)),(38,lit (.int .i64 i)),(43,dg q),(44,lit (.int .i64 q.length)),(45,lit (.int .i64 s.1))])
     (fun s=>[(bb,252,bI s.2.2)]) (0,0,os) ⟨ak _,by simp,hol,hO,by simp [val],hz⟩ lfA rfl ?_
    rintro ⟨k,c,us⟩ ⟨hk,hc,hul,hU,hvu,hzu⟩ K2 hK2;simp only at hk hc hul hU hvu hzu⊢;by_cases hkl:k<q.length
    ·have hy:=hQ.get k;have ho:=hU.get (i+k);have hb:=mK hx hy;have hcast:((p.getD i 0*q.getD k 0:Nat):Int)=(p.getD i 0:Int)*(q.getD k 0:Int):=cW _ _;refine A2 ⟨?_⟩;intros;refine k9 ((p.getD i 0*q.getD k 0+us.getD (i+k) 0+c)%4294967296) rfl rfl om (bz.here _) om ?_;refine A2 ⟨?_⟩;intros
     refine hK2 _ _ (k+1,(p.getD i 0*q.getD k 0+us.getD (i+k) 0+c)/4294967296,us.set (i+k) ((p.getD i 0*q.getD k 0+us.getD (i+k) 0+c)%4294967296))
      ⟨by simp only;omega,by simp only;omega,by simpa using hul,hU.set _ om,?_,fun j hj=>by rw [dC _ _ _ _ (by(try simp only at hj);omega)];exact hzu j hj⟩ (by simp only;omega) lfA rfl
     simp only;rw [bN,bU];have hs:=jS us (i+k) ((p.getD i 0*q.getD k 0+us.getD (i+k) 0+c)%4294967296) om;rw [cF]at hs;exact Ah _ hvu om hs
    ·have hke:k=q.length:=by omega
     subst hke;have hz0:=hzu (i+q.length) om;refine A2 ⟨?_⟩;intros;refine k9 c rfl rfl om (bz.here _) om ?_;refine A2 ⟨?_⟩;intros;refine hK _ _ (i+1,us.set (i+q.length) c) ⟨by simp only;omega,by simpa using hul,hU.set _ hc,?_,fun j hj=>by rw [dC _ _ _ _ (by(try simp only at hj);omega)];exact hzu j (by(try simp only at hj);omega)⟩ (by simp only;omega) lfA rfl;simp only;have hs:=jS us (i+q.length) c om;rw [hz0,jG,cA,cF]at hs;rw [hs,hvu,aX,hval,bN,aJ]
   ·have hie:i=p.length:=by omega
    subst hie;rw [aX]at hval;refine A2 ⟨?_⟩;intros;refine lm (ds:=os) 84 rfl (aq.here _) hol om om ?_;refine Wc (gI os om hO) ?_;rw [hval];exact Z1
def sv (s:Bool) (n:Nat):Int:=bif s then -(n:Int)else n
abbrev raw (s:Bool) (xs:List Nat):SV:=ag [lit (.bool s),dg xs]
abbrev int (z:Int):SV:=ag [lit (.bool (decide (z<0))),nat z.natAbs]
theorem kY (s:Bool) (n:Nat):(sv s n).natAbs=n:=by cases s <;> simp [sv]
theorem JI (s:Bool) (n:Nat):decide (sv s n<0)=(s&&decide (0<n)):=by
 cases s
 ·simp only [sv,kI,aZ];exact ab om
 ·simp [sv]
theorem iH (z:Int):sv (decide (z<0)) z.natAbs=z:=by
 by_cases h:z<0 <;> simp [sv,h] <;> omega
theorem Em (n:Nat):sv false n=(n:Int):=rfl
theorem BG (s:Bool) (n:Nat):int (sv s n)=ag [lit (.bool (s&&decide (0<n))),nat n]:=by rw [int,kY,JI]
theorem BH (n:Nat):int (n:Int)=raw false (dgs n):=by rw [←Em,BG];rfl
theorem eW {n:Nat}(h:n≠0):0<(dgs n).length:=by
 rcases hd:dgs n with _|⟨d,l⟩
 ·have:=aK n;rw [hd]at this;exact absurd this.symm h
 ·simp
theorem zd {xs:List Nat}(h:D xs):f4 (val xs)≤32*xs.length:=j4.2 (by rw [nO];exact eO h)
theorem rN (s:Bool) (n:Nat) (h:(dgs n).length≤1000000000):Pu Tryz.prog 280 [lit (.bool s),nat n] (int (sv s n)):=by
 rw [BG];by_cases h0:n=0
 ·subst h0;have hl:(dgs 0).length=0:=by rw [cI];rfl
  cases s <;> simp only [Nat.lt_irrefl,lE,aU]
  all_goals
   refine Pi Tryz.func280 fun C=>?_
   exact Z2
 ·have hl:=eW h0;cases s <;> simp only [aZ,bd,a9 (f7 h0)]
  all_goals
   refine Pi Tryz.func280 fun C=>?_
   exact Z2
theorem yb (s:Bool) (xs:List Nat) (h:xs.length≤1000000000) (hD:D xs):Pu Tryz.prog 119 [raw s xs] (int (sv s (val xs))):=by
 rw [BG];have hb:(dgs (val xs)).length≤1000000000:=by have:=dU (eO hD);omega
 by_cases h0:val xs=0
 ·have hl:(dgs (val xs)).length=0:=by rw [h0,cI];rfl
  rw [show(s&&decide (0<val xs))=false from by rw [h0];simp];cases s
  all_goals
   refine Pi Tryz.func119 fun C=>?_
   refine A2 ⟨?_⟩;intros;refine Wc (pg xs h hD) ?_;exact Z2
 ·have hl:=eW h0;rw [a9 (f7 h0),bq];cases s
  all_goals
   refine Pi Tryz.func119 fun C=>?_
   refine A2 ⟨?_⟩;intros;refine Wc (pg xs h hD) ?_;exact Z2
theorem Oc (s:Bool) (xs:List Nat) (h:xs.length≤1000000000) (hD:D xs):Pu Tryz.prog 216 [raw s xs] (int (-sv s (val xs))):=by
 rw [show -sv s (val xs)=sv (!s) (val xs)from by cases s <;> simp [sv]];refine Pi Tryz.func216 fun C=>?_
 refine A2 ⟨?_⟩;intros;refine Wc (yb (!s) xs h hD) ?_;exact Z2
theorem tV (s:Bool) (xs:List Nat) (h:xs.length≤1000000000) (hD:D xs):Pu Tryz.prog 240 [raw s xs] (lit (.int .i64 (sv s (val xs)).sign)):=by
 by_cases h0:val xs=0
 ·rw [show(sv s (val xs)).sign=0 from by rw [h0];cases s <;> rfl];refine Pi Tryz.func240 fun C=>?_
  refine A2 ⟨?_⟩;intros;refine Wc (jd xs h hD) ?_;rw [h0,show f4 0=0 from rfl];exact Z1
 ·have hb:f4 (val xs)≠0:=fun e=>h0 (by have:=j4.1 (oY e);omega)
  have hbb:=zd hD;cases s
  ·rw [show(sv false (val xs)).sign=1 from fu (by simp only [sv,kI];omega)];refine Pi Tryz.func240 fun C=>?_
   refine A2 ⟨?_⟩;intros;refine Wc (jd xs h hD) ?_;exact Z1
  ·rw [show(sv true (val xs)).sign = -1 from gg (by simp only [sv,je];omega)];refine Pi Tryz.func240 fun C=>?_
   refine A2 ⟨?_⟩;intros;refine Wc (jd xs h hD) ?_;exact Z1
theorem Jw {x:Int}(h0 : -9223372036854775808≤x) (h1:x≤9223372036854775807):IntKind.i64.wrap (x%18446744073709551616)=x:=by
 simp only [IntKind.wrap,IntKind.bits,IntKind.signed];simp;omega
theorem tz (z:Int) (h0 : -9223372036854775808≤z) (h1:z≤9223372036854775807):Pu Tryz.prog 120 [lit (.int .i64 z)] (int z):=by
 by_cases h:z<0
 ·rw [int,a9 h];refine Pi Tryz.func120 fun C=>?_
  refine A2 ⟨?_⟩;intros;rw [show -(z%18446744073709551616)%18446744073709551616=(z.natAbs:Int)from by omega];refine Wc (lh z.natAbs om) ?_;exact Z2
 ·rw [int,ab h];refine Pi Tryz.func120 fun C=>?_
  refine A2 ⟨?_⟩;intros;generalize hn:z.natAbs=n at *;have hz:z=(n:Int):=by omega
  subst hz;refine Wc (lh n om) ?_;exact Z2
theorem IR (s:Bool) (xs:List Nat) (hl:xs.length≤1000000000) (hD:D xs) (hb:val xs<4611686018427387904):Pu Tryz.prog 242 [raw s xs] (tup [lit (.int .i64 (sv s (val xs))),lit (.bool true)]):=by
 have u:=tT xs hl hD;rw [if_pos om]at u;cases s
 ·simp only [sv,kI];refine Pi Tryz.func242 fun C=>?_
  refine A2 ⟨?_⟩;intros;refine Wc u ?_;refine A2 ⟨?_⟩;intros;exact G2
 ·simp only [sv,je];refine Pi Tryz.func242 fun C=>?_
  refine A2 ⟨?_⟩;intros;refine Wc u ?_;refine A2 ⟨?_⟩;intros;refine db (eJ (RV.tmp rfl) (RV.tmp rfl) (Le.tup2 (Le.int ?_) Lr));exact Jw om om
theorem JJ (s t:Bool) (a b:Nat):sv (s != t) (a*b)=sv s a*sv t b:=by
 cases s <;> cases t <;> simp [sv,cW,q7,Int.neg_mul]
theorem JK (s:Bool) (a b:Nat):sv s (a+b)=sv s a+sv s b:=by
 cases s <;> simp [sv] <;> omega
theorem B0 (s t:Bool) (h:s≠t){a b:Nat}(hab:b≤a):sv s (a-b)=sv s a+sv t b:=by
 cases s <;> cases t <;> simp_all [sv] <;> omega
theorem Oh (s t:Bool) (xs ys:List Nat) (hlx:xs.length≤100000000) (hly:ys.length≤100000000) (hX:D xs) (hY:D ys):Pu Tryz.prog 255 [raw s xs,raw t ys] (int (sv s (val xs)*sv t (val ys))):=by
 have hl:=dU (cR (Nat.mul_lt_mul'' (eO hX) (eO hY)) (oY (cF ..).symm));rw [←JJ];refine Pi Tryz.func255 fun C=>?_
 refine A2 ⟨?_⟩;intros;refine Wdc (GP xs ys hlx hly hX hY) ?_;refine A2 ⟨?_⟩;intros;refine Wdc (rN (s != t) (val xs*val ys) om) ?_;exact Z2
theorem yO (a b:Nat):(dgs (a+b)).length≤max (dgs a).length (dgs b).length+1:=by
 refine dU ?_;have h1:=o6 a;have h2:=o6 b;have b1:4294967296^(dgs a).length≤4294967296^max (dgs a).length (dgs b).length:=gQ om om;have b2:4294967296^(dgs b).length≤4294967296^max (dgs a).length (dgs b).length:=gQ om om;rw [bU];omega
theorem eV (a b:Nat):(dgs (a*b)).length≤(dgs a).length+(dgs b).length:=by
 refine dU ?_;rw [cF];exact Nat.mul_lt_mul'' (o6 a) (o6 b)
theorem mv {xs:List Nat}(h:D xs):(dgs (val xs)).length≤xs.length:=dU (eO h)
theorem Pj (s t:Bool) (xs ys:List Nat) (hlx:xs.length≤100000000) (hly:ys.length≤100000000) (hX:D xs) (hY:D ys):Pu Tryz.prog 256 [raw s xs,raw t ys] (int (sv s (val xs)+sv t (val ys))):=by
 have hl1:=mv hX;have hl2:=mv hY;have s1:=G7 xs ys hlx hly hX hY;have s2:=G7 ys xs hly hlx hY hX;by_cases hst:s=t
 ·subst hst;have hl:=yO (val xs) (val ys);rw [←JK];cases s
  all_goals
   refine Pi Tryz.func256 fun C=>?_
   refine A2 ⟨?_⟩;intros;refine Wdc (Pk xs ys hlx hly hX hY) ?_;refine A2 ⟨?_⟩;intros;refine Wdc (rN _ (val xs+val ys) om) ?_;exact Z2
 ·by_cases hlt:val xs<val ys
  ·rw [if_pos hlt]at s1;rw [if_neg om]at s2;have hl:=cH (nL (val ys) (val xs));rw [Int.add_comm,←B0 t s (lG hst) om];cases s <;> cases t <;> first|exact absurd rfl hst|skip
   all_goals
    refine Pi Tryz.func256 fun C=>?_
    refine A2 ⟨?_⟩;intros;refine Wc s1 ?_;refine A2 ⟨?_⟩;intros;refine Wc s2 ?_;refine A2 ⟨?_⟩;intros;refine Wc (rN _ (val ys-val xs) om) ?_;exact Z2
  ·rw [if_neg om]at s1;have hl:=cH (nL (val xs) (val ys));rw [←B0 s t hst om];cases s <;> cases t <;> first|exact absurd rfl hst|skip
   all_goals
    refine Pi Tryz.func256 fun C=>?_
    refine A2 ⟨?_⟩;intros;refine Wc s1 ?_;refine A2 ⟨?_⟩;intros;refine Wc (rN _ (val xs-val ys) om) ?_;exact Z2
theorem dR (s:Bool) (n:Nat) (h:(dgs n).length≤1000000000):Pu Tryz.prog 84 [lit (.bool s),nat n] (int (sv s n)):=by
 rw [BG];by_cases h0:n=0
 ·subst h0;have hl:(dgs 0).length=0:=by rw [cI];rfl
  cases s <;> simp only [Nat.lt_irrefl,lE,aU]
  all_goals
   refine Pi Tryz.func84 fun C=>?_
   exact Z2
 ·have hl:=eW h0;cases s <;> simp only [aZ,bd,a9 (f7 h0)]
  all_goals
   refine Pi Tryz.func84 fun C=>?_
   exact Z2
theorem rO (z:Int) (h:(dgs z.natAbs).length≤1000000000):Pu Tryz.prog 132 [int z] (lit (.int .i64 z.sign)):=by
 rcases iw z 0 with h0|h0|h0
 ·have hl:=eW (n:=z.natAbs) om;rw [gg h0,int,a9 h0];refine Pi Tryz.func132 fun C=>?_
  exact Z1
 ·subst h0;have hl:(dgs (Int.natAbs 0)).length=0:=by rw [show Int.natAbs 0=0 from rfl,cI];rfl
  refine Pi Tryz.func132 fun C=>?_
  exact Z1
 ·have hl:=eW (n:=z.natAbs) om;rw [fu h0,int,ab om];refine Pi Tryz.func132 fun C=>?_
  exact Z1
theorem nS (z:Int) (h:(dgs z.natAbs).length≤1000000000):Pu Tryz.prog 79 [int z] (int (-z)):=by
 have m:=dR (!decide (z<0)) z.natAbs h;rw [show sv (!decide (z<0)) z.natAbs = -z from by by_cases h:z<0 <;> simp [sv,h] <;> omega]at m;refine Pi Tryz.func79 fun C=>?_
 refine A2 ⟨?_⟩;intros;refine Wc m ?_;exact Z2
theorem ua (a b:Int) (h1:(dgs a.natAbs).length≤100000000) (h2:(dgs b.natAbs).length≤100000000):Pu Tryz.prog 99 [int a,int b] (int (a*b)):=by
 have hl:=eV a.natAbs b.natAbs;have m:=dR (decide (a<0) != decide (b<0)) (a.natAbs*b.natAbs) om;rw [JJ,iH,iH]at m;refine Pi Tryz.func99 fun C=>?_
 refine A2 ⟨?_⟩;intros;refine Wdc (j7 a.natAbs b.natAbs h1 h2) ?_;refine A2 ⟨?_⟩;intros;refine Wdc m ?_;exact Z2
theorem xU (a b:Int) (h1:(dgs a.natAbs).length≤100000000) (h2:(dgs b.natAbs).length≤100000000):Pu Tryz.prog 97 [int a,int b] (int (a+b)):=by
 have key:∀(s t:Bool) (x y:Nat),(dgs x).length≤100000000→(dgs y).length≤100000000→Pu Tryz.prog 97 [raw s (dgs x),raw t (dgs y)] (int (sv s x+sv t y)):=by
  intro s t x y hx hy;have cm:=uc x y om om;have cb:=BY x y;by_cases hst:s=t
  ·subst hst;have hl:=yO x y;rw [←JK];cases s
   all_goals
    refine Pi Tryz.func97 fun C=>?_
    refine A2 ⟨?_⟩;intros;refine Wdc (Ng x y hx hy) ?_;refine A2 ⟨?_⟩;intros;refine Wdc (dR _ (x+y) om) ?_;exact Z2
  ·by_cases hlt:x<y
   ·have hl:=cH (nL y x);rw [mS hlt]at cm;clear cb;rw [Int.add_comm,←B0 t s (lG hst) om];cases s <;> cases t <;> first|exact absurd rfl hst|skip
    all_goals
     refine Pi Tryz.func97 fun C=>?_
     refine A2 ⟨?_⟩;intros;refine Wc cm ?_;refine A2 ⟨?_⟩;intros;refine Wdc (xN y x om hy) ?_;refine A2 ⟨?_⟩;intros;refine Wdc (dR _ (y-x) om) ?_;exact Z2
   ·have hl:=cH (nL x y);have hc:0≤pF x y:=by omega
    generalize pF x y=c at *;have hc2:c≤1:=cb.2.1;clear cb;rw [←B0 s t hst om];cases s <;> cases t <;> first|exact absurd rfl hst|skip
    all_goals
     refine Pi Tryz.func97 fun C=>?_
     refine A2 ⟨?_⟩;intros;refine Wc cm ?_;refine A2 ⟨?_⟩;intros;refine Wdc (xN x y om hx) ?_;refine A2 ⟨?_⟩;intros;refine Wdc (dR _ (x-y) om) ?_;exact Z2
 have k:=key (decide (a<0)) (decide (b<0)) a.natAbs b.natAbs h1 h2;rwa [iH,iH]at k
theorem Gi (z:Int) (h0 : -9223372036854775808≤z) (h1:z≤9223372036854775807):Pu Tryz.prog 86 [lit (.int .i64 z)] (int z):=by
 have hl:=dU (n:=z.natAbs) (k:=2) om;have m1:=dR true z.natAbs om;have m2:=dR false z.natAbs om;by_cases h:z<0
 ·rw [show sv true z.natAbs=z from by simp only [sv,je];omega]at m1;refine Pi Tryz.func86 fun C=>?_
  refine A2 ⟨?_⟩;intros;rw [show -(z%18446744073709551616)%18446744073709551616=(z.natAbs:Int)from by omega];refine Wc (mI z.natAbs om) ?_;refine A2 ⟨?_⟩;intros;refine Wc m1 ?_;exact Z2
 ·rw [show sv false z.natAbs=z from by simp only [sv,kI];omega]at m2;have wp:=mI z.natAbs om;rw [show(z.natAbs:Int)=z from by omega]at wp;refine Pi Tryz.func86 fun C=>?_
  refine A2 ⟨?_⟩;intros;refine Wc wp ?_;refine A2 ⟨?_⟩;intros;refine Wc m2 ?_;exact Z2
end Go.Ab
