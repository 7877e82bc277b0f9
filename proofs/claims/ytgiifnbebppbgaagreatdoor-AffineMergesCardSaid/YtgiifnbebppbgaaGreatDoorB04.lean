/- Texts laid one behind the other: NatE, NatF, RefC, Int, IntB, RefD. -/
import Derived.Test.YtgiifnbebppbgaaGreatDoorB03
set_option linter.unusedSectionVars false
set_option linter.unusedVariables false
set_option linter.unusedSimpArgs false
namespace Go.Ab
open Go.Proofs
variable [Base]
theorem sub_digit {vo va vb p c c' x y d:Nat}(h:vo+vb=va+p*c) (hd:d+4294967296*c'=x+c+y):vo+p*x+(vb+p*y)=va+p*d+p*4294967296*c':=by
 have:=congrArg (fun t=>p*t) hd
 simp only [Nat.mul_add,←Nat.mul_assoc]at this
 omega
set_option maxHeartbeats 2000000 in
theorem less_nat (a b:Nat) (hab:b≤a) (hl:(dgs a).length≤100000000):Pu Tryz.prog 314 [nat a,nat b] (nat (a-b)):=by
 have hP:=D_dgs a
 have hQ:=D_dgs b
 have hqp:=len_mono hab
 have hva:=val_dgs a
 have hvb:=val_dgs b
 show Pu _ _ [dg (dgs a),dg (dgs b)] _
 generalize dgs a=p at *
 generalize dgs b=q at *
 refine Pu.intro Tryz.func314 rfl (by kernel_rfl) fun C=>?_
 repeat(refine A1 ⟨?_⟩;intros)
 refine WmkD p.length rfl rfl (by omega) (by omega) fun bb=>?_
 repeat(refine A1 ⟨?_⟩;intros)
 refine WP.loop (ι:=Nat×Nat×List Nat) (fun s=>s.1≤p.length∧s.2.1≤1∧s.2.2.length=p.length∧D s.2.2∧val (s.2.2.take s.1)+val (q.take s.1)=val (p.take s.1)+4294967296^s.1*s.2.1) (fun s=>p.length-s.1)
  (fun s=>fm [(1,dg q),(5,lit (.slice (some ⟨bb,0,none⟩) p.length p.length)),(6,lit (.int .u64 s.2.1)),(14,dg p),(15,lit (.int .i64 p.length)),(16,lit (.int .i64 s.1))])
  (fun s=>[(bb,258,dcells s.2.2)]) (0,0,List.replicate p.length 0) ⟨Nat.zero_le _,Nat.zero_le _,by simp,D.rep _,by simp [val]⟩ lfA rfl ?_
 rintro ⟨k,c,os⟩ ⟨hk,hc,hol,hO,hval⟩ K hK
 simp only at hk hc hol hO hval⊢
 have hp:=hP.get k
 have hq:=hQ.get k
 by_cases hkl:k<p.length
 ·have fin:∀x c',c'≤1→x<4294967296→p.getD k 0+4294967296*c'=x+c+q.getD k 0→∀F' H',LeF F' (fm [(1,dg q),(5,lit (.slice (some ⟨bb,0,none⟩) p.length p.length)),(6,lit (.int .u64 c')),(14,dg p),(15,lit (.int .i64 p.length)),(16,lit (.int .i64 ((k+1:Nat):Int)))])→
    H'=[(bb,258,dcells (os.set k x))]→K F' H':=fun x c' hc' hx hd F' H' hF hH=>by
   refine hK F' H' (k+1,c',os.set k x) ⟨by simp only;omega,hc',by simpa using hol,hO.set k hx,?_⟩ (by simp only;omega) hF hH
   simp only
   rw [val_take_set os k _ (by omega),val_take_succ',val_take_succ',Nat.pow_succ]
   exact sub_digit hval hd
  by_cases hkq:k<q.length
  ·by_cases hb:p.getD k 0<c+q.getD k 0
   ·repeat(refine A1 ⟨?_⟩;intros)
    refine WstD (p.getD k 0+4294967296-c-q.getD k 0) rfl rfl (by omega) (HUpd.here _) (by omega) ?_
    repeat(refine A1 ⟨?_⟩;intros)
    exact fin _ 1 (by omega) (by omega) (by omega) _ _ lfA rfl
   ·repeat(refine A1 ⟨?_⟩;intros)
    refine WstD (p.getD k 0-c-q.getD k 0) rfl rfl (by omega) (HUpd.here _) (by omega) ?_
    repeat(refine A1 ⟨?_⟩;intros)
    exact fin _ 0 (by omega) (by omega) (by omega) _ _ lfA rfl
  ·have hq0:q.getD k 0=0:=by simp [List.getD,List.getElem?_eq_none (Nat.not_lt.1 hkq)]
   by_cases hb:p.getD k 0<c
   ·repeat(refine A1 ⟨?_⟩;intros)
    refine WstD (p.getD k 0+4294967296-c) rfl rfl (by omega) (HUpd.here _) (by omega) ?_
    repeat(refine A1 ⟨?_⟩;intros)
    exact fin _ 1 (by omega) (by omega) (by omega) _ _ lfA rfl
   ·repeat(refine A1 ⟨?_⟩;intros)
    refine WstD (p.getD k 0-c) rfl rfl (by omega) (HUpd.here _) (by omega) ?_
    repeat(refine A1 ⟨?_⟩;intros)
    exact fin _ 0 (by omega) (by omega) (by omega) _ _ lfA rfl
 ·have hke:k=p.length:=by omega
  subst hke
  repeat(refine A1 ⟨?_⟩;intros)
  refine WpubD (ds:=os) 45 rfl (HDel.here _) hol (by omega) (by omega) ?_
  refine Wc (trim_nat os (by omega) hO) ?_
  have hfull:val os=a-b:=by
   rw [List.take_length,List.take_of_length_le hqp,List.take_of_length_le (by omega),hva,hvb]at hval
   have h1:=val_lt hO
   rw [hol]at h1
   rcases Nat.lt_or_ge 0 c with h|h
   ·have:c=1:=by omega
    subst this;omega
   ·have:c=0:=by omega
    subst this;omega
  rw [hfull]
  repeat(refine A1 ⟨?_⟩;intros)
  exact E1
set_option maxHeartbeats 1000000 in
theorem sub_nat (xs ys:List Nat) (hla:xs.length≤100000000) (hlb:ys.length≤100000000) (hA:D xs) (hB:D ys):Pu Tryz.prog 294 [dg xs,dg ys]
  (if val xs<val ys then tup [dg [],lit (.bool false)]else tup [nat (val xs-val ys),lit (.bool true)]):=by
 have hc:=cmpN_bd (val xs) (val ys)
 refine Pu.intro Tryz.func294 rfl (by kernel_rfl) fun C=>?_
 repeat(refine A1 ⟨?_⟩;intros)
 refine Wc (cmp_nat xs ys (by omega) (by omega) hA hB) ?_
 by_cases h:val xs<val ys
 ·have h':=hc.2.2.2 h
  rw [if_pos h]
  repeat(refine A1 ⟨?_⟩;intros)
  refine endR (end2 (RV.tmp rfl) (RV.tmp rfl) ?_)
  intro m v hv
  unfold tup at hv⊢
  obtain⟨arr,rfl,hall⟩:=hv
  refine⟨arr,rfl,?_⟩
  rcases arr with⟨l⟩
  match l,hall with
  | [x,y],hall=>exact⟨le_nil _ _ hall.1,hall.2⟩
 ·have h':¬cmpN (val xs) (val ys)<0:=fun hh=>h (hc.2.2.1 hh)
  rw [if_neg h]
  repeat(refine A1 ⟨?_⟩;intros)
  refine Wc (trim_nat xs (by omega) hA) ?_
  repeat(refine A1 ⟨?_⟩;intros)
  refine Wc (trim_nat ys (by omega) hB) ?_
  refine Wc (less_nat (val xs) (val ys) (by omega) (by have:=len_le (val_lt hA);omega)) ?_
  repeat(refine A1 ⟨?_⟩;intros)
  ((first|refine endR ?_|refine endN ?_);exact end2 (RV.tmp rfl) (RV.tmp rfl) (Le.refl _))
theorem val_set (ds:List Nat) (j x:Nat) (h:j<ds.length):val (ds.set j x)+4294967296^j*ds.getD j 0=val ds+4294967296^j*x:=by
 have h1:=val_at ds j h
 have h2:=val_at (ds.set j x) j (by simpa using h)
 rw [List.take_set_of_le (Nat.le_refl _),show(ds.set j x).drop (j+1)=ds.drop (j+1)from by rw [List.drop_set];simp,
  show(ds.set j x).getD j 0=x from by simp [List.getD,h]]at h2
 rw [h1,h2,Nat.mul_add,Nat.mul_add]
 omega
theorem getD_set_ne' (ds:List Nat) (j k x:Nat) (h:j≠k):(ds.set j x).getD k 0=ds.getD k 0:=by simp [List.getD,List.getElem?_set_ne h]
theorem mul_inner {vo v p c x y o t:Nat}(vq:Nat){B1:Nat}(h:vo+B1*p*c=v+B1*x*vq) (ht:t=c+x*y+o){vo':Nat}(hs:vo'+B1*p*o=vo+B1*p*(t%4294967296)) :
  vo'+B1*(p*4294967296)*(t/4294967296)=v+B1*x*(vq+p*y):=by
 have e:=Nat.div_add_mod t 4294967296
 have e2:=congrArg (fun z=>B1*p*z) e
 rw [ht]at e2
 simp only [Nat.mul_add,←Nat.mul_assoc]at e2 h⊢
 rw [←ht]at e2
 have e3:B1*p*x*y=B1*x*p*y:=by rw [Nat.mul_right_comm B1 p x]
 omega
theorem prod_bd {x y:Nat}(hx:x<4294967296) (hy:y<4294967296):(x:Int)*(y:Int)≤18446744065119617025∧0≤(x:Int)*(y:Int):=by
 have h:x*y≤4294967295*4294967295:=Nat.mul_le_mul (by omega) (by omega)
 have h2:((x*y:Nat):Int)≤18446744065119617025:=by omega
 rw [Int.natCast_mul]at h2
 exact⟨h2,Int.mul_nonneg (by omega) (by omega)⟩
theorem trimmed (xs:List Nat){k:Nat}(hl:xs.length≤k) (hk:k≤1000000000) (hA:D xs):∃p,Pu Tryz.prog 266 [dg xs] (dg p)∧p.length≤k∧D p∧val p=val xs∧p=dgs (val xs) :=
 ⟨dgs (val xs),trim_nat xs (by omega) hA,by have:=len_le (val_lt hA);omega,D_dgs _,val_dgs _,rfl⟩
set_option maxHeartbeats 4000000 in
theorem mul_nat (xs ys:List Nat) (hla:xs.length≤100000000) (hlb:ys.length≤100000000) (hA:D xs) (hB:D ys):Pu Tryz.prog 252 [dg xs,dg ys] (nat (val xs*val ys)):=by
 obtain⟨p,t1,h1,hP,hva,_⟩:=trimmed xs hla (by omega) hA
 obtain⟨q,t2,h2,hQ,hvb,_⟩:=trimmed ys hlb (by omega) hB
 rw [←hva,←hvb]
 refine Pu.intro Tryz.func252 rfl (by kernel_rfl) fun C=>?_
 repeat(refine A1 ⟨?_⟩;intros)
 refine Wc t1 ?_
 repeat(refine A1 ⟨?_⟩;intros)
 refine Wc t2 ?_
 repeat(refine A1 ⟨?_⟩;intros)
 refine WmkD (p.length+q.length) rfl rfl (by omega) (by omega) fun bb=>?_
 repeat(refine A1 ⟨?_⟩;intros)
 refine WP.loop (ι:=Nat×List Nat) (fun s=>s.1≤p.length∧s.2.length=p.length+q.length∧D s.2∧val s.2=val (p.take s.1)*val q∧∀j,s.1+q.length≤j→s.2.getD j 0=0) (fun s=>p.length-s.1)
  (fun s=>fm [(1,dg q),(5,lit (.slice (some ⟨bb,0,none⟩) (p.length+q.length) (p.length+q.length))),(21,dg p),(22,lit (.int .i64 p.length)),(23,lit (.int .i64 s.1))])
  (fun s=>[(bb,258,dcells s.2)]) (0,List.replicate (p.length+q.length) 0) ⟨Nat.zero_le _,by simp,D.rep _,by simp [val,val_rep],fun j _=>by simp [List.getD,List.getElem?_replicate];split <;> simp⟩ lfA rfl ?_
 rintro ⟨i,os⟩ ⟨hi,hol,hO,hval,hz⟩ K hK
 simp only at hi hol hO hval hz⊢
 by_cases hil:i<p.length
 ·have hx:=hP.get i
  repeat(refine A1 ⟨?_⟩;intros)
  refine WP.loop (ι:=Nat×Nat×List Nat) (fun s=>s.1≤q.length∧s.2.1<4294967296∧s.2.2.length=p.length+q.length∧D s.2.2∧val s.2.2+4294967296^i*4294967296^s.1*s.2.1=val os+4294967296^i*p.getD i 0*val (q.take s.1)∧∀j,i+q.length≤j→s.2.2.getD j 0=0) (fun s=>q.length-s.1)
   (fun s=>fm [(1,dg q),(5,lit (.slice (some ⟨bb,0,none⟩) (p.length+q.length) (p.length+q.length))),(6,lit (.int .i64 i)),(7,lit (.int .u32 (p.getD i 0:Nat))),(8,lit (.int .u64 s.2.1)),(21,dg p),(22,lit (.int .i64 p.length)),(23,lit (.int .i64 i)),(28,dg q),(29,lit (.int .i64 q.length)),(30,lit (.int .i64 s.1))])
   (fun s=>[(bb,258,dcells s.2.2)]) (0,0,os) ⟨Nat.zero_le _,by simp,hol,hO,by simp [val],hz⟩ lfA rfl ?_
  rintro ⟨k,c,us⟩ ⟨hk,hc,hul,hU,hvu,hzu⟩ K2 hK2
  simp only at hk hc hul hU hvu hzu⊢
  by_cases hkl:k<q.length
  ·have hy:=hQ.get k
   have ho:=hU.get (i+k)
   have hb:=prod_bd hx hy
   have hcast:((p.getD i 0*q.getD k 0:Nat):Int)=(p.getD i 0:Int)*(q.getD k 0:Int):=Int.natCast_mul _ _
   repeat(refine A1 ⟨?_⟩;intros)
   refine WstD ((c+(p.getD i 0*q.getD k 0+us.getD (i+k) 0))%4294967296) rfl rfl (by omega) (HUpd.here _) (by omega) ?_
   repeat(refine A1 ⟨?_⟩;intros)
   refine hK2 _ _ (k+1,(c+(p.getD i 0*q.getD k 0+us.getD (i+k) 0))/4294967296,us.set (i+k) ((c+(p.getD i 0*q.getD k 0+us.getD (i+k) 0))%4294967296))
    ⟨by simp only;omega,by simp only;omega,by simpa using hul,hU.set _ (by omega),?_,fun j hj=>by rw [getD_set_ne' _ _ _ _ (by(try simp only at hj);omega)];exact hzu j hj⟩ (by simp only;omega) lfA rfl
   simp only
   rw [val_take_succ',Nat.pow_succ]
   have hs:=val_set us (i+k) ((c+(p.getD i 0*q.getD k 0+us.getD (i+k) 0))%4294967296) (by omega)
   rw [Nat.pow_add]at hs
   exact mul_inner _ hvu (by omega) hs
  ·have hke:k=q.length:=by omega
   subst hke
   have hz0:=hzu (i+q.length) (by omega)
   repeat(refine A1 ⟨?_⟩;intros)
   refine WstD c rfl rfl (by omega) (HUpd.here _) (by omega) ?_
   repeat(refine A1 ⟨?_⟩;intros)
   refine hK _ _ (i+1,us.set (i+q.length) c) ⟨by simp only;omega,by simpa using hul,hU.set _ hc,?_,fun j hj=>by rw [getD_set_ne' _ _ _ _ (by(try simp only at hj);omega)];exact hzu j (by(try simp only at hj);omega)⟩ (by simp only;omega) lfA rfl
   simp only
   have hs:=val_set us (i+q.length) c (by omega)
   rw [hz0,Nat.mul_zero,Nat.add_zero,Nat.pow_add]at hs
   rw [hs,hvu,List.take_length,hval,val_take_succ',Nat.add_mul]
 ·have hie:i=p.length:=by omega
  subst hie
  rw [List.take_length]at hval
  repeat(refine A1 ⟨?_⟩;intros)
  refine WpubD (ds:=os) 69 rfl (HDel.here _) hol (by omega) (by omega) ?_
  refine Wc (trim_nat os (by omega) hO) ?_
  rw [hval]
  repeat(refine A1 ⟨?_⟩;intros)
  exact E1
set_option maxHeartbeats 2000000 in
theorem rless_pu (a b:Nat) (hab:b≤a) (hl:(dgs a).length≤100000000):Pu Tryz.prog 212 [nat a,nat b] (nat (a-b)):=by
 have hP:=D_dgs a
 have hQ:=D_dgs b
 have hqp:=len_mono hab
 have hva:=val_dgs a
 have hvb:=val_dgs b
 show Pu _ _ [dg (dgs a),dg (dgs b)] _
 generalize dgs a=p at *
 generalize dgs b=q at *
 refine Pu.intro Tryz.func212 rfl (by kernel_rfl) fun C=>?_
 repeat(refine A1 ⟨?_⟩;intros)
 refine WmkD p.length rfl rfl (by omega) (by omega) fun bb=>?_
 repeat(refine A1 ⟨?_⟩;intros)
 refine WP.loop (ι:=Nat×Nat×List Nat) (fun s=>s.1≤p.length∧s.2.1≤1∧s.2.2.length=p.length∧D s.2.2∧val (s.2.2.take s.1)+val (q.take s.1)=val (p.take s.1)+4294967296^s.1*s.2.1) (fun s=>p.length-s.1)
  (fun s=>fm [(0,dg p),(1,dg q),(5,lit (.slice (some ⟨bb,0,none⟩) p.length p.length)),(6,lit (.int .u32 s.2.1)),(13,lit (.int .i64 p.length)),(14,lit (.int .i64 s.1))])
  (fun s=>[(bb,258,dcells s.2.2)]) (0,0,List.replicate p.length 0) ⟨Nat.zero_le _,Nat.zero_le _,by simp,D.rep _,by simp [val]⟩ lfA rfl ?_
 rintro ⟨k,c,os⟩ ⟨hk,hc,hol,hO,hval⟩ K hK
 simp only at hk hc hol hO hval⊢
 by_cases hkl:k<p.length
 ·have hp:=hP.get k
  have hq:=hQ.get k
  repeat(refine A1 ⟨?_⟩;intros)
  refine WP.via (fun F H=>LeF F (fm [(0,dg p),(1,dg q),(5,lit (.slice (some ⟨bb,0,none⟩) p.length p.length)),(6,lit (.int .u32 c)),(7,lit (.int .i64 k)),(8,lit (.int .u32 (q.getD k 0:Nat))),(13,lit (.int .i64 p.length)),(14,lit (.int .i64 k))])∧H=[(bb,258,dcells os)]) ?_ ?_
  ·refine WPd (fun h=>?_) (fun h=>?_)
   ·repeat(refine A1 ⟨?_⟩;intros)
    exact⟨lfA,rfl⟩
   ·have h0:q.getD k 0=0:=by simp [List.getD,List.getElem?_eq_none (show q.length≤k by omega)]
    repeat(refine A1 ⟨?_⟩;intros)
    exact⟨lfA,rfl⟩
  rintro F H ⟨hF,rfl⟩
  refine WP.le hF ?_
  repeat(refine A1 ⟨?_⟩;intros)
  refine Wc (sub32_pu (p.getD k 0) (q.getD k 0) c hp hq hc) ?_
  have fin:∀x c',c'≤1→x<4294967296→p.getD k 0+4294967296*c'=x+c+q.getD k 0→∀F' H',LeF F' (fm [(0,dg p),(1,dg q),(5,lit (.slice (some ⟨bb,0,none⟩) p.length p.length)),(6,lit (.int .u32 c')),(13,lit (.int .i64 p.length)),(14,lit (.int .i64 ((k+1:Nat):Int)))])→
    H'=[(bb,258,dcells (os.set k x))]→K F' H':=fun x c' hc' hx hd F' H' hF hH=>by
   refine hK F' H' (k+1,c',os.set k x) ⟨by simp only;omega,hc',by simpa using hol,hO.set k hx,?_⟩ (by simp only;omega) hF hH
   simp only
   rw [val_take_set os k _ (by omega),val_take_succ',val_take_succ',Nat.pow_succ]
   exact rsub_digit hval hd
  by_cases hb:p.getD k 0<q.getD k 0+c
  ·rw [if_pos hb]
   repeat(refine A1 ⟨?_⟩;intros)
   refine WstD ((p.getD k 0+8589934592-q.getD k 0-c)%4294967296) rfl rfl rfl (HUpd.here _) (by omega) ?_
   repeat(refine A1 ⟨?_⟩;intros)
   exact fin _ 1 (by omega) (by omega) (by omega) _ _ lfA rfl
  ·rw [if_neg hb]
   repeat(refine A1 ⟨?_⟩;intros)
   refine WstD ((p.getD k 0+8589934592-q.getD k 0-c)%4294967296) rfl rfl rfl (HUpd.here _) (by omega) ?_
   repeat(refine A1 ⟨?_⟩;intros)
   exact fin _ 0 (by omega) (by omega) (by omega) _ _ lfA rfl
 ·have hke:k=p.length:=by omega
  subst hke
  repeat(refine A1 ⟨?_⟩;intros)
  refine WpubD (ds:=os) 39 rfl (HDel.here _) hol (by omega) (by omega) ?_
  refine Wc (rtrim_nat os (by omega) hO) ?_
  have hfull:val os=a-b:=by
   rw [List.take_length,List.take_of_length_le hqp,List.take_of_length_le (by omega),hva,hvb]at hval
   have h1:=val_lt hO
   rw [hol]at h1
   rcases Nat.lt_or_ge 0 c with h|h
   ·have:c=1:=by omega
    subst this;omega
   ·have:c=0:=by omega
    subst this;omega
  rw [hfull]
  repeat(refine A1 ⟨?_⟩;intros)
  exact E1
set_option maxHeartbeats 4000000 in
theorem rprod_pu (a b:Nat) (hla:(dgs a).length≤100000000) (hlb:(dgs b).length≤100000000):Pu Tryz.prog 90 [nat a,nat b] (nat (a*b)):=by
 by_cases h11:(dgs a).length=1∧(dgs b).length=1
 ·have ea:a=(dgs a).getD (Int.toNat 0) 0:=dgs_1 h11.1
  have eb:b=(dgs b).getD (Int.toNat 0) 0:=dgs_1 h11.2
  have b0:(dgs a).getD (Int.toNat 0) 0<4294967296:=(D_dgs a).get 0
  have b1:(dgs b).getD (Int.toNat 0) 0<4294967296:=(D_dgs b).get 0
  have hp:=prod_bd b0 b1
  have hq:=hp
  rw [←ea,←eb]at hq
  have hw:=word_pu (a*b) (by rw [←ea]at b0;rw [←eb]at b1;have:=Nat.mul_le_mul (Nat.le_of_lt_succ (Nat.lt_succ_of_le (Nat.le_pred_of_lt b0))) (Nat.le_of_lt_succ (Nat.lt_succ_of_le (Nat.le_pred_of_lt b1)));simp at this;omega)
  rw [Int.natCast_mul]at hw
  refine Pu.intro Tryz.func90 rfl (by kernel_rfl) fun C=>?_
  repeat(refine A1 ⟨?_⟩;intros)
  rw [←ea,←eb]
  refine Wdc hw ?_
  repeat(refine A1 ⟨?_⟩;intros)
  exact E1
 ·have hP:=D_dgs a
  have hQ:=D_dgs b
  have hva:=val_dgs a
  have hvb:=val_dgs b
  show Pu _ _ [dg (dgs a),dg (dgs b)] _
  generalize dgs a=p at *
  generalize dgs b=q at *
  subst hva
  subst hvb
  have h12:p.length=1→q.length≠1:=fun a b=>h11 ⟨a,b⟩
  clear h11
  refine Pu.intro Tryz.func90 rfl (by kernel_rfl) fun C=>?_
  repeat(refine AS ⟨?_⟩;intros)
  iterate 1 (refine O1 ⟨?_⟩;intros)
  refine WPL.nil ?_
  refine thenN ?_
  refine WP.seq' ?_
  refine WP.via (fun F H=>LeF F (fm [(0,dg p),(1,dg q)])∧H=[]) ?_ ?_
  ·by_cases h1:p.length=1
   ·have h2:=h12 h1
    clear h12
    repeat(refine A1 ⟨?_⟩;intros)
    exact⟨lfA,rfl⟩
   ·clear h12
    repeat(refine A1 ⟨?_⟩;intros)
    exact⟨lfA,rfl⟩
  ·rintro F H ⟨hF,rfl⟩
   refine WP.le hF ?_
   clear h12
   repeat(refine A1 ⟨?_⟩;intros)
   refine WmkD (p.length+q.length) rfl rfl (by omega) (by omega) fun bb=>?_
   repeat(refine A1 ⟨?_⟩;intros)
   refine WP.loop (ι:=Nat×List Nat) (fun s=>s.1≤p.length∧s.2.length=p.length+q.length∧D s.2∧val s.2=val (p.take s.1)*val q∧∀j,s.1+q.length≤j→s.2.getD j 0=0) (fun s=>p.length-s.1)
    (fun s=>fm [(1,dg q),(5,lit (.slice (some ⟨bb,0,none⟩) (p.length+q.length) (p.length+q.length))),(36,dg p),(37,lit (.int .i64 p.length)),(38,lit (.int .i64 s.1))])
    (fun s=>[(bb,258,dcells s.2)]) (0,List.replicate (p.length+q.length) 0) ⟨Nat.zero_le _,by simp,D.rep _,by simp [val,val_rep],fun j _=>by simp [List.getD,List.getElem?_replicate];split <;> simp⟩ lfA rfl ?_
   rintro ⟨i,os⟩ ⟨hi,hol,hO,hval,hz⟩ K hK
   simp only at hi hol hO hval hz⊢
   by_cases hil:i<p.length
   ·have hx:=hP.get i
    repeat(refine A1 ⟨?_⟩;intros)
    refine WP.loop (ι:=Nat×Nat×List Nat) (fun s=>s.1≤q.length∧s.2.1<4294967296∧s.2.2.length=p.length+q.length∧D s.2.2∧val s.2.2+4294967296^i*4294967296^s.1*s.2.1=val os+4294967296^i*p.getD i 0*val (q.take s.1)∧∀j,i+q.length≤j→s.2.2.getD j 0=0) (fun s=>q.length-s.1)
     (fun s=>fm [(1,dg q),(5,lit (.slice (some ⟨bb,0,none⟩) (p.length+q.length) (p.length+q.length))),(6,lit (.int .i64 i)),(7,lit (.int .u32 (p.getD i 0:Nat))),(8,lit (.int .u64 s.2.1)),(36,dg p),(37,lit (.int .i64 p.length)),(38,lit (.int .i64 i)),(43,dg q),(44,lit (.int .i64 q.length)),(45,lit (.int .i64 s.1))])
     (fun s=>[(bb,258,dcells s.2.2)]) (0,0,os) ⟨Nat.zero_le _,by simp,hol,hO,by simp [val],hz⟩ lfA rfl ?_
    rintro ⟨k,c,us⟩ ⟨hk,hc,hul,hU,hvu,hzu⟩ K2 hK2
    simp only at hk hc hul hU hvu hzu⊢
    by_cases hkl:k<q.length
    ·have hy:=hQ.get k
     have ho:=hU.get (i+k)
     have hb:=prod_bd hx hy
     have hcast:((p.getD i 0*q.getD k 0:Nat):Int)=(p.getD i 0:Int)*(q.getD k 0:Int):=Int.natCast_mul _ _
     repeat(refine A1 ⟨?_⟩;intros)
     refine WstD ((p.getD i 0*q.getD k 0+us.getD (i+k) 0+c)%4294967296) rfl rfl (by omega) (HUpd.here _) (by omega) ?_
     repeat(refine A1 ⟨?_⟩;intros)
     refine hK2 _ _ (k+1,(p.getD i 0*q.getD k 0+us.getD (i+k) 0+c)/4294967296,us.set (i+k) ((p.getD i 0*q.getD k 0+us.getD (i+k) 0+c)%4294967296))
      ⟨by simp only;omega,by simp only;omega,by simpa using hul,hU.set _ (by omega),?_,fun j hj=>by rw [getD_set_ne' _ _ _ _ (by(try simp only at hj);omega)];exact hzu j hj⟩ (by simp only;omega) lfA rfl
     simp only
     rw [val_take_succ',Nat.pow_succ]
     have hs:=val_set us (i+k) ((p.getD i 0*q.getD k 0+us.getD (i+k) 0+c)%4294967296) (by omega)
     rw [Nat.pow_add]at hs
     exact mul_inner _ hvu (by omega) hs
    ·have hke:k=q.length:=by omega
     subst hke
     have hz0:=hzu (i+q.length) (by omega)
     repeat(refine A1 ⟨?_⟩;intros)
     refine WstD c rfl rfl (by omega) (HUpd.here _) (by omega) ?_
     repeat(refine A1 ⟨?_⟩;intros)
     refine hK _ _ (i+1,us.set (i+q.length) c) ⟨by simp only;omega,by simpa using hul,hU.set _ hc,?_,fun j hj=>by rw [getD_set_ne' _ _ _ _ (by(try simp only at hj);omega)];exact hzu j (by(try simp only at hj);omega)⟩ (by simp only;omega) lfA rfl
     simp only
     have hs:=val_set us (i+q.length) c (by omega)
     rw [hz0,Nat.mul_zero,Nat.add_zero,Nat.pow_add]at hs
     rw [hs,hvu,List.take_length,hval,val_take_succ',Nat.add_mul]
   ·have hie:i=p.length:=by omega
    subst hie
    rw [List.take_length]at hval
    repeat(refine A1 ⟨?_⟩;intros)
    refine WpubD (ds:=os) 84 rfl (HDel.here _) hol (by omega) (by omega) ?_
    refine Wc (rtrim_nat os (by omega) hO) ?_
    rw [hval]
    repeat(refine A1 ⟨?_⟩;intros)
    exact E1
def sv (s:Bool) (n:Nat):Int:=bif s then -(n:Int)else n
abbrev raw (s:Bool) (xs:List Nat):SV:=ag [lit (.bool s),dg xs]
abbrev int (z:Int):SV:=ag [lit (.bool (decide (z<0))),nat z.natAbs]
theorem sv_abs (s:Bool) (n:Nat):(sv s n).natAbs=n:=by cases s <;> simp [sv]
theorem sv_neg (s:Bool) (n:Nat):decide (sv s n<0)=(s&&decide (0<n)):=by
 cases s
 ·simp only [sv,cond_false,Bool.false_and];exact decide_eq_false (by omega)
 ·simp [sv]
theorem sv_int (z:Int):sv (decide (z<0)) z.natAbs=z:=by
 by_cases h:z<0 <;> simp [sv,h] <;> omega
theorem sv_nat (n:Nat):sv false n=(n:Int):=rfl
theorem int_sv (s:Bool) (n:Nat):int (sv s n)=ag [lit (.bool (s&&decide (0<n))),nat n]:=by rw [int,sv_abs,sv_neg]
theorem int_nat (n:Nat):int (n:Int)=raw false (dgs n):=by rw [←sv_nat,int_sv];rfl
theorem dgs_len_pos {n:Nat}(h:n≠0):0<(dgs n).length:=by
 rcases hd:dgs n with _|⟨d,l⟩
 ·have:=val_dgs n;rw [hd]at this;exact absurd this.symm h
 ·simp
theorem blen_val {xs:List Nat}(h:D xs):blen (val xs)≤32*xs.length:=blen_le.2 (by rw [Nat.pow_mul];exact val_lt h)
theorem signed_pu (s:Bool) (n:Nat) (h:(dgs n).length≤1000000000):Pu Tryz.prog 292 [lit (.bool s),nat n] (int (sv s n)):=by
 rw [int_sv]
 by_cases h0:n=0
 ·subst h0
  have hl:(dgs 0).length=0:=by rw [dgs_zero];rfl
  cases s <;> simp only [Nat.lt_irrefl,decide_false,Bool.and_false]
  all_goals
   refine Pu.intro Tryz.func292 rfl (by kernel_rfl) fun C=>?_
   repeat(refine A1 ⟨?_⟩;intros)
   ((first|refine endR ?_|refine endN ?_);refine end1 RVa (Le.refl _))
 ·have hl:=dgs_len_pos h0
  cases s <;> simp only [Bool.false_and,Bool.true_and,decide_eq_true (Nat.pos_of_ne_zero h0)]
  all_goals
   refine Pu.intro Tryz.func292 rfl (by kernel_rfl) fun C=>?_
   repeat(refine A1 ⟨?_⟩;intros)
   ((first|refine endR ?_|refine endN ?_);refine end1 RVa (Le.refl _))
theorem norm_raw (s:Bool) (xs:List Nat) (h:xs.length≤1000000000) (hD:D xs):Pu Tryz.prog 223 [raw s xs] (int (sv s (val xs))):=by
 rw [int_sv]
 have hb:(dgs (val xs)).length≤1000000000:=by have:=len_le (val_lt hD);omega
 by_cases h0:val xs=0
 ·have hl:(dgs (val xs)).length=0:=by rw [h0,dgs_zero];rfl
  rw [show(s&&decide (0<val xs))=false from by rw [h0];simp]
  cases s
  all_goals
   refine Pu.intro Tryz.func223 rfl (by kernel_rfl) fun C=>?_
   repeat(refine A1 ⟨?_⟩;intros)
   refine Wc (norm_nat xs h hD) ?_
   repeat(refine A1 ⟨?_⟩;intros)
   ((first|refine endR ?_|refine endN ?_);refine end1 RVa (Le.refl _))
 ·have hl:=dgs_len_pos h0
  rw [decide_eq_true (Nat.pos_of_ne_zero h0),Bool.and_true]
  cases s
  all_goals
   refine Pu.intro Tryz.func223 rfl (by kernel_rfl) fun C=>?_
   repeat(refine A1 ⟨?_⟩;intros)
   refine Wc (norm_nat xs h hD) ?_
   repeat(refine A1 ⟨?_⟩;intros)
   ((first|refine endR ?_|refine endN ?_);refine end1 RVa (Le.refl _))
theorem neg_raw (s:Bool) (xs:List Nat) (h:xs.length≤1000000000) (hD:D xs):Pu Tryz.prog 280 [raw s xs] (int (-sv s (val xs))):=by
 rw [show -sv s (val xs)=sv (!s) (val xs)from by cases s <;> simp [sv]]
 refine Pu.intro Tryz.func280 rfl (by kernel_rfl) fun C=>?_
 repeat(refine A1 ⟨?_⟩;intros)
 refine Wc (norm_raw (!s) xs h hD) ?_
 repeat(refine A1 ⟨?_⟩;intros)
 ((first|refine endR ?_|refine endN ?_);refine end1 RVa (Le.refl _))
theorem sign_raw (s:Bool) (xs:List Nat) (h:xs.length≤1000000000) (hD:D xs):Pu Tryz.prog 218 [raw s xs] (lit (.int .i64 (sv s (val xs)).sign)):=by
 by_cases h0:val xs=0
 ·rw [show(sv s (val xs)).sign=0 from by rw [h0];cases s <;> rfl]
  refine Pu.intro Tryz.func218 rfl (by kernel_rfl) fun C=>?_
  repeat(refine A1 ⟨?_⟩;intros)
  refine Wc (bits_nat xs h hD) ?_
  rw [h0,show blen 0=0 from rfl]
  repeat(refine A1 ⟨?_⟩;intros)
  exact E1
 ·have hb:blen (val xs)≠0:=fun e=>h0 (by have:=blen_le.1 (Nat.le_of_eq e);omega)
  have hbb:=blen_val hD
  cases s
  ·rw [show(sv false (val xs)).sign=1 from Int.sign_eq_one_of_pos (by simp only [sv,cond_false];omega)]
   refine Pu.intro Tryz.func218 rfl (by kernel_rfl) fun C=>?_
   repeat(refine A1 ⟨?_⟩;intros)
   refine Wc (bits_nat xs h hD) ?_
   repeat(refine A1 ⟨?_⟩;intros)
   exact E1
  ·rw [show(sv true (val xs)).sign = -1 from Int.sign_eq_neg_one_of_neg (by simp only [sv,cond_true];omega)]
   refine Pu.intro Tryz.func218 rfl (by kernel_rfl) fun C=>?_
   repeat(refine A1 ⟨?_⟩;intros)
   refine Wc (bits_nat xs h hD) ?_
   repeat(refine A1 ⟨?_⟩;intros)
   exact E1
theorem wi64_mod {x:Int}(h0 : -9223372036854775808≤x) (h1:x≤9223372036854775807):IntKind.i64.wrap (x%18446744073709551616)=x:=by
 simp only [IntKind.wrap,IntKind.bits,IntKind.signed]
 simp;omega
theorem fromInt_pu (z:Int) (h0 : -9223372036854775808≤z) (h1:z≤9223372036854775807):Pu Tryz.prog 165 [lit (.int .i64 z)] (int z):=by
 by_cases h:z<0
 ·rw [int,decide_eq_true h]
  refine Pu.intro Tryz.func165 rfl (by kernel_rfl) fun C=>?_
  repeat(refine A1 ⟨?_⟩;intros)
  rw [show -(z%18446744073709551616)%18446744073709551616=(z.natAbs:Int)from by omega]
  refine Wc (fromUint_nat z.natAbs (by omega)) ?_
  repeat(refine A1 ⟨?_⟩;intros)
  ((first|refine endR ?_|refine endN ?_);refine end1 RVa (Le.refl _))
 ·rw [int,decide_eq_false h]
  refine Pu.intro Tryz.func165 rfl (by kernel_rfl) fun C=>?_
  repeat(refine A1 ⟨?_⟩;intros)
  generalize hn:z.natAbs=n at *
  have hz:z=(n:Int):=by omega
  subst hz
  refine Wc (fromUint_nat n (by omega)) ?_
  repeat(refine A1 ⟨?_⟩;intros)
  ((first|refine endR ?_|refine endN ?_);refine end1 RVa (Le.refl _))
theorem int64_raw (s:Bool) (xs:List Nat) (hl:xs.length≤1000000000) (hD:D xs) (hb:val xs<4611686018427387904):Pu Tryz.prog 221 [raw s xs] (tup [lit (.int .i64 (sv s (val xs))),lit (.bool true)]):=by
 have u:=uint_nat xs hl hD
 rw [if_pos (by omega)]at u
 cases s
 ·simp only [sv,cond_false]
  refine Pu.intro Tryz.func221 rfl (by kernel_rfl) fun C=>?_
  repeat(refine A1 ⟨?_⟩;intros)
  refine Wc u ?_
  repeat(refine A1 ⟨?_⟩;intros)
  ((first|refine endR ?_|refine endN ?_);exact end2 (RV.tmp rfl) (RV.tmp rfl) (Le.refl _))
 ·simp only [sv,cond_true]
  refine Pu.intro Tryz.func221 rfl (by kernel_rfl) fun C=>?_
  repeat(refine A1 ⟨?_⟩;intros)
  refine Wc u ?_
  repeat(refine A1 ⟨?_⟩;intros)
  refine endR (end2 (RV.tmp rfl) (RV.tmp rfl) (Le.tup2 (Le.int ?_) (Le.refl _)))
  exact wi64_mod (by omega) (by omega)
theorem sv_mul (s t:Bool) (a b:Nat):sv (s != t) (a*b)=sv s a*sv t b:=by
 cases s <;> cases t <;> simp [sv,Int.natCast_mul,Int.mul_neg,Int.neg_mul]
theorem sv_add (s:Bool) (a b:Nat):sv s (a+b)=sv s a+sv s b:=by
 cases s <;> simp [sv] <;> omega
theorem sv_sub (s t:Bool) (h:s≠t){a b:Nat}(hab:b≤a):sv s (a-b)=sv s a+sv t b:=by
 cases s <;> cases t <;> simp_all [sv] <;> omega
theorem mul_raw (s t:Bool) (xs ys:List Nat) (hlx:xs.length≤100000000) (hly:ys.length≤100000000) (hX:D xs) (hY:D ys):Pu Tryz.prog 251 [raw s xs,raw t ys] (int (sv s (val xs)*sv t (val ys))):=by
 have hl:=len_le (Nat.lt_of_lt_of_le (Nat.mul_lt_mul'' (val_lt hX) (val_lt hY)) (Nat.le_of_eq (Nat.pow_add ..).symm))
 rw [←sv_mul]
 refine Pu.intro Tryz.func251 rfl (by kernel_rfl) fun C=>?_
 repeat(refine A1 ⟨?_⟩;intros)
 refine Wdc (mul_nat xs ys hlx hly hX hY) ?_
 repeat(refine A1 ⟨?_⟩;intros)
 refine Wdc (signed_pu (s != t) (val xs*val ys) (by omega)) ?_
 repeat(refine A1 ⟨?_⟩;intros)
 ((first|refine endR ?_|refine endN ?_);refine end1 RVa (Le.refl _))
theorem dlen_add (a b:Nat):(dgs (a+b)).length≤max (dgs a).length (dgs b).length+1:=by
 refine len_le ?_
 have h1:=lt_pow a
 have h2:=lt_pow b
 have b1:4294967296^(dgs a).length≤4294967296^max (dgs a).length (dgs b).length:=Nat.pow_le_pow_right (by omega) (by omega)
 have b2:4294967296^(dgs b).length≤4294967296^max (dgs a).length (dgs b).length:=Nat.pow_le_pow_right (by omega) (by omega)
 rw [Nat.pow_succ];omega
theorem dlen_mul (a b:Nat):(dgs (a*b)).length≤(dgs a).length+(dgs b).length:=by
 refine len_le ?_
 rw [Nat.pow_add]
 exact Nat.mul_lt_mul'' (lt_pow a) (lt_pow b)
theorem dlen_val {xs:List Nat}(h:D xs):(dgs (val xs)).length≤xs.length:=len_le (val_lt h)
set_option maxHeartbeats 1000000 in
theorem add_raw (s t:Bool) (xs ys:List Nat) (hlx:xs.length≤100000000) (hly:ys.length≤100000000) (hX:D xs) (hY:D ys):Pu Tryz.prog 250 [raw s xs,raw t ys] (int (sv s (val xs)+sv t (val ys))):=by
 have hl1:=dlen_val hX
 have hl2:=dlen_val hY
 have s1:=sub_nat xs ys hlx hly hX hY
 have s2:=sub_nat ys xs hly hlx hY hX
 by_cases hst:s=t
 ·subst hst
  have hl:=dlen_add (val xs) (val ys)
  rw [←sv_add]
  cases s
  all_goals
   refine Pu.intro Tryz.func250 rfl (by kernel_rfl) fun C=>?_
   repeat(refine A1 ⟨?_⟩;intros)
   refine Wdc (add_nat xs ys hlx hly hX hY) ?_
   repeat(refine A1 ⟨?_⟩;intros)
   refine Wdc (signed_pu _ (val xs+val ys) (by omega)) ?_
   repeat(refine A1 ⟨?_⟩;intros)
   ((first|refine endR ?_|refine endN ?_);refine end1 RVa (Le.refl _))
 ·by_cases hlt:val xs<val ys
  ·rw [if_pos hlt]at s1
   rw [if_neg (by omega)]at s2
   have hl:=len_mono (Nat.sub_le (val ys) (val xs))
   rw [Int.add_comm,←sv_sub t s (Ne.symm hst) (by omega)]
   cases s <;> cases t <;> first|exact absurd rfl hst|skip
   all_goals
    refine Pu.intro Tryz.func250 rfl (by kernel_rfl) fun C=>?_
    repeat(refine A1 ⟨?_⟩;intros)
    refine Wc s1 ?_
    repeat(refine A1 ⟨?_⟩;intros)
    refine Wc s2 ?_
    repeat(refine A1 ⟨?_⟩;intros)
    refine Wc (signed_pu _ (val ys-val xs) (by omega)) ?_
    repeat(refine A1 ⟨?_⟩;intros)
    ((first|refine endR ?_|refine endN ?_);refine end1 RVa (Le.refl _))
  ·rw [if_neg (by omega)]at s1
   have hl:=len_mono (Nat.sub_le (val xs) (val ys))
   rw [←sv_sub s t hst (by omega)]
   cases s <;> cases t <;> first|exact absurd rfl hst|skip
   all_goals
    refine Pu.intro Tryz.func250 rfl (by kernel_rfl) fun C=>?_
    repeat(refine A1 ⟨?_⟩;intros)
    refine Wc s1 ?_
    repeat(refine A1 ⟨?_⟩;intros)
    refine Wc (signed_pu _ (val xs-val ys) (by omega)) ?_
    repeat(refine A1 ⟨?_⟩;intros)
    ((first|refine endR ?_|refine endN ?_);refine end1 RVa (Le.refl _))
theorem rmake_pu (s:Bool) (n:Nat) (h:(dgs n).length≤1000000000):Pu Tryz.prog 136 [lit (.bool s),nat n] (int (sv s n)):=by
 rw [int_sv]
 by_cases h0:n=0
 ·subst h0
  have hl:(dgs 0).length=0:=by rw [dgs_zero];rfl
  cases s <;> simp only [Nat.lt_irrefl,decide_false,Bool.and_false]
  all_goals
   refine Pu.intro Tryz.func136 rfl (by kernel_rfl) fun C=>?_
   repeat(refine A1 ⟨?_⟩;intros)
   ((first|refine endR ?_|refine endN ?_);refine end1 RVa (Le.refl _))
 ·have hl:=dgs_len_pos h0
  cases s <;> simp only [Bool.false_and,Bool.true_and,decide_eq_true (Nat.pos_of_ne_zero h0)]
  all_goals
   refine Pu.intro Tryz.func136 rfl (by kernel_rfl) fun C=>?_
   repeat(refine A1 ⟨?_⟩;intros)
   ((first|refine endR ?_|refine endN ?_);refine end1 RVa (Le.refl _))
theorem rsign_int (z:Int) (h:(dgs z.natAbs).length≤1000000000):Pu Tryz.prog 34 [int z] (lit (.int .i64 z.sign)):=by
 rcases Int.lt_trichotomy z 0 with h0|h0|h0
 ·have hl:=dgs_len_pos (n:=z.natAbs) (by omega)
  rw [Int.sign_eq_neg_one_of_neg h0,int,decide_eq_true h0]
  refine Pu.intro Tryz.func34 rfl (by kernel_rfl) fun C=>?_
  repeat(refine A1 ⟨?_⟩;intros)
  exact E1
 ·subst h0
  have hl:(dgs (Int.natAbs 0)).length=0:=by rw [show Int.natAbs 0=0 from rfl,dgs_zero];rfl
  refine Pu.intro Tryz.func34 rfl (by kernel_rfl) fun C=>?_
  repeat(refine A1 ⟨?_⟩;intros)
  exact E1
 ·have hl:=dgs_len_pos (n:=z.natAbs) (by omega)
  rw [Int.sign_eq_one_of_pos h0,int,decide_eq_false (by omega)]
  refine Pu.intro Tryz.func34 rfl (by kernel_rfl) fun C=>?_
  repeat(refine A1 ⟨?_⟩;intros)
  exact E1
theorem rminus_int (z:Int) (h:(dgs z.natAbs).length≤1000000000):Pu Tryz.prog 158 [int z] (int (-z)):=by
 have m:=rmake_pu (!decide (z<0)) z.natAbs h
 rw [show sv (!decide (z<0)) z.natAbs = -z from by by_cases h:z<0 <;> simp [sv,h] <;> omega]at m
 refine Pu.intro Tryz.func158 rfl (by kernel_rfl) fun C=>?_
 repeat(refine A1 ⟨?_⟩;intros)
 refine Wc m ?_
 repeat(refine A1 ⟨?_⟩;intros)
 ((first|refine endR ?_|refine endN ?_);refine end1 RVa (Le.refl _))
theorem rmul_int (a b:Int) (h1:(dgs a.natAbs).length≤100000000) (h2:(dgs b.natAbs).length≤100000000):Pu Tryz.prog 88 [int a,int b] (int (a*b)):=by
 have hl:=dlen_mul a.natAbs b.natAbs
 have m:=rmake_pu (decide (a<0) != decide (b<0)) (a.natAbs*b.natAbs) (by omega)
 rw [sv_mul,sv_int,sv_int]at m
 refine Pu.intro Tryz.func88 rfl (by kernel_rfl) fun C=>?_
 repeat(refine A1 ⟨?_⟩;intros)
 refine Wdc (rprod_pu a.natAbs b.natAbs h1 h2) ?_
 repeat(refine A1 ⟨?_⟩;intros)
 refine Wdc m ?_
 repeat(refine A1 ⟨?_⟩;intros)
 ((first|refine endR ?_|refine endN ?_);refine end1 RVa (Le.refl _))
set_option maxHeartbeats 1000000 in
theorem radd_int (a b:Int) (h1:(dgs a.natAbs).length≤100000000) (h2:(dgs b.natAbs).length≤100000000):Pu Tryz.prog 157 [int a,int b] (int (a+b)):=by
 have key:∀(s t:Bool) (x y:Nat),(dgs x).length≤100000000→(dgs y).length≤100000000→Pu Tryz.prog 157 [raw s (dgs x),raw t (dgs y)] (int (sv s x+sv t y)):=by
  intro s t x y hx hy
  have cm:=rcmp_pu x y (by omega) (by omega)
  have cb:=cmpN_bd x y
  by_cases hst:s=t
  ·subst hst
   have hl:=dlen_add x y
   rw [←sv_add]
   cases s
   all_goals
    refine Pu.intro Tryz.func157 rfl (by kernel_rfl) fun C=>?_
    repeat(refine A1 ⟨?_⟩;intros)
    refine Wdc (rsum_pu x y hx hy) ?_
    repeat(refine A1 ⟨?_⟩;intros)
    refine Wdc (rmake_pu _ (x+y) (by omega)) ?_
    repeat(refine A1 ⟨?_⟩;intros)
    ((first|refine endR ?_|refine endN ?_);refine end1 RVa (Le.refl _))
  ·by_cases hlt:x<y
   ·have hl:=len_mono (Nat.sub_le y x)
    rw [cmpN_lt hlt]at cm
    clear cb
    rw [Int.add_comm,←sv_sub t s (Ne.symm hst) (by omega)]
    cases s <;> cases t <;> first|exact absurd rfl hst|skip
    all_goals
     refine Pu.intro Tryz.func157 rfl (by kernel_rfl) fun C=>?_
     repeat(refine A1 ⟨?_⟩;intros)
     refine Wc cm ?_
     repeat(refine A1 ⟨?_⟩;intros)
     refine Wdc (rless_pu y x (by omega) hy) ?_
     repeat(refine A1 ⟨?_⟩;intros)
     refine Wdc (rmake_pu _ (y-x) (by omega)) ?_
     repeat(refine A1 ⟨?_⟩;intros)
     ((first|refine endR ?_|refine endN ?_);refine end1 RVa (Le.refl _))
   ·have hl:=len_mono (Nat.sub_le x y)
    have hc:0≤cmpN x y:=by omega
    generalize cmpN x y=c at *
    have hc2:c≤1:=cb.2.1
    clear cb
    rw [←sv_sub s t hst (by omega)]
    cases s <;> cases t <;> first|exact absurd rfl hst|skip
    all_goals
     refine Pu.intro Tryz.func157 rfl (by kernel_rfl) fun C=>?_
     repeat(refine A1 ⟨?_⟩;intros)
     refine Wc cm ?_
     repeat(refine A1 ⟨?_⟩;intros)
     refine Wdc (rless_pu x y (by omega) hx) ?_
     repeat(refine A1 ⟨?_⟩;intros)
     refine Wdc (rmake_pu _ (x-y) (by omega)) ?_
     repeat(refine A1 ⟨?_⟩;intros)
     ((first|refine endR ?_|refine endN ?_);refine end1 RVa (Le.refl _))
 have k:=key (decide (a<0)) (decide (b<0)) a.natAbs b.natAbs h1 h2
 rwa [sv_int,sv_int]at k
theorem rint_pu (z:Int) (h0 : -9223372036854775808≤z) (h1:z≤9223372036854775807):Pu Tryz.prog 84 [lit (.int .i64 z)] (int z):=by
 have hl:=len_le (n:=z.natAbs) (k:=2) (by omega)
 have m1:=rmake_pu true z.natAbs (by omega)
 have m2:=rmake_pu false z.natAbs (by omega)
 by_cases h:z<0
 ·rw [show sv true z.natAbs=z from by simp only [sv,cond_true];omega]at m1
  refine Pu.intro Tryz.func84 rfl (by kernel_rfl) fun C=>?_
  repeat(refine A1 ⟨?_⟩;intros)
  rw [show -(z%18446744073709551616)%18446744073709551616=(z.natAbs:Int)from by omega]
  refine Wc (word_pu z.natAbs (by omega)) ?_
  repeat(refine A1 ⟨?_⟩;intros)
  refine Wc m1 ?_
  repeat(refine A1 ⟨?_⟩;intros)
  ((first|refine endR ?_|refine endN ?_);refine end1 RVa (Le.refl _))
 ·rw [show sv false z.natAbs=z from by simp only [sv,cond_false];omega]at m2
  have wp:=word_pu z.natAbs (by omega)
  rw [show(z.natAbs:Int)=z from by omega]at wp
  refine Pu.intro Tryz.func84 rfl (by kernel_rfl) fun C=>?_
  repeat(refine A1 ⟨?_⟩;intros)
  refine Wc wp ?_
  repeat(refine A1 ⟨?_⟩;intros)
  refine Wc m2 ?_
  repeat(refine A1 ⟨?_⟩;intros)
  ((first|refine endR ?_|refine endN ?_);refine end1 RVa (Le.refl _))
end Go.Ab
