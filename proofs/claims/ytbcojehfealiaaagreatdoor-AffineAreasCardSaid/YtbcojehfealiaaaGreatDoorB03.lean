/- Texts laid one behind the other: NatA, NatB, NatC, NatD, NatE, NatF, Int, Util, IntB, Bits. -/
import Derived.Test.YtbcojehfealiaaaGreatDoorTy
set_option linter.all false
set_option maxHeartbeats 16000000
namespace Go.Ab
open Go.Proofs
variable [Base]
abbrev nat (n:Nat):SV:=dg (dgs n)
theorem GI (ds:List Nat) (hl:ds.length≤1000000000):Pu Tryz.prog 216 [dg ds] (dg (f9 ds)):=by
 refine Pi Tryz.func216 fun C=>?_
 repeat(refine A1 ⟨?_⟩;intros)
 refine WP.loop (ι:=Nat) (fun k=>k≤ds.length∧f9 (ds.take k)=f9 ds) (fun k=>k) (fun k=>fm [(0,dg (ds.take k))]) (fun _=>[]) ds.length ⟨Nat.le_refl _,by rw [List.take_length]⟩ (LeF.cons (by rw [List.take_length];exact Le.refl _) (LeF.nil _)) rfl ?_;rintro k ⟨hk,ht⟩ K hK;have hlen:(ds.take k).length=k:=by rw [List.length_take];omega
 rcases k with _|j
 ·repeat(refine A1 ⟨?_⟩;intros)
  exact aS (aJ (RV.tmp (s:=dg (List.take 0 ds)) rfl) (Le.of_eq (by rw [←ht];rfl)))
 ·have hg:(List.take (j+1) ds).getD j 0=ds.getD j 0:=by simp [List.getD]
  iterate 2 refine WP.seq' ?_
  refine WP.reg ?_;iterate 7 (refine O1 ⟨?_⟩;intros)
  refine Wog (v7 (r:=(j:Int)) rfl rfl (Dt om om om)) ?_;refine Wog (lK (i:=j) rfl rfl om) ?_;rw [hg];by_cases hd:ds.getD j 0=0
  ·repeat(refine A1 ⟨?_⟩;intros)
   refine Wo (uZ j rfl rfl om om) ?_;rw [List.take_take,Nat.min_eq_left om];repeat(refine A1 ⟨?_⟩;intros)
   refine hK _ _ j ⟨om,?_⟩ om (LeF.cons Lr (LeF.nil _)) rfl;rw [bk ds j om,hd,fo]at ht;exact ht
  ·rw [bk ds j om,gz _ _ hd,←bk ds j om]at ht;repeat(refine A1 ⟨?_⟩;intros)
   exact aS (aJ (RV.tmp (s:=dg (List.take (j+1) ds)) rfl) (Le.of_eq (by rw [ht])))
theorem cU (ds:List Nat) (hl:ds.length≤1000000000) (hD:D ds):Pu Tryz.prog 216 [dg ds] (nat (val ds)):=by
 have:=GI ds hl;rwa [nH hD]at this
theorem eC:Le (lit (.slice none 0 0)) (dg []):=fun m v h=>by
 rw [aq]at h;subst h;rw [pX];exact f4 (by simp) (by simp [maxLen]) (.inl rfl)
theorem y6 (ds:List Nat) (hl:ds.length≤1000000000):Pu Tryz.prog 217 [dg ds] (dg ds):=by
 refine Pi Tryz.func217 fun C=>?_
 repeat(refine A1 ⟨?_⟩;intros)
 refine WP.exd (d:=4) rfl fun b=>?_
 cases hb:b&&decide (ds=[])with
 |true =>
  have:ds=[]:=by simp at hb;exact hb.2
  subst this;repeat(refine A1 ⟨?_⟩;intros)
  exact aS (aJ (RV.tmp rfl) eC)
 |false =>
  exact Z1
theorem jF (ds:List Nat) (hl:ds.length≤1000000000) (hD:D ds):Pu Tryz.prog 162 [dg ds] (nat (val ds)):=by
 have hl':(dgs (val ds)).length≤1000000000:=by
  have:=bC (bP hD);omega
 refine Pi Tryz.func162 fun C=>?_
 repeat(refine A1 ⟨?_⟩;intros)
 refine Wc (cU ds hl hD) ?_;refine Wc (y6 _ hl') ?_;exact Z1
theorem fR (u:Nat) (hu:u<18446744073709551616):Pu Tryz.prog 163 [lit (.int .u64 u)] (nat u):=by
 have hD:D [u%4294967296,u/4294967296]:=D.cons om (D.cons om D.nil);have hv:val [u%4294967296,u/4294967296]=u:=by simp [val];omega
 refine Pi Tryz.func163 fun C=>?_
 repeat(refine A1 ⟨?_⟩;intros)
 refine g9 (ds:=[u%4294967296,u/4294967296]) 8 rfl (ak.here _) rfl om om ?_;refine Wc (cU _ (by simp) hD) ?_;rw [hv];exact Z1
theorem or0 {a:Int}(x:Nat) (ha:a=(x:Int)) (hx:x<18446744073709551616):IntKind.u64.wrap ((BitVec.ofInt (IntKind.bits .u64) 0 ||| BitVec.ofInt (IntKind.bits .u64) a).toNat:Int)=(x:Int):=by
 subst ha;rw [BitVec.toNat_or];simp only [IntKind.bits];rw [fH 64 _ om,show(0:Int)=((0:Nat):Int)from rfl,fH 64 0 om,Nat.zero_or];exact sV .u64 rfl _ (by simp only [IntKind.bits];omega)
theorem GH (k c d:Nat) (hk:k<2) (hc:c<4294967296^k) (hd:d<4294967296) :
  IntKind.u64.wrap ((BitVec.ofInt (IntKind.bits .u64) (c:Int) ||| BitVec.ofInt (IntKind.bits .u64) (IntKind.u64.wrap ((d:Int)*2^(min (32*(k:Int)).toNat (IntKind.bits .u64))))).toNat:Int)=((c+4294967296^k*d:Nat):Int):=by
 match k,hk with
 |0,_ =>
  have:c=0:=by simpa using hc
  subst this;refine(or0 d ?_ om).trans (by simp);show IntKind.u64.wrap ((d:Int)*1)=d
  rw [Int.mul_one];exact ym om om
 |1,_ =>
  have hc':c<4294967296:=by simpa using hc
  refine(EI d c rfl ?_ hd hc').trans (by simp;omega);exact Je om om
theorem nF (ds:List Nat) (hl:ds.length≤1000000000) (hD:D ds):Pu Tryz.prog 174 [dg ds]
  (if val ds<18446744073709551616 then tup [lit (.int .u64 (val ds)),lit (.bool true)]else tup [lit (.int .u64 0),lit (.bool false)]):=by
 refine Pi Tryz.func174 fun C=>?_
 repeat(refine A1 ⟨?_⟩;intros)
 refine Wc (cU ds hl hD) ?_
 have hll:(dgs (val ds)).length≤1000000000:=by
  have:=bC (bP hD);omega
 by_cases hlen:(dgs (val ds)).length≤2
 ·have hlt:val ds<18446744073709551616:=by have:=vA hlen;simpa using this
  rw [if_pos hlt];repeat(refine A1 ⟨?_⟩;intros)
  generalize hgen:dgs (val ds)=es at *;have hDe:D es:=hgen▸aR _
  have hve:val es=val ds:=by rw [←hgen,au]
  refine WP.loop (ι:=Nat) (fun k=>k≤es.length) (fun k=>es.length-k) (fun k=>fm [(4,lit (.int .u64 (val (es.take k):Nat))),(12,dg es),(13,lit (.int .i64 es.length)),(14,lit (.int .i64 k))]) (fun _=>[]) 0 (Nat.zero_le _)
   (LeF.cons Lr (LeF.cons Lr (LeF.cons Lr (LeF.cons Lr (LeF.nil _))))) rfl ?_
  intro k hk K hK;have hg:=hDe.get k;by_cases hlt2:k<es.length
  ·repeat(refine A1 ⟨?_⟩;intros)
   have hvt:=bP (hDe.take k);rw [List.length_take,Nat.min_eq_left hk]at hvt;refine Wo (kE rfl rfl (GH k _ _ om hvt hg)) ?_;rw [←jg es k hlt2];repeat(refine A1 ⟨?_⟩;intros)
   exact hK _ _ (k+1) om om (LeF.cons Lr (LeF.cons Lr (LeF.cons Lr (LeF.cons Lr (LeF.nil _))))) rfl
  ·have hke:k=es.length:=by omega
   subst hke;rw [List.take_length,hve];repeat(refine A1 ⟨?_⟩;intros)
   exact G2
 ·have hge:¬val ds<18446744073709551616:=by
   have:=sM (n:=val ds) (k:=2) om;simp at this;omega
  rw [if_neg hge];repeat(refine A1 ⟨?_⟩;intros)
  exact G2
theorem Fi (x:Nat) (hx:x<4294967296):Pu Tryz.prog 246 [lit (.int .u32 x)] (lit (.int .i64 (cq x))):=by
 have fin:∀y,y<256→cq y≤8:=fun y hy=>e7.2 hy
 refine Pi Tryz.func246 fun C=>?_
 by_cases h16:65536≤x
 ·have e16:=np x 16 h16;by_cases h8:256≤x/65536
  ·have e8:=np (x/65536) 8 h8;have f:=fin (x/65536/256) om;repeat(refine A1 ⟨?_⟩;intros)
   refine Wo (v6 256 (x/65536/256) cq rfl rfl om om (by decide +kernel)) ?_;repeat(refine A1 ⟨?_⟩;intros)
   ((first|refine aS ?_|refine eV ?_);refine aJ (RV.tmp rfl) (Le.int ?_))
   simp only [Nat.reducePow]at e16 e8;omega
  ·have f:=fin (x/65536) om;repeat(refine A1 ⟨?_⟩;intros)
   refine Wo (v6 256 (x/65536) cq rfl rfl om om (by decide +kernel)) ?_;repeat(refine A1 ⟨?_⟩;intros)
   ((first|refine aS ?_|refine eV ?_);refine aJ (RV.tmp rfl) (Le.int ?_))
   simp only [Nat.reducePow]at e16;omega
 ·by_cases h8:256≤x
  ·have e8:=np x 8 h8;have f:=fin (x/256) om;repeat(refine A1 ⟨?_⟩;intros)
   refine Wo (v6 256 (x/256) cq rfl rfl om om (by decide +kernel)) ?_;repeat(refine A1 ⟨?_⟩;intros)
   ((first|refine aS ?_|refine eV ?_);refine aJ (RV.tmp rfl) (Le.int ?_))
   simp only [Nat.reducePow]at e8;omega
  ·have f:=fin x om;repeat(refine A1 ⟨?_⟩;intros)
   refine Wo (v6 256 x cq rfl rfl om om (by decide +kernel)) ?_;repeat(refine A1 ⟨?_⟩;intros)
   ((first|refine aS ?_|refine eV ?_);refine aJ (RV.tmp rfl) (Le.int ?_))
   omega
theorem vt (x:Nat) (hx:x<4294967296):Pu Tryz.prog 218 [lit (.int .u32 x)] (lit (.int .i64 (32-cq x))):=by
 have f:cq x≤32:=e7.2 hx;refine Pi Tryz.func218 fun C=>?_
 repeat(refine A1 ⟨?_⟩;intros)
 refine Wc (Fi x hx) ?_;exact Z1
theorem vT {n:Nat}(h:n≠0):∃k,(dgs n).length=k+1∧(dgs n).getD k 0≠0∧(dgs n).getD k 0<4294967296∧val ((dgs n).take k)<4294967296^k∧n=val ((dgs n).take k)+4294967296^k*(dgs n).getD k 0:=by
 have hne:dgs n≠[]:=fun e=>h (IH e)
 obtain⟨k,hk⟩:∃k,(dgs n).length=k+1:=⟨(dgs n).length-1,by have:=List.length_pos_iff.2 hne;omega⟩
 refine⟨k,hk,?_,(aR n).get k,?_,?_⟩
 ·have hc:=(II n).2;rw [List.getLast?_eq_getElem?,hk]at hc;intro h0;apply hc;have:k<(dgs n).length:=by omega
  simp [List.getD,this]at h0⊢;exact h0
 ·have:=bP ((aR n).take k);rwa [List.length_take,Nat.min_eq_left om]at this
 ·have:=jg (dgs n) k om;rw [←hk,List.take_length,au]at this;exact this
theorem fZ (ds:List Nat) (hl:ds.length≤1000000000) (hD:D ds):Pu Tryz.prog 169 [dg ds] (lit (.int .i64 (cq (val ds)))):=by
 have hll:(dgs (val ds)).length≤1000000000:=by have:=bC (bP hD);omega
 refine Pi Tryz.func169 fun C=>?_
 repeat(refine A1 ⟨?_⟩;intros)
 refine Wc (cU ds hl hD) ?_;by_cases h0:val ds=0
 ·have hn:(dgs (val ds)).length=0:=by rw [h0,aT];rfl
  repeat(refine A1 ⟨?_⟩;intros)
  ((first|refine aS ?_|refine eV ?_);refine aJ (RV.tmp rfl) (Le.int ?_))
  rw [h0];simp [cq]
 ·obtain⟨k,hk,ht,hd,hv,he⟩:=vT h0;have hb:=G9 _ _ k hv ht;rw [←he]at hb;have f:cq ((dgs (val ds)).getD k 0)≤32:=e7.2 hd;repeat(refine A1 ⟨?_⟩;intros)
  rw [show(dgs (val ds)).length-1=k from by omega];refine Wc (vt _ hd) ?_;repeat(refine A1 ⟨?_⟩;intros)
  ((first|refine aS ?_|refine eV ?_);refine aJ (RV.tmp rfl) (Le.int ?_))
  omega
def jR (a b:Nat):Int:=if a<b then -1 else if a=b then 0 else 1
theorem ib {a b:Nat}(h:a<b):jR a b = -1:=by unfold jR;rw [if_pos h]
theorem jd {a b:Nat}(h:b<a):jR a b=1:=by unfold jR;rw [if_neg om,if_neg om]
theorem oE (a:Nat):jR a a=0:=by unfold jR;rw [if_neg om,if_pos rfl]
theorem vX (a b:Nat) : -1≤jR a b∧jR a b≤1∧(jR a b<0↔a<b):=by
 unfold jR;split
 ·simp;omega
 ·split <;> simp <;> omega
theorem uA (ds:List Nat) (i:Nat) (h:i<ds.length):val ds=val (ds.take i)+4294967296^i*(ds.getD i 0+4294967296*val (ds.drop (i+1))):=by
 rw [ga ds i om,cM ds i h,du]
theorem ld {xs ys:List Nat}(i:Nat) (ha:D xs) (hi:i<xs.length) (hj:i<ys.length) (hd:xs.drop (i+1)=ys.drop (i+1)) (hlt:xs.getD i 0<ys.getD i 0):val xs<val ys:=by
 rw [uA xs i hi,uA ys i hj,hd];have h1:=bP (ha.take i);rw [List.length_take,Nat.min_eq_left om]at h1;generalize 4294967296^i=p at *;have h2:p*(xs.getD i 0+1+4294967296*val (ys.drop (i+1)))≤p*(ys.getD i 0+4294967296*val (ys.drop (i+1))):=Nat.mul_le_mul_left _ om;rw [show xs.getD i 0+1+4294967296*val (ys.drop (i+1))=(xs.getD i 0+4294967296*val (ys.drop (i+1)))+1 from by omega,Nat.mul_add,Nat.mul_one]at h2;omega
theorem Bp (xs ys:List Nat) (hla:xs.length≤1000000000) (hlb:ys.length≤1000000000) (hA:D xs) (hB:D ys):Pu Tryz.prog 221 [dg xs,dg ys] (lit (.int .i64 (jR (val xs) (val ys)))):=by
 have h1:(dgs (val xs)).length≤1000000000:=by have:=bC (bP hA);omega
 have h2:(dgs (val ys)).length≤1000000000:=by have:=bC (bP hB);omega
 have hxa:=au (val xs);have hxb:=au (val ys);have hDa:=aR (val xs);have hDb:=aR (val ys);refine Pi Tryz.func221 fun C=>?_
 repeat(refine A1 ⟨?_⟩;intros)
 refine Wc (cU xs hla hA) ?_;repeat(refine A1 ⟨?_⟩;intros)
 refine Wc (cU ys hlb hB) ?_;generalize hav:val xs=a at *;generalize hbv:val ys=b at *;clear hav hbv hA hB hla hlb;by_cases hlen:(dgs a).length=(dgs b).length
 ·repeat(refine A1 ⟨?_⟩;intros)
  refine WP.loop (ι:=Nat) (fun k=>k≤(dgs a).length∧(dgs a).drop k=(dgs b).drop k) (fun k=>k) (fun k=>fm [(0,dg (dgs a)),(1,dg (dgs b)),(5,lit (.int .i64 ((k:Int)-1)))]) (fun _=>[]) (dgs a).length
   ⟨Nat.le_refl _,by rw [List.drop_length,hlen,List.drop_length]⟩ (LeF.cons Lr (LeF.cons Lr (LeF.cons Lr (LeF.nil _)))) rfl ?_
  rintro k ⟨hk,hd⟩ K hK;rcases k with _|j
  ·repeat(refine A1 ⟨?_⟩;intros)
   ((first|refine aS ?_|refine eV ?_);refine aJ (RV.tmp rfl) (Le.int ?_))
   simp only [List.drop_zero]at hd;rw [Bi hd,oE]
  ·rw [show(((j+1:Nat):Int)-1)=(j:Int)from by omega];rcases Nat.lt_trichotomy ((dgs a).getD j 0) ((dgs b).getD j 0)with hlt|heq|hgt
   ·have hlt':=ld j hDa om om hd hlt;rw [hxa,hxb]at hlt';repeat(refine A1 ⟨?_⟩;intros)
    ((first|refine aS ?_|refine eV ?_);refine aJ (RV.tmp rfl) (Le.int ?_))
    rw [ib hlt']
   ·repeat(refine A1 ⟨?_⟩;intros)
    refine hK _ _ j ⟨om,?_⟩ om (LeF.cons Lr (LeF.cons Lr (LeF.cons Lr (LeF.nil _)))) rfl;rw [cM _ j om,cM (dgs b) j om,hd,heq]
   ·have hlt':=ld j hDb om om hd.symm hgt;rw [hxa,hxb]at hlt';repeat(refine A1 ⟨?_⟩;intros)
    ((first|refine aS ?_|refine eV ?_);refine aJ (RV.tmp rfl) (Le.int ?_))
    rw [jd hlt']
 ·rcases Nat.lt_or_gt_of_ne hlen with hlt|hgt
  ·have hab:a<b:=by
    rcases Nat.lt_or_ge a b with h|h
    ·exact h
    ·have:=aM h;omega
   repeat(refine A1 ⟨?_⟩;intros)
   ((first|refine aS ?_|refine eV ?_);refine aJ (RV.tmp rfl) (Le.int ?_))
   rw [ib hab]
  ·have hab:b<a:=by
    rcases Nat.lt_or_ge b a with h|h
    ·exact h
    ·have:=aM h;omega
   repeat(refine A1 ⟨?_⟩;intros)
   ((first|refine aS ?_|refine eV ?_);refine aJ (RV.tmp rfl) (Le.int ?_))
   rw [jd hab]
theorem Dh {vo va vb p c s x y:Nat}(h:vo+p*c=va+vb) (hs:s=c+x+y):vo+p*(s%4294967296)+p*4294967296*(s/4294967296)=va+p*x+(vb+p*y):=by
 subst hs;have e:=Nat.div_add_mod (c+x+y) 4294967296;rw [Nat.mul_assoc,Nat.add_assoc,←Nat.mul_add,Nat.add_comm ((c+x+y)%4294967296),e,Nat.mul_add,Nat.mul_add];omega
theorem IY (xs ys:List Nat) (hla:xs.length≤100000000) (hlb:ys.length≤100000000) (hA:D xs) (hB:D ys):Pu Tryz.prog 214 [dg xs,dg ys] (nat (val xs+val ys)):=by
 refine Pi Tryz.func214 fun C=>?_
 repeat(refine A1 ⟨?_⟩;intros)
 refine WP.via (fun F' H'=>∃p q:List Nat,q.length≤p.length∧p.length≤100000000∧D p∧D q∧val p+val q=val xs+val ys∧LeF F' (fm [(0,dg p),(1,dg q)])∧H'=[]) ?_ ?_
 ·refine WPd (fun hlt=>?_) (fun hlt=>?_)
  ·repeat(refine A1 ⟨?_⟩;intros)
   exact⟨ys,xs,om,hlb,hB,hA,om,LeF.cons Lr (LeF.cons Lr (LeF.nil _)),rfl⟩
  ·repeat(refine A1 ⟨?_⟩;intros)
   exact⟨xs,ys,om,hla,hA,hB,rfl,LeF.cons Lr (LeF.cons Lr (LeF.nil _)),rfl⟩
 ·rintro F' H' ⟨p,q,hqp,hpl,hP,hQ,hv,hF,rfl⟩;refine WP.le hF ?_;rw [←hv];clear hv hF hA hB hla hlb;repeat(refine A1 ⟨?_⟩;intros)
  refine oM (p.length+1) rfl rfl om om fun b=>?_
  repeat(refine A1 ⟨?_⟩;intros)
  refine WP.loop (ι:=Nat×Nat×List Nat) (fun s=>s.1≤p.length∧s.2.1≤1∧s.2.2.length=p.length+1∧D s.2.2∧val (s.2.2.take s.1)+4294967296^s.1*s.2.1=val (p.take s.1)+val (q.take s.1)) (fun s=>p.length-s.1)
   (fun s=>fm [(0,dg p),(1,dg q),(5,lit (.slice (some ⟨b,0,none⟩) (p.length+1) (p.length+1))),(6,lit (.int .u64 s.2.1)),(20,dg p),(21,lit (.int .i64 p.length)),(22,lit (.int .i64 s.1))])
   (fun s=>[(b,188,ax s.2.2)]) (0,0,List.replicate (p.length+1) 0) ⟨Nat.zero_le _,Nat.zero_le _,by simp,D.rep _,by simp [val]⟩
   (by repeat(first|exact LeF.nil _|refine LeF.cons Lr ?_)) rfl ?_
  rintro ⟨k,c,os⟩ ⟨hk,hc,hol,hO,hval⟩ K hK;simp only at hk hc hol hO hval⊢;have hp:=hP.get k;have hq:=hQ.get k;by_cases hkl:k<p.length
  ·have fin:∀s,s=c+p.getD k 0+q.getD k 0→∀F' H',LeF F' (fm [(0,dg p),(1,dg q),(5,lit (.slice (some ⟨b,0,none⟩) (p.length+1) (p.length+1))),(6,lit (.int .u64 ((s/4294967296:Nat):Int))),(20,dg p),(21,lit (.int .i64 p.length)),(22,lit (.int .i64 ((k+1:Nat):Int)))])→
     H'=[(b,188,ax (os.set k (s%4294967296)))]→K F' H':=fun s hs F' H' hF hH=>by
    refine hK F' H' (k+1,s/4294967296,os.set k (s%4294967296)) ⟨by simp only;omega,by simp only;omega,by simpa using hol,hO.set k om,?_⟩ (by simp only;omega) hF hH;simp only;rw [dr os k _ om,aA,aA,Nat.pow_succ];exact Dh hval hs
   by_cases hkq:k<q.length
   ·repeat(refine A1 ⟨?_⟩;intros)
    refine f8 ((c+p.getD k 0+q.getD k 0)%4294967296) rfl rfl om (ay.here _) om ?_;repeat(refine A1 ⟨?_⟩;intros)
    exact fin _ rfl _ _ lfA rfl
   ·have hq0:q.getD k 0=0:=by simp [List.getD,List.getElem?_eq_none (Nat.not_lt.1 hkq)]
    repeat(refine A1 ⟨?_⟩;intros)
    refine f8 ((c+p.getD k 0+q.getD k 0)%4294967296) rfl rfl om (ay.here _) om ?_;repeat(refine A1 ⟨?_⟩;intros)
    exact fin _ rfl _ _ lfA rfl
  ·have hke:k=p.length:=by omega
   subst hke;repeat(refine A1 ⟨?_⟩;intros)
   refine f8 c rfl rfl om (ay.here _) om ?_;repeat(refine A1 ⟨?_⟩;intros)
   refine g9 (ds:=os.set p.length c) 56 rfl (ak.here _) (by simpa using hol) om om ?_;refine Wc (cU (os.set p.length c) (by simp;omega) (hO.set _ om)) ?_
   have hfull:val (os.set p.length c)=val p+val q:=by
    have h1:=dr os p.length c om;rw [List.take_of_length_le (by simp;omega)]at h1;rw [h1,hval,List.take_length,List.take_of_length_le hqp]
   rw [hfull];exact Z1
theorem BH {vo va vb p c c' x y d:Nat}(h:vo+vb=va+p*c) (hd:d+4294967296*c'=x+c+y):vo+p*x+(vb+p*y)=va+p*d+p*4294967296*c':=by
 have:=congrArg (fun t=>p*t) hd;simp only [Nat.mul_add,←Nat.mul_assoc]at this;omega
theorem Fh (a b:Nat) (hab:b≤a) (hl:(dgs a).length≤100000000):Pu Tryz.prog 245 [nat a,nat b] (nat (a-b)):=by
 have hP:=aR a;have hQ:=aR b;have hqp:=aM hab;have hva:=au a;have hvb:=au b;show Pu _ _ [dg (dgs a),dg (dgs b)] _
 generalize dgs a=p at *;generalize dgs b=q at *;refine Pi Tryz.func245 fun C=>?_
 repeat(refine A1 ⟨?_⟩;intros)
 refine oM p.length rfl rfl om om fun bb=>?_
 repeat(refine A1 ⟨?_⟩;intros)
 refine WP.loop (ι:=Nat×Nat×List Nat) (fun s=>s.1≤p.length∧s.2.1≤1∧s.2.2.length=p.length∧D s.2.2∧val (s.2.2.take s.1)+val (q.take s.1)=val (p.take s.1)+4294967296^s.1*s.2.1) (fun s=>p.length-s.1)
  (fun s=>fm [(1,dg q),(5,lit (.slice (some ⟨bb,0,none⟩) p.length p.length)),(6,lit (.int .u64 s.2.1)),(14,dg p),(15,lit (.int .i64 p.length)),(16,lit (.int .i64 s.1))])
  (fun s=>[(bb,188,ax s.2.2)]) (0,0,List.replicate p.length 0) ⟨Nat.zero_le _,Nat.zero_le _,by simp,D.rep _,by simp [val]⟩ lfA rfl ?_
 rintro ⟨k,c,os⟩ ⟨hk,hc,hol,hO,hval⟩ K hK;simp only at hk hc hol hO hval⊢;have hp:=hP.get k;have hq:=hQ.get k;by_cases hkl:k<p.length
 ·have fin:∀x c',c'≤1→x<4294967296→p.getD k 0+4294967296*c'=x+c+q.getD k 0→∀F' H',LeF F' (fm [(1,dg q),(5,lit (.slice (some ⟨bb,0,none⟩) p.length p.length)),(6,lit (.int .u64 c')),(14,dg p),(15,lit (.int .i64 p.length)),(16,lit (.int .i64 ((k+1:Nat):Int)))])→
    H'=[(bb,188,ax (os.set k x))]→K F' H':=fun x c' hc' hx hd F' H' hF hH=>by
   refine hK F' H' (k+1,c',os.set k x) ⟨by simp only;omega,hc',by simpa using hol,hO.set k hx,?_⟩ (by simp only;omega) hF hH;simp only;rw [dr os k _ om,aA,aA,Nat.pow_succ];exact BH hval hd
  by_cases hkq:k<q.length
  ·by_cases hb:p.getD k 0<c+q.getD k 0
   ·repeat(refine A1 ⟨?_⟩;intros)
    refine f8 (p.getD k 0+4294967296-c-q.getD k 0) rfl rfl om (ay.here _) om ?_;repeat(refine A1 ⟨?_⟩;intros)
    exact fin _ 1 om om om _ _ lfA rfl
   ·repeat(refine A1 ⟨?_⟩;intros)
    refine f8 (p.getD k 0-c-q.getD k 0) rfl rfl om (ay.here _) om ?_;repeat(refine A1 ⟨?_⟩;intros)
    exact fin _ 0 om om om _ _ lfA rfl
  ·have hq0:q.getD k 0=0:=by simp [List.getD,List.getElem?_eq_none (Nat.not_lt.1 hkq)]
   by_cases hb:p.getD k 0<c
   ·repeat(refine A1 ⟨?_⟩;intros)
    refine f8 (p.getD k 0+4294967296-c) rfl rfl om (ay.here _) om ?_;repeat(refine A1 ⟨?_⟩;intros)
    exact fin _ 1 om om om _ _ lfA rfl
   ·repeat(refine A1 ⟨?_⟩;intros)
    refine f8 (p.getD k 0-c) rfl rfl om (ay.here _) om ?_;repeat(refine A1 ⟨?_⟩;intros)
    exact fin _ 0 om om om _ _ lfA rfl
 ·have hke:k=p.length:=by omega
  subst hke;repeat(refine A1 ⟨?_⟩;intros)
  refine g9 (ds:=os) 45 rfl (ak.here _) hol om om ?_;refine Wc (cU os om hO) ?_
  have hfull:val os=a-b:=by
   rw [List.take_length,List.take_of_length_le hqp,List.take_of_length_le om,hva,hvb]at hval;have h1:=bP hO;rw [hol]at h1;rcases Nat.lt_or_ge 0 c with h|h
   ·have:c=1:=by omega
    subst this;omega
   ·have:c=0:=by omega
    subst this;omega
  rw [hfull];exact Z1
theorem A9 (xs ys:List Nat) (hla:xs.length≤100000000) (hlb:ys.length≤100000000) (hA:D xs) (hB:D ys):Pu Tryz.prog 215 [dg xs,dg ys]
  (if val xs<val ys then tup [dg [],lit (.bool false)]else tup [nat (val xs-val ys),lit (.bool true)]):=by
 have hc:=vX (val xs) (val ys);refine Pi Tryz.func215 fun C=>?_
 repeat(refine A1 ⟨?_⟩;intros)
 refine Wc (Bp xs ys om om hA hB) ?_;by_cases h:val xs<val ys
 ·have h':=hc.2.2.2 h;rw [if_pos h];repeat(refine A1 ⟨?_⟩;intros)
  refine aS (fF (RV.tmp rfl) (RV.tmp rfl) ?_);intro m v hv;unfold tup at hv⊢;obtain⟨arr,rfl,hall⟩:=hv;refine⟨arr,rfl,?_⟩;rcases arr with⟨l⟩
  match l,hall with
  | [x,y],hall=>exact⟨eC _ _ hall.1,hall.2⟩
 ·have h':¬jR (val xs) (val ys)<0:=fun hh=>h (hc.2.2.1 hh)
  rw [if_neg h];repeat(refine A1 ⟨?_⟩;intros)
  refine Wc (cU xs om hA) ?_;repeat(refine A1 ⟨?_⟩;intros)
  refine Wc (cU ys om hB) ?_;refine Wc (Fh (val xs) (val ys) om (by have:=bC (bP hA);omega)) ?_;repeat(refine A1 ⟨?_⟩;intros)
  exact G2
theorem eP (ds:List Nat) (j x:Nat) (h:j<ds.length):val (ds.set j x)+4294967296^j*ds.getD j 0=val ds+4294967296^j*x:=by
 have h1:=uA ds j h;have h2:=uA (ds.set j x) j (by simpa using h)
 rw [List.take_set_of_le (Nat.le_refl _),show(ds.set j x).drop (j+1)=ds.drop (j+1)from by rw [List.drop_set];simp,
  show(ds.set j x).getD j 0=x from by simp [List.getD,h]]at h2
 rw [h1,h2,Nat.mul_add,Nat.mul_add];omega
theorem bq (ds:List Nat) (j k x:Nat) (h:j≠k):(ds.set j x).getD k 0=ds.getD k 0:=by simp [List.getD,List.getElem?_set_ne h]
theorem tJ {vo v p c x y o t:Nat}(vq:Nat){B1:Nat}(h:vo+B1*p*c=v+B1*x*vq) (ht:t=c+x*y+o){vo':Nat}(hs:vo'+B1*p*o=vo+B1*p*(t%4294967296)) :
  vo'+B1*(p*4294967296)*(t/4294967296)=v+B1*x*(vq+p*y):=by
 have e:=Nat.div_add_mod t 4294967296;have e2:=congrArg (fun z=>B1*p*z) e;rw [ht]at e2;simp only [Nat.mul_add,←Nat.mul_assoc]at e2 h⊢;rw [←ht]at e2;have e3:B1*p*x*y=B1*x*p*y:=by rw [Nat.mul_right_comm B1 p x]
 omega
theorem i0 {x y:Nat}(hx:x<4294967296) (hy:y<4294967296):(x:Int)*(y:Int)≤18446744065119617025∧0≤(x:Int)*(y:Int):=by
 have h:x*y≤4294967295*4294967295:=Nat.mul_le_mul om om;have h2:((x*y:Nat):Int)≤18446744065119617025:=by omega
 rw [Int.natCast_mul]at h2;exact⟨h2,Int.mul_nonneg om om⟩
theorem jV (xs:List Nat){k:Nat}(hl:xs.length≤k) (hk:k≤1000000000) (hA:D xs):∃p,Pu Tryz.prog 216 [dg xs] (dg p)∧p.length≤k∧D p∧val p=val xs∧p=dgs (val xs) :=
 ⟨dgs (val xs),cU xs om hA,by have:=bC (bP hA);omega,aR _,au _,rfl⟩
theorem AM (xs ys:List Nat) (hla:xs.length≤100000000) (hlb:ys.length≤100000000) (hA:D xs) (hB:D ys):Pu Tryz.prog 160 [dg xs,dg ys] (nat (val xs*val ys)):=by
 obtain⟨p,t1,h1,hP,hva,_⟩:=jV xs hla om hA;obtain⟨q,t2,h2,hQ,hvb,_⟩:=jV ys hlb om hB;rw [←hva,←hvb];refine Pi Tryz.func160 fun C=>?_
 repeat(refine A1 ⟨?_⟩;intros)
 refine Wc t1 ?_;repeat(refine A1 ⟨?_⟩;intros)
 refine Wc t2 ?_;repeat(refine A1 ⟨?_⟩;intros)
 refine oM (p.length+q.length) rfl rfl om om fun bb=>?_
 repeat(refine A1 ⟨?_⟩;intros)
 refine WP.loop (ι:=Nat×List Nat) (fun s=>s.1≤p.length∧s.2.length=p.length+q.length∧D s.2∧val s.2=val (p.take s.1)*val q∧∀j,s.1+q.length≤j→s.2.getD j 0=0) (fun s=>p.length-s.1)
  (fun s=>fm [(1,dg q),(5,lit (.slice (some ⟨bb,0,none⟩) (p.length+q.length) (p.length+q.length))),(21,dg p),(22,lit (.int .i64 p.length)),(23,lit (.int .i64 s.1))])
  (fun s=>[(bb,188,ax s.2)]) (0,List.replicate (p.length+q.length) 0) ⟨Nat.zero_le _,by simp,D.rep _,by simp [val,nA],fun j _=>by simp [List.getD,List.getElem?_replicate];split <;> simp⟩ lfA rfl ?_
 rintro ⟨i,os⟩ ⟨hi,hol,hO,hval,hz⟩ K hK;simp only at hi hol hO hval hz⊢;by_cases hil:i<p.length
 ·have hx:=hP.get i;repeat(refine A1 ⟨?_⟩;intros)
  refine WP.loop (ι:=Nat×Nat×List Nat) (fun s=>s.1≤q.length∧s.2.1<4294967296∧s.2.2.length=p.length+q.length∧D s.2.2∧val s.2.2+4294967296^i*4294967296^s.1*s.2.1=val os+4294967296^i*p.getD i 0*val (q.take s.1)∧∀j,i+q.length≤j→s.2.2.getD j 0=0) (fun s=>q.length-s.1)
   (fun s=>fm [(1,dg q),(5,lit (.slice (some ⟨bb,0,none⟩) (p.length+q.length) (p.length+q.length))),(6,lit (.int .i64 i)),(7,lit (.int .u32 (p.getD i 0:Nat))),(8,lit (.int .u64 s.2.1)),(21,dg p),(22,lit (.int .i64 p.length)),(23,lit (.int .i64 i)),(28,dg q),(29,lit (.int .i64 q.length)),(30,lit (.int .i64 s.1))])
   (fun s=>[(bb,188,ax s.2.2)]) (0,0,os) ⟨Nat.zero_le _,by simp,hol,hO,by simp [val],hz⟩ lfA rfl ?_
  rintro ⟨k,c,us⟩ ⟨hk,hc,hul,hU,hvu,hzu⟩ K2 hK2;simp only at hk hc hul hU hvu hzu⊢;by_cases hkl:k<q.length
  ·have hy:=hQ.get k;have ho:=hU.get (i+k);have hb:=i0 hx hy;have hcast:((p.getD i 0*q.getD k 0:Nat):Int)=(p.getD i 0:Int)*(q.getD k 0:Int):=Int.natCast_mul _ _;repeat(refine A1 ⟨?_⟩;intros)
   refine f8 ((c+(p.getD i 0*q.getD k 0+us.getD (i+k) 0))%4294967296) rfl rfl om (ay.here _) om ?_;repeat(refine A1 ⟨?_⟩;intros)
   refine hK2 _ _ (k+1,(c+(p.getD i 0*q.getD k 0+us.getD (i+k) 0))/4294967296,us.set (i+k) ((c+(p.getD i 0*q.getD k 0+us.getD (i+k) 0))%4294967296))
    ⟨by simp only;omega,by simp only;omega,by simpa using hul,hU.set _ om,?_,fun j hj=>by rw [bq _ _ _ _ (by(try simp only at hj);omega)];exact hzu j hj⟩ (by simp only;omega) lfA rfl
   simp only;rw [aA,Nat.pow_succ];have hs:=eP us (i+k) ((c+(p.getD i 0*q.getD k 0+us.getD (i+k) 0))%4294967296) om;rw [Nat.pow_add]at hs;exact tJ _ hvu om hs
  ·have hke:k=q.length:=by omega
   subst hke;have hz0:=hzu (i+q.length) om;repeat(refine A1 ⟨?_⟩;intros)
   refine f8 c rfl rfl om (ay.here _) om ?_;repeat(refine A1 ⟨?_⟩;intros)
   refine hK _ _ (i+1,us.set (i+q.length) c) ⟨by simp only;omega,by simpa using hul,hU.set _ hc,?_,fun j hj=>by rw [bq _ _ _ _ (by(try simp only at hj);omega)];exact hzu j (by(try simp only at hj);omega)⟩ (by simp only;omega) lfA rfl;simp only;have hs:=eP us (i+q.length) c om;rw [hz0,Nat.mul_zero,Nat.add_zero,Nat.pow_add]at hs;rw [hs,hvu,List.take_length,hval,aA,Nat.add_mul]
 ·have hie:i=p.length:=by omega
  subst hie;rw [List.take_length]at hval;repeat(refine A1 ⟨?_⟩;intros)
  refine g9 (ds:=os) 69 rfl (ak.here _) hol om om ?_;refine Wc (cU os om hO) ?_;rw [hval];exact Z1
def sv (s:Bool) (n:Nat):Int:=bif s then -(n:Int)else n
abbrev raw (s:Bool) (xs:List Nat):SV:=ag [lit (.bool s),dg xs]
abbrev int (z:Int):SV:=ag [lit (.bool (decide (z<0))),nat z.natAbs]
theorem gb (s:Bool) (n:Nat):(sv s n).natAbs=n:=by cases s <;> simp [sv]
theorem JC (s:Bool) (n:Nat):decide (sv s n<0)=(s&&decide (0<n)):=by
 cases s
 ·simp only [sv,cond_false,Bool.false_and];exact decide_eq_false om
 ·simp [sv]
theorem eB (z:Int):sv (decide (z<0)) z.natAbs=z:=by
 by_cases h:z<0 <;> simp [sv,h] <;> omega
theorem yp (n:Nat):sv false n=(n:Int):=rfl
theorem vF (s:Bool) (n:Nat):int (sv s n)=ag [lit (.bool (s&&decide (0<n))),nat n]:=by rw [int,gb,JC]
theorem vG (n:Nat):int (n:Int)=raw false (dgs n):=by rw [←yp,vF];rfl
theorem bX {n:Nat}(h:n≠0):0<(dgs n).length:=by
 rcases hd:dgs n with _|⟨d,l⟩
 ·have:=au n;rw [hd]at this;exact absurd this.symm h
 ·simp
theorem yc {xs:List Nat}(h:D xs):cq (val xs)≤32*xs.length:=e7.2 (by rw [Nat.pow_mul];exact bP h)
theorem ln (s:Bool) (n:Nat) (h:(dgs n).length≤1000000000):Pu Tryz.prog 213 [lit (.bool s),nat n] (int (sv s n)):=by
 rw [vF];by_cases h0:n=0
 ·subst h0;have hl:(dgs 0).length=0:=by rw [aT];rfl
  cases s <;> simp only [Nat.lt_irrefl,decide_false,Bool.and_false]
  all_goals
   refine Pi Tryz.func213 fun C=>?_
   exact Z2
 ·have hl:=bX h0;cases s <;> simp only [Bool.false_and,Bool.true_and,decide_eq_true (Nat.pos_of_ne_zero h0)]
  all_goals
   refine Pi Tryz.func213 fun C=>?_
   exact Z2
theorem rE (s:Bool) (xs:List Nat) (h:xs.length≤1000000000) (hD:D xs):Pu Tryz.prog 161 [raw s xs] (int (sv s (val xs))):=by
 rw [vF];have hb:(dgs (val xs)).length≤1000000000:=by have:=bC (bP hD);omega
 by_cases h0:val xs=0
 ·have hl:(dgs (val xs)).length=0:=by rw [h0,aT];rfl
  rw [show(s&&decide (0<val xs))=false from by rw [h0];simp];cases s
  all_goals
   refine Pi Tryz.func161 fun C=>?_
   repeat(refine A1 ⟨?_⟩;intros)
   refine Wc (jF xs h hD) ?_;exact Z2
 ·have hl:=bX h0;rw [decide_eq_true (Nat.pos_of_ne_zero h0),Bool.and_true];cases s
  all_goals
   refine Pi Tryz.func161 fun C=>?_
   repeat(refine A1 ⟨?_⟩;intros)
   refine Wc (jF xs h hD) ?_;exact Z2
theorem I7 (s:Bool) (xs:List Nat) (h:xs.length≤1000000000) (hD:D xs):Pu Tryz.prog 243 [raw s xs] (int (-sv s (val xs))):=by
 rw [show -sv s (val xs)=sv (!s) (val xs)from by cases s <;> simp [sv]];refine Pi Tryz.func243 fun C=>?_
 repeat(refine A1 ⟨?_⟩;intros)
 refine Wc (rE (!s) xs h hD) ?_;exact Z2
theorem qR (s:Bool) (xs:List Nat) (h:xs.length≤1000000000) (hD:D xs):Pu Tryz.prog 170 [raw s xs] (lit (.int .i64 (sv s (val xs)).sign)):=by
 by_cases h0:val xs=0
 ·rw [show(sv s (val xs)).sign=0 from by rw [h0];cases s <;> rfl];refine Pi Tryz.func170 fun C=>?_
  repeat(refine A1 ⟨?_⟩;intros)
  refine Wc (fZ xs h hD) ?_;rw [h0,show cq 0=0 from rfl];exact Z1
 ·have hb:cq (val xs)≠0:=fun e=>h0 (by have:=e7.1 (Nat.le_of_eq e);omega)
  have hbb:=yc hD;cases s
  ·rw [show(sv false (val xs)).sign=1 from Int.sign_eq_one_of_pos (by simp only [sv,cond_false];omega)];refine Pi Tryz.func170 fun C=>?_
   repeat(refine A1 ⟨?_⟩;intros)
   refine Wc (fZ xs h hD) ?_;exact Z1
  ·rw [show(sv true (val xs)).sign = -1 from Int.sign_eq_neg_one_of_neg (by simp only [sv,cond_true];omega)];refine Pi Tryz.func170 fun C=>?_
   repeat(refine A1 ⟨?_⟩;intros)
   refine Wc (fZ xs h hD) ?_;exact Z1
def Hid (p:Prop):Prop:=p
theorem Hid.out {p:Prop}(h:Hid p):p:=h
theorem Le.tup {a b:List SV}(h:LeL a b):Le (Ab.tup a) (Ab.tup b):=fun m v hv=>by
 unfold Ab.tup at *;obtain⟨arr,e,k⟩:=hv;exact⟨arr,e,k.le h⟩
theorem Le.tup2 {a b a' b':SV}(h1:Le a a') (h2:Le b b'):Le (Ab.tup [a,b]) (Ab.tup [a',b']):=Le.tup ⟨h1,h2,trivial⟩
theorem Le.tup3 {a b c a' b' c':SV}(h1:Le a a') (h2:Le b b') (h3:Le c c'):Le (Ab.tup [a,b,c]) (Ab.tup [a',b',c']):=Le.tup ⟨h1,h2,h3,trivial⟩
theorem Le.ag {a b:List SV}(h:LeL a b):Le (Ab.ag a) (Ab.ag b):=fun m v hv=>by
 unfold Ab.ag at *;obtain⟨arr,e,k⟩:=hv;exact⟨arr,e,k.le h⟩
section
variable {P:Program}{C:Ctx}{n:Nat}{F:Fr}{H:LH}{ops:Array Oper}{K:Fr→LH→Prop}{Q:Exit→Fr→LH→Prop}
theorem F8 {m:Mem}{w:World}(hm:aU m w){o:Obj}:aU (o4 m w.heap.size o) (w.alloc o)∧Rel [] m w (o4 m w.heap.size o) (w.alloc o):=by
 have hold:∀b,b<w.heap.size→(w.alloc o).heap[b]? = w.heap[b]?:=fun b hb=>@heap_alloc_old w o b hb
 have hlt:∀b o,m b=some o→b<w.heap.size:=fun b o hb=>(Array.getElem?_eq_some_iff.1 (hm b o hb)).1
 have hle:m.le (o4 m w.heap.size o):=fun b x hx=>by unfold o4;rw [if_neg (by have:=hlt b x hx;omega)];exact hx
 refine⟨⟨fun b x hx=>?_,Mem.le_trans hm.base hle⟩,⟨hle,fun b hb _=>?_,rfl,rfl,⟨rfl,Nat.le_refl _⟩,?_,fun b hb _=>hold b hb⟩⟩
 ·unfold o4 at hx;split at hx
  ·rename_i e;subst e;cases hx;exact heap_alloc_new w o
  ·rw [hold b (hlt b x hx)];exact hm b x hx
 ·unfold o4;rw [if_neg om]
 ·have:(w.alloc o).heap.size=w.heap.size+1:=World.size_alloc ..;rw [this];exact Nat.le_succ _
theorem bh {T ty:TypeId}{x:Operand}{sv:SV}{cs:List SV}(hx:ev F x=sv) [hco:CO sv cs]:OpV P (.box T x) ty F H (pt cs):=by
 refine OpV.of0 ?_;intro m w o a ho hty h1 h2 h3 K Q hK;have e0:=evA h3 (x:=x) (by simp [Op.operands]);rw [hx]at e0;have hc:=hco.h m _ e0;unfold Oper.wp
 have hrun:(execOp a.eval o).run P w = .ok (.value (.pointer (some ⟨w.heap.size,0,none⟩))) (w.alloc (.cells (a.eval x).cells T)):=by
  simp [execOp,ho,Instr.box,newVar,newRow]
 rw [hrun];obtain⟨q1,q2⟩:=F8 h1 (o := .cells (a.eval x).cells T);exact hK _ _ _ (yS _ _ (by unfold o4;rw [if_pos rfl]) (hc.mono q2.le)) q1 q2
theorem Wcg {d:Nat}{ty:TypeId}{pos:String}{aft:Array Edge}{rest:List Oper}{f:FuncId}{l:List Operand}{tys:Array TypeId}{svs:List SV}{res:SV}{j:Nat}{t:Bool}{oj:Oper}{dj:Nat}(hc:Pu P f svs res) (k:WPL P C n ops rest K (upd F d res) H)
  (ha:l.map (ev F)=svs:=by exact rfl) (hj:ops[j]? = some oj:=by exact rfl) (hdj:oj.dst=some dj:=by exact rfl) (hf:F dj=lit (.bool t):=by exact rfl)
  (hdn:Nat.blt dj n=true:=by exact rfl) (hd:Nat.blt d n=true:=by exact rfl):WPL P C n ops (⟨some d, .call ⟨.value (.func f),l.toArray,tys⟩,ty,pos,aft,some (j,t)⟩::rest) K F H :=
 Wog (k9 hc ha) k hj hdj hf hdn hd
theorem Gw {l:List Oper}{b:Nat}{T:TypeId}{cs:List SV}{H':LH}(d:Nat) (hv:F d=lit (.pointer (some ⟨b,0,none⟩))) (hdel:ak b T cs H H')
  (h:WPL P C n ops l K (upd F d (pt cs)) H'):WPL P C n ops l K F H:=WPL.pub hdel hv (fun m arr hm ha=>yS m arr hm ha) h
theorem Pu.le {f:FuncId}{l:List SV}{r r':SV}(h:Pu P f l r) (k:Le r r'):Pu P f l r':=by
 unfold Pu at *;exact⟨h.1,fun m w vs hm ha=>(h.2 m w vs hm ha).mono fun e w' ⟨v,m',e1,e2,e3,e4⟩=>⟨v,m',e1,k m' v e2,e3,e4⟩⟩
theorem Pu.arg {f:FuncId}{l l':List SV}{r:SV}(h:Pu P f l r) (k:LeL l' l):Pu P f l' r:=by
 unfold Pu at *;exact⟨h.1,fun m w vs hm ha=>h.2 m w vs hm (ha.le k)⟩
end
theorem Du {x:Int}(h0 : -9223372036854775808≤x) (h1:x≤9223372036854775807):IntKind.i64.wrap (x%18446744073709551616)=x:=by
 simp only [IntKind.wrap,IntKind.bits,IntKind.signed];simp;omega
theorem mR (z:Int) (h0 : -9223372036854775808≤z) (h1:z≤9223372036854775807):Pu Tryz.prog 133 [lit (.int .i64 z)] (int z):=by
 by_cases h:z<0
 ·rw [int,decide_eq_true h];refine Pi Tryz.func133 fun C=>?_
  repeat(refine A1 ⟨?_⟩;intros)
  rw [show -(z%18446744073709551616)%18446744073709551616=(z.natAbs:Int)from by omega];refine Wc (fR z.natAbs om) ?_;exact Z2
 ·rw [int,decide_eq_false h];refine Pi Tryz.func133 fun C=>?_
  repeat(refine A1 ⟨?_⟩;intros)
  generalize hn:z.natAbs=n at *;have hz:z=(n:Int):=by omega
  subst hz;refine Wc (fR n om) ?_;exact Z2
theorem CF (s:Bool) (xs:List Nat) (hl:xs.length≤1000000000) (hD:D xs) (hb:val xs<4611686018427387904):Pu Tryz.prog 173 [raw s xs] (tup [lit (.int .i64 (sv s (val xs))),lit (.bool true)]):=by
 have u:=nF xs hl hD;rw [if_pos om]at u;cases s
 ·simp only [sv,cond_false];refine Pi Tryz.func173 fun C=>?_
  repeat(refine A1 ⟨?_⟩;intros)
  refine Wc u ?_;repeat(refine A1 ⟨?_⟩;intros)
  exact G2
 ·simp only [sv,cond_true];refine Pi Tryz.func173 fun C=>?_
  repeat(refine A1 ⟨?_⟩;intros)
  refine Wc u ?_;repeat(refine A1 ⟨?_⟩;intros)
  refine aS (fF (RV.tmp rfl) (RV.tmp rfl) (Le.tup2 (Le.int ?_) Lr));exact Du om om
theorem DF (s t:Bool) (a b:Nat):sv (s != t) (a*b)=sv s a*sv t b:=by
 cases s <;> cases t <;> simp [sv,Int.natCast_mul,Int.mul_neg,Int.neg_mul]
theorem DG (s:Bool) (a b:Nat):sv s (a+b)=sv s a+sv s b:=by
 cases s <;> simp [sv] <;> omega
theorem uF (s t:Bool) (h:s≠t){a b:Nat}(hab:b≤a):sv s (a-b)=sv s a+sv t b:=by
 cases s <;> cases t <;> simp_all [sv] <;> omega
theorem Ia (s t:Bool) (xs ys:List Nat) (hlx:xs.length≤100000000) (hly:ys.length≤100000000) (hX:D xs) (hY:D ys):Pu Tryz.prog 159 [raw s xs,raw t ys] (int (sv s (val xs)*sv t (val ys))):=by
 have hl:=bC (Nat.lt_of_lt_of_le (Nat.mul_lt_mul'' (bP hX) (bP hY)) (Nat.le_of_eq (Nat.pow_add ..).symm));rw [←DF];refine Pi Tryz.func159 fun C=>?_
 repeat(refine A1 ⟨?_⟩;intros)
 refine Wdc (AM xs ys hlx hly hX hY) ?_;repeat(refine A1 ⟨?_⟩;intros)
 refine Wdc (ln (s != t) (val xs*val ys) om) ?_;exact Z2
theorem sj (a b:Nat):(dgs (a+b)).length≤max (dgs a).length (dgs b).length+1:=by
 refine bC ?_;have h1:=jp a;have h2:=jp b;have b1:4294967296^(dgs a).length≤4294967296^max (dgs a).length (dgs b).length:=Nat.pow_le_pow_right om om;have b2:4294967296^(dgs b).length≤4294967296^max (dgs a).length (dgs b).length:=Nat.pow_le_pow_right om om;rw [Nat.pow_succ];omega
theorem bW (a b:Nat):(dgs (a*b)).length≤(dgs a).length+(dgs b).length:=by
 refine bC ?_;rw [Nat.pow_add];exact Nat.mul_lt_mul'' (jp a) (jp b)
theorem gN {xs:List Nat}(h:D xs):(dgs (val xs)).length≤xs.length:=bC (bP h)
theorem IX (s t:Bool) (xs ys:List Nat) (hlx:xs.length≤100000000) (hly:ys.length≤100000000) (hX:D xs) (hY:D ys):Pu Tryz.prog 158 [raw s xs,raw t ys] (int (sv s (val xs)+sv t (val ys))):=by
 have hl1:=gN hX;have hl2:=gN hY;have s1:=A9 xs ys hlx hly hX hY;have s2:=A9 ys xs hly hlx hY hX;by_cases hst:s=t
 ·subst hst;have hl:=sj (val xs) (val ys);rw [←DG];cases s
  all_goals
   refine Pi Tryz.func158 fun C=>?_
   repeat(refine A1 ⟨?_⟩;intros)
   refine Wdc (IY xs ys hlx hly hX hY) ?_;repeat(refine A1 ⟨?_⟩;intros)
   refine Wdc (ln _ (val xs+val ys) om) ?_;exact Z2
 ·by_cases hlt:val xs<val ys
  ·rw [if_pos hlt]at s1;rw [if_neg om]at s2;have hl:=aM (Nat.sub_le (val ys) (val xs));rw [Int.add_comm,←uF t s (Ne.symm hst) om];cases s <;> cases t <;> first|exact absurd rfl hst|skip
   all_goals
    refine Pi Tryz.func158 fun C=>?_
    repeat(refine A1 ⟨?_⟩;intros)
    refine Wc s1 ?_;repeat(refine A1 ⟨?_⟩;intros)
    refine Wc s2 ?_;repeat(refine A1 ⟨?_⟩;intros)
    refine Wc (ln _ (val ys-val xs) om) ?_;exact Z2
  ·rw [if_neg om]at s1;have hl:=aM (Nat.sub_le (val xs) (val ys));rw [←uF s t hst om];cases s <;> cases t <;> first|exact absurd rfl hst|skip
   all_goals
    refine Pi Tryz.func158 fun C=>?_
    repeat(refine A1 ⟨?_⟩;intros)
    refine Wc s1 ?_;repeat(refine A1 ⟨?_⟩;intros)
    refine Wc (ln _ (val xs-val ys) om) ?_;exact Z2
theorem EZ {x0 x1 y0 y1:Nat}{a b:Nat}(ha:a=x0+4294967296*x1) (hb:b=y0+4294967296*y1) :
  a*b=x0*y0+4294967296*(x1*y0)+4294967296*(x0*y1)+18446744073709551616*(x1*y1):=by
 subst ha;subst hb;rw [Nat.add_mul,Nat.mul_add,Nat.mul_add,Nat.mul_assoc,Nat.mul_assoc,Nat.mul_left_comm x0];rw [Nat.mul_left_comm x1 4294967296,←Nat.mul_assoc 4294967296 4294967296];omega
theorem EY (a b:Nat) (ha:a<18446744073709551616) (hb:b<18446744073709551616):Pu Tryz.prog 210 [lit (.int .u64 a),lit (.int .u64 b)] (tup [lit (.int .u64 (a*b/18446744073709551616:Nat)),lit (.int .u64 (a*b%18446744073709551616:Nat))]):=by
 obtain⟨x0,hx0⟩:∃x,x=a%4294967296:=⟨_,rfl⟩
 obtain⟨x1,hx1⟩:∃x,x=a/4294967296:=⟨_,rfl⟩
 obtain⟨y0,hy0⟩:∃x,x=b%4294967296:=⟨_,rfl⟩
 obtain⟨y1,hy1⟩:∃x,x=b/4294967296:=⟨_,rfl⟩
 have l1:x0<4294967296:=by omega
 have l2:x1<4294967296:=by omega
 have l3:y0<4294967296:=by omega
 have l4:y1<4294967296:=by omega
 have e:=EZ (x0:=x0) (x1:=x1) (y0:=y0) (y1:=y1) (a:=a) (b:=b) om om;have p1:=i0 l1 l3;have p2:=i0 l2 l3;have p3:=i0 l1 l4;have p4:=i0 l2 l4;have c1:=Int.natCast_mul x0 y0;have c2:=Int.natCast_mul x1 y0;have c3:=Int.natCast_mul x0 y1;have c4:=Int.natCast_mul x1 y1;have c5:=Int.natCast_mul a b;have q1:(a:Int)/4294967296=(x1:Int):=by omega
 have q2:(b:Int)/4294967296=(y1:Int):=by omega
 refine Pi Tryz.func210 fun C=>?_
 repeat(refine A1 ⟨?_⟩;intros)
 refine Wo (ry rfl rfl (l6 a rfl ha)) ?_;rw [←hx0];repeat(refine A1 ⟨?_⟩;intros)
 refine Wo (ry rfl rfl (l6 b rfl hb)) ?_;rw [←hy0,q1];repeat(refine A1 ⟨?_⟩;intros)
 rw [q2];refine Wo (ry rfl rfl (l6 (x1*y0+x0*y0/4294967296) om om)) ?_;repeat(refine A1 ⟨?_⟩;intros)
 refine aS (fF (RV.tmp rfl) (RV.tmp rfl) (Le.tup2 (Le.int ?_) (Le.int ?_)));all_goals(clear q1 q2 hx0 hx1 hy0 hy1;omega)
end Go.Ab
