/- Texts laid one behind the other: NatA, NatB, NatC, NatD, NatE, NatF, Cap. -/
import Derived.Test.YtbcojehfealiaaaGreatDoorTy
set_option linter.all false
set_option maxHeartbeats 16000000
namespace Go.Ab
open Go.Proofs
variable [Base]
abbrev nat (n:Nat):SV:=dg (dgs n)
theorem EA (ds:List Nat) (hl:ds.length≤1000000000):Pu Tryz.prog 216 [dg ds] (dg (eI ds)):=by
 refine Pi Tryz.func216 fun C=>?_
 repeat(refine A1 ⟨?_⟩;intros)
 refine WP.loop (ι:=Nat) (fun k=>k≤ds.length∧eI (ds.take k)=eI ds) (fun k=>k) (fun k=>fm [(0,dg (ds.take k))]) (fun _=>[]) ds.length ⟨Nat.le_refl _,by rw [List.take_length]⟩ (LeF.cons (by rw [List.take_length];exact Le.refl _) (LeF.nil _)) rfl ?_;rintro k ⟨hk,ht⟩ K hK;have hlen:(ds.take k).length=k:=by rw [List.length_take];omega
 rcases k with _|j
 ·repeat(refine A1 ⟨?_⟩;intros)
  exact aM (ax (RV.tmp (s:=dg (List.take 0 ds)) rfl) (Le.of_eq (by rw [←ht];rfl)))
 ·have hg:(List.take (j+1) ds).getD j 0=ds.getD j 0:=by simp [List.getD]
  iterate 2 refine WP.seq' ?_
  refine WP.reg ?_;iterate 7 (refine O1 ⟨?_⟩;intros)
  refine Wog (uc (r:=(j:Int)) rfl rfl (BI om om om)) ?_;refine Wog (kH (i:=j) rfl rfl om) ?_;rw [hg];by_cases hd:ds.getD j 0=0
  ·repeat(refine A1 ⟨?_⟩;intros)
   refine Wo (u9 j rfl rfl om om) ?_;rw [List.take_take,Nat.min_eq_left om];repeat(refine A1 ⟨?_⟩;intros)
   refine hK _ _ j ⟨om,?_⟩ om (LeF.cons Lr (LeF.nil _)) rfl;rw [aS ds j om,hd,eP]at ht;exact ht
  ·rw [aS ds j om,fQ _ _ hd,←aS ds j om]at ht;repeat(refine A1 ⟨?_⟩;intros)
   exact aM (ax (RV.tmp (s:=dg (List.take (j+1) ds)) rfl) (Le.of_eq (by rw [ht])))
theorem cI (ds:List Nat) (hl:ds.length≤1000000000) (hD:D ds):Pu Tryz.prog 216 [dg ds] (nat (val ds)):=by
 have:=EA ds hl;rwa [mj hD]at this
theorem dX:Le (lit (.slice none 0 0)) (dg []):=fun m v h=>by
 rw [aj]at h;subst h;rw [oY];exact eJ (by simp) (by simp [maxLen]) (.inl rfl)
theorem wR (ds:List Nat) (hl:ds.length≤1000000000):Pu Tryz.prog 217 [dg ds] (dg ds):=by
 refine Pi Tryz.func217 fun C=>?_
 repeat(refine A1 ⟨?_⟩;intros)
 refine WP.exd (d:=4) rfl fun b=>?_
 cases hb:b&&decide (ds=[])with
 |true =>
  have:ds=[]:=by simp at hb;exact hb.2
  subst this;repeat(refine A1 ⟨?_⟩;intros)
  exact aM (ax (RV.tmp rfl) dX)
 |false =>
  exact Z1
theorem iR (ds:List Nat) (hl:ds.length≤1000000000) (hD:D ds):Pu Tryz.prog 162 [dg ds] (nat (val ds)):=by
 have hl':(dgs (val ds)).length≤1000000000:=by
  have:=bi (bA hD);omega
 refine Pi Tryz.func162 fun C=>?_
 repeat(refine A1 ⟨?_⟩;intros)
 refine Wc (cI ds hl hD) ?_;refine Wc (wR _ hl') ?_;exact Z1
theorem fw (u:Nat) (hu:u<18446744073709551616):Pu Tryz.prog 163 [lit (.int .u64 u)] (nat u):=by
 have hD:D [u%4294967296,u/4294967296]:=D.cons om (D.cons om D.nil);have hv:val [u%4294967296,u/4294967296]=u:=by simp [val];omega
 refine Pi Tryz.func163 fun C=>?_
 repeat(refine A1 ⟨?_⟩;intros)
 refine fI (ds:=[u%4294967296,u/4294967296]) 8 rfl (ac.here _) rfl om om ?_;refine Wc (cI _ (by simp) hD) ?_;rw [hv];exact Z1
theorem or0 {a:Int}(x:Nat) (ha:a=(x:Int)) (hx:x<18446744073709551616):IntKind.u64.wrap ((BitVec.ofInt (IntKind.bits .u64) 0 ||| BitVec.ofInt (IntKind.bits .u64) a).toNat:Int)=(x:Int):=by
 subst ha;rw [BitVec.toNat_or];simp only [IntKind.bits];rw [fg 64 _ om,show(0:Int)=((0:Nat):Int)from rfl,fg 64 0 om,Nat.zero_or];exact rX .u64 rfl _ (by simp only [IntKind.bits];omega)
theorem Ez (k c d:Nat) (hk:k<2) (hc:c<4294967296^k) (hd:d<4294967296) :
  IntKind.u64.wrap ((BitVec.ofInt (IntKind.bits .u64) (c:Int) ||| BitVec.ofInt (IntKind.bits .u64) (IntKind.u64.wrap ((d:Int)*2^(min (32*(k:Int)).toNat (IntKind.bits .u64))))).toNat:Int)=((c+4294967296^k*d:Nat):Int):=by
 match k,hk with
 |0,_ =>
  have:c=0:=by simpa using hc
  subst this;refine(or0 d ?_ om).trans (by simp);show IntKind.u64.wrap ((d:Int)*1)=d
  rw [Int.mul_one];exact xf om om
 |1,_ =>
  have hc':c<4294967296:=by simpa using hc
  refine(D0 d c rfl ?_ hd hc').trans (by simp;omega);exact GZ om om
theorem mh (ds:List Nat) (hl:ds.length≤1000000000) (hD:D ds):Pu Tryz.prog 174 [dg ds]
  (if val ds<18446744073709551616 then tup [lit (.int .u64 (val ds)),lit (.bool true)]else tup [lit (.int .u64 0),lit (.bool false)]):=by
 refine Pi Tryz.func174 fun C=>?_
 repeat(refine A1 ⟨?_⟩;intros)
 refine Wc (cI ds hl hD) ?_
 have hll:(dgs (val ds)).length≤1000000000:=by
  have:=bi (bA hD);omega
 by_cases hlen:(dgs (val ds)).length≤2
 ·have hlt:val ds<18446744073709551616:=by have:=ut hlen;simpa using this
  rw [if_pos hlt];repeat(refine A1 ⟨?_⟩;intros)
  generalize hgen:dgs (val ds)=es at *;have hDe:D es:=hgen▸aH _
  have hve:val es=val ds:=by rw [←hgen,an]
  refine WP.loop (ι:=Nat) (fun k=>k≤es.length) (fun k=>es.length-k) (fun k=>fm [(4,lit (.int .u64 (val (es.take k):Nat))),(12,dg es),(13,lit (.int .i64 es.length)),(14,lit (.int .i64 k))]) (fun _=>[]) 0 (Nat.zero_le _)
   (LeF.cons Lr (LeF.cons Lr (LeF.cons Lr (LeF.cons Lr (LeF.nil _))))) rfl ?_
  intro k hk K hK;have hg:=hDe.get k;by_cases hlt2:k<es.length
  ·repeat(refine A1 ⟨?_⟩;intros)
   have hvt:=bA (hDe.take k);rw [List.length_take,Nat.min_eq_left hk]at hvt;refine Wo (jJ rfl rfl (Ez k _ _ om hvt hg)) ?_;rw [←iA es k hlt2];repeat(refine A1 ⟨?_⟩;intros)
   exact hK _ _ (k+1) om om (LeF.cons Lr (LeF.cons Lr (LeF.cons Lr (LeF.cons Lr (LeF.nil _))))) rfl
  ·have hke:k=es.length:=by omega
   subst hke;rw [List.take_length,hve];repeat(refine A1 ⟨?_⟩;intros)
   exact G2
 ·have hge:¬val ds<18446744073709551616:=by
   have:=rM (n:=val ds) (k:=2) om;simp at this;omega
  rw [if_neg hge];repeat(refine A1 ⟨?_⟩;intros)
  exact G2
theorem Dl (x:Nat) (hx:x<4294967296):Pu Tryz.prog 246 [lit (.int .u32 x)] (lit (.int .i64 (bV x))):=by
 have fin:∀y,y<256→bV y≤8:=fun y hy=>dO.2 hy
 refine Pi Tryz.func246 fun C=>?_
 by_cases h16:65536≤x
 ·have e16:=lQ x 16 h16;by_cases h8:256≤x/65536
  ·have e8:=lQ (x/65536) 8 h8;have f:=fin (x/65536/256) om;repeat(refine A1 ⟨?_⟩;intros)
   refine Wo (ua 256 (x/65536/256) bV rfl rfl om om (by decide +kernel)) ?_;repeat(refine A1 ⟨?_⟩;intros)
   ((first|refine aM ?_|refine eF ?_);refine ax (RV.tmp rfl) (Le.int ?_))
   simp only [Nat.reducePow]at e16 e8;omega
  ·have f:=fin (x/65536) om;repeat(refine A1 ⟨?_⟩;intros)
   refine Wo (ua 256 (x/65536) bV rfl rfl om om (by decide +kernel)) ?_;repeat(refine A1 ⟨?_⟩;intros)
   ((first|refine aM ?_|refine eF ?_);refine ax (RV.tmp rfl) (Le.int ?_))
   simp only [Nat.reducePow]at e16;omega
 ·by_cases h8:256≤x
  ·have e8:=lQ x 8 h8;have f:=fin (x/256) om;repeat(refine A1 ⟨?_⟩;intros)
   refine Wo (ua 256 (x/256) bV rfl rfl om om (by decide +kernel)) ?_;repeat(refine A1 ⟨?_⟩;intros)
   ((first|refine aM ?_|refine eF ?_);refine ax (RV.tmp rfl) (Le.int ?_))
   simp only [Nat.reducePow]at e8;omega
  ·have f:=fin x om;repeat(refine A1 ⟨?_⟩;intros)
   refine Wo (ua 256 x bV rfl rfl om om (by decide +kernel)) ?_;repeat(refine A1 ⟨?_⟩;intros)
   ((first|refine aM ?_|refine eF ?_);refine ax (RV.tmp rfl) (Le.int ?_))
   omega
theorem un (x:Nat) (hx:x<4294967296):Pu Tryz.prog 218 [lit (.int .u32 x)] (lit (.int .i64 (32-bV x))):=by
 have f:bV x≤32:=dO.2 hx;refine Pi Tryz.func218 fun C=>?_
 repeat(refine A1 ⟨?_⟩;intros)
 refine Wc (Dl x hx) ?_;exact Z1
theorem uP {n:Nat}(h:n≠0):∃k,(dgs n).length=k+1∧(dgs n).getD k 0≠0∧(dgs n).getD k 0<4294967296∧val ((dgs n).take k)<4294967296^k∧n=val ((dgs n).take k)+4294967296^k*(dgs n).getD k 0:=by
 have hne:dgs n≠[]:=fun e=>h (Gu e)
 obtain⟨k,hk⟩:∃k,(dgs n).length=k+1:=⟨(dgs n).length-1,by have:=List.length_pos_iff.2 hne;omega⟩
 refine⟨k,hk,?_,(aH n).get k,?_,?_⟩
 ·have hc:=(Gw n).2;rw [List.getLast?_eq_getElem?,hk]at hc;intro h0;apply hc;have:k<(dgs n).length:=by omega
  simp [List.getD,this]at h0⊢;exact h0
 ·have:=bA ((aH n).take k);rwa [List.length_take,Nat.min_eq_left om]at this
 ·have:=iA (dgs n) k om;rw [←hk,List.take_length,an]at this;exact this
theorem fB (ds:List Nat) (hl:ds.length≤1000000000) (hD:D ds):Pu Tryz.prog 169 [dg ds] (lit (.int .i64 (bV (val ds)))):=by
 have hll:(dgs (val ds)).length≤1000000000:=by have:=bi (bA hD);omega
 refine Pi Tryz.func169 fun C=>?_
 repeat(refine A1 ⟨?_⟩;intros)
 refine Wc (cI ds hl hD) ?_;by_cases h0:val ds=0
 ·have hn:(dgs (val ds)).length=0:=by rw [h0,aN];rfl
  repeat(refine A1 ⟨?_⟩;intros)
  ((first|refine aM ?_|refine eF ?_);refine ax (RV.tmp rfl) (Le.int ?_))
  rw [h0];simp [bV]
 ·obtain⟨k,hk,ht,hd,hv,he⟩:=uP h0;have hb:=E9 _ _ k hv ht;rw [←he]at hb;have f:bV ((dgs (val ds)).getD k 0)≤32:=dO.2 hd;repeat(refine A1 ⟨?_⟩;intros)
  rw [show(dgs (val ds)).length-1=k from by omega];refine Wc (un _ hd) ?_;repeat(refine A1 ⟨?_⟩;intros)
  ((first|refine aM ?_|refine eF ?_);refine ax (RV.tmp rfl) (Le.int ?_))
  omega
def j9 (a b:Nat):Int:=if a<b then -1 else if a=b then 0 else 1
theorem gF {a b:Nat}(h:a<b):j9 a b = -1:=by unfold j9;rw [if_pos h]
theorem iy {a b:Nat}(h:b<a):j9 a b=1:=by unfold j9;rw [if_neg om,if_neg om]
theorem nE (a:Nat):j9 a a=0:=by unfold j9;rw [if_neg om,if_pos rfl]
theorem uV (a b:Nat) : -1≤j9 a b∧j9 a b≤1∧(j9 a b<0↔a<b):=by
 unfold j9;split
 ·simp;omega
 ·split <;> simp <;> omega
theorem tw (ds:List Nat) (i:Nat) (h:i<ds.length):val ds=val (ds.take i)+4294967296^i*(ds.getD i 0+4294967296*val (ds.drop (i+1))):=by
 rw [fJ ds i om,cu ds i h,cT]
theorem kq {xs ys:List Nat}(i:Nat) (ha:D xs) (hi:i<xs.length) (hj:i<ys.length) (hd:xs.drop (i+1)=ys.drop (i+1)) (hlt:xs.getD i 0<ys.getD i 0):val xs<val ys:=by
 rw [tw xs i hi,tw ys i hj,hd];have h1:=bA (ha.take i);rw [List.length_take,Nat.min_eq_left om]at h1;generalize 4294967296^i=p at *;have h2:p*(xs.getD i 0+1+4294967296*val (ys.drop (i+1)))≤p*(ys.getD i 0+4294967296*val (ys.drop (i+1))):=Nat.mul_le_mul_left _ om;rw [show xs.getD i 0+1+4294967296*val (ys.drop (i+1))=(xs.getD i 0+4294967296*val (ys.drop (i+1)))+1 from by omega,Nat.mul_add,Nat.mul_one]at h2;omega
theorem A3 (xs ys:List Nat) (hla:xs.length≤1000000000) (hlb:ys.length≤1000000000) (hA:D xs) (hB:D ys):Pu Tryz.prog 221 [dg xs,dg ys] (lit (.int .i64 (j9 (val xs) (val ys)))):=by
 have h1:(dgs (val xs)).length≤1000000000:=by have:=bi (bA hA);omega
 have h2:(dgs (val ys)).length≤1000000000:=by have:=bi (bA hB);omega
 have hxa:=an (val xs);have hxb:=an (val ys);have hDa:=aH (val xs);have hDb:=aH (val ys);refine Pi Tryz.func221 fun C=>?_
 repeat(refine A1 ⟨?_⟩;intros)
 refine Wc (cI xs hla hA) ?_;repeat(refine A1 ⟨?_⟩;intros)
 refine Wc (cI ys hlb hB) ?_;generalize hav:val xs=a at *;generalize hbv:val ys=b at *;clear hav hbv hA hB hla hlb;by_cases hlen:(dgs a).length=(dgs b).length
 ·repeat(refine A1 ⟨?_⟩;intros)
  refine WP.loop (ι:=Nat) (fun k=>k≤(dgs a).length∧(dgs a).drop k=(dgs b).drop k) (fun k=>k) (fun k=>fm [(0,dg (dgs a)),(1,dg (dgs b)),(5,lit (.int .i64 ((k:Int)-1)))]) (fun _=>[]) (dgs a).length
   ⟨Nat.le_refl _,by rw [List.drop_length,hlen,List.drop_length]⟩ (LeF.cons Lr (LeF.cons Lr (LeF.cons Lr (LeF.nil _)))) rfl ?_
  rintro k ⟨hk,hd⟩ K hK;rcases k with _|j
  ·repeat(refine A1 ⟨?_⟩;intros)
   ((first|refine aM ?_|refine eF ?_);refine ax (RV.tmp rfl) (Le.int ?_))
   simp only [List.drop_zero]at hd;rw [zW hd,nE]
  ·rw [show(((j+1:Nat):Int)-1)=(j:Int)from by omega];rcases Nat.lt_trichotomy ((dgs a).getD j 0) ((dgs b).getD j 0)with hlt|heq|hgt
   ·have hlt':=kq j hDa om om hd hlt;rw [hxa,hxb]at hlt';repeat(refine A1 ⟨?_⟩;intros)
    ((first|refine aM ?_|refine eF ?_);refine ax (RV.tmp rfl) (Le.int ?_))
    rw [gF hlt']
   ·repeat(refine A1 ⟨?_⟩;intros)
    refine hK _ _ j ⟨om,?_⟩ om (LeF.cons Lr (LeF.cons Lr (LeF.cons Lr (LeF.nil _)))) rfl;rw [cu _ j om,cu (dgs b) j om,hd,heq]
   ·have hlt':=kq j hDb om om hd.symm hgt;rw [hxa,hxb]at hlt';repeat(refine A1 ⟨?_⟩;intros)
    ((first|refine aM ?_|refine eF ?_);refine ax (RV.tmp rfl) (Le.int ?_))
    rw [iy hlt']
 ·rcases Nat.lt_or_gt_of_ne hlen with hlt|hgt
  ·have hab:a<b:=by
    rcases Nat.lt_or_ge a b with h|h
    ·exact h
    ·have:=aD h;omega
   repeat(refine A1 ⟨?_⟩;intros)
   ((first|refine aM ?_|refine eF ?_);refine ax (RV.tmp rfl) (Le.int ?_))
   rw [gF hab]
  ·have hab:b<a:=by
    rcases Nat.lt_or_ge b a with h|h
    ·exact h
    ·have:=aD h;omega
   repeat(refine A1 ⟨?_⟩;intros)
   ((first|refine aM ?_|refine eF ?_);refine ax (RV.tmp rfl) (Le.int ?_))
   rw [iy hab]
theorem By {vo va vb p c s x y:Nat}(h:vo+p*c=va+vb) (hs:s=c+x+y):vo+p*(s%4294967296)+p*4294967296*(s/4294967296)=va+p*x+(vb+p*y):=by
 subst hs;have e:=Nat.div_add_mod (c+x+y) 4294967296;rw [Nat.mul_assoc,Nat.add_assoc,←Nat.mul_add,Nat.add_comm ((c+x+y)%4294967296),e,Nat.mul_add,Nat.mul_add];omega
theorem GL (xs ys:List Nat) (hla:xs.length≤100000000) (hlb:ys.length≤100000000) (hA:D xs) (hB:D ys):Pu Tryz.prog 214 [dg xs,dg ys] (nat (val xs+val ys)):=by
 refine Pi Tryz.func214 fun C=>?_
 repeat(refine A1 ⟨?_⟩;intros)
 refine WP.via (fun F' H'=>∃p q:List Nat,q.length≤p.length∧p.length≤100000000∧D p∧D q∧val p+val q=val xs+val ys∧LeF F' (fm [(0,dg p),(1,dg q)])∧H'=[]) ?_ ?_
 ·refine WPd (fun hlt=>?_) (fun hlt=>?_)
  ·repeat(refine A1 ⟨?_⟩;intros)
   exact⟨ys,xs,om,hlb,hB,hA,om,LeF.cons Lr (LeF.cons Lr (LeF.nil _)),rfl⟩
  ·repeat(refine A1 ⟨?_⟩;intros)
   exact⟨xs,ys,om,hla,hA,hB,rfl,LeF.cons Lr (LeF.cons Lr (LeF.nil _)),rfl⟩
 ·rintro F' H' ⟨p,q,hqp,hpl,hP,hQ,hv,hF,rfl⟩;refine WP.le hF ?_;rw [←hv];clear hv hF hA hB hla hlb;repeat(refine A1 ⟨?_⟩;intros)
  refine nK (p.length+1) rfl rfl om om fun b=>?_
  repeat(refine A1 ⟨?_⟩;intros)
  refine WP.loop (ι:=Nat×Nat×List Nat) (fun s=>s.1≤p.length∧s.2.1≤1∧s.2.2.length=p.length+1∧D s.2.2∧val (s.2.2.take s.1)+4294967296^s.1*s.2.1=val (p.take s.1)+val (q.take s.1)) (fun s=>p.length-s.1)
   (fun s=>fm [(0,dg p),(1,dg q),(5,lit (.slice (some ⟨b,0,none⟩) (p.length+1) (p.length+1))),(6,lit (.int .u64 s.2.1)),(20,dg p),(21,lit (.int .i64 p.length)),(22,lit (.int .i64 s.1))])
   (fun s=>[(b,188,ar s.2.2)]) (0,0,List.replicate (p.length+1) 0) ⟨Nat.zero_le _,Nat.zero_le _,by simp,D.rep _,by simp [val]⟩
   (by repeat(first|exact LeF.nil _|refine LeF.cons Lr ?_)) rfl ?_
  rintro ⟨k,c,os⟩ ⟨hk,hc,hol,hO,hval⟩ K hK;simp only at hk hc hol hO hval⊢;have hp:=hP.get k;have hq:=hQ.get k;by_cases hkl:k<p.length
  ·have fin:∀s,s=c+p.getD k 0+q.getD k 0→∀F' H',LeF F' (fm [(0,dg p),(1,dg q),(5,lit (.slice (some ⟨b,0,none⟩) (p.length+1) (p.length+1))),(6,lit (.int .u64 ((s/4294967296:Nat):Int))),(20,dg p),(21,lit (.int .i64 p.length)),(22,lit (.int .i64 ((k+1:Nat):Int)))])→
     H'=[(b,188,ar (os.set k (s%4294967296)))]→K F' H':=fun s hs F' H' hF hH=>by
    refine hK F' H' (k+1,s/4294967296,os.set k (s%4294967296)) ⟨by simp only;omega,by simp only;omega,by simpa using hol,hO.set k om,?_⟩ (by simp only;omega) hF hH;simp only;rw [cS os k _ om,av,av,Nat.pow_succ];exact By hval hs
   by_cases hkq:k<q.length
   ·repeat(refine A1 ⟨?_⟩;intros)
    refine eH ((c+p.getD k 0+q.getD k 0)%4294967296) rfl rfl om (aq.here _) om ?_;repeat(refine A1 ⟨?_⟩;intros)
    exact fin _ rfl _ _ lfA rfl
   ·have hq0:q.getD k 0=0:=by simp [List.getD,List.getElem?_eq_none (Nat.not_lt.1 hkq)]
    repeat(refine A1 ⟨?_⟩;intros)
    refine eH ((c+p.getD k 0+q.getD k 0)%4294967296) rfl rfl om (aq.here _) om ?_;repeat(refine A1 ⟨?_⟩;intros)
    exact fin _ rfl _ _ lfA rfl
  ·have hke:k=p.length:=by omega
   subst hke;repeat(refine A1 ⟨?_⟩;intros)
   refine eH c rfl rfl om (aq.here _) om ?_;repeat(refine A1 ⟨?_⟩;intros)
   refine fI (ds:=os.set p.length c) 56 rfl (ac.here _) (by simpa using hol) om om ?_;refine Wc (cI (os.set p.length c) (by simp;omega) (hO.set _ om)) ?_
   have hfull:val (os.set p.length c)=val p+val q:=by
    have h1:=cS os p.length c om;rw [List.take_of_length_le (by simp;omega)]at h1;rw [h1,hval,List.take_length,List.take_of_length_le hqp]
   rw [hfull];exact Z1
theorem Al {vo va vb p c c' x y d:Nat}(h:vo+vb=va+p*c) (hd:d+4294967296*c'=x+c+y):vo+p*x+(vb+p*y)=va+p*d+p*4294967296*c':=by
 have:=congrArg (fun t=>p*t) hd;simp only [Nat.mul_add,←Nat.mul_assoc]at this;omega
theorem Dj (a b:Nat) (hab:b≤a) (hl:(dgs a).length≤100000000):Pu Tryz.prog 245 [nat a,nat b] (nat (a-b)):=by
 have hP:=aH a;have hQ:=aH b;have hqp:=aD hab;have hva:=an a;have hvb:=an b;show Pu _ _ [dg (dgs a),dg (dgs b)] _
 generalize dgs a=p at *;generalize dgs b=q at *;refine Pi Tryz.func245 fun C=>?_
 repeat(refine A1 ⟨?_⟩;intros)
 refine nK p.length rfl rfl om om fun bb=>?_
 repeat(refine A1 ⟨?_⟩;intros)
 refine WP.loop (ι:=Nat×Nat×List Nat) (fun s=>s.1≤p.length∧s.2.1≤1∧s.2.2.length=p.length∧D s.2.2∧val (s.2.2.take s.1)+val (q.take s.1)=val (p.take s.1)+4294967296^s.1*s.2.1) (fun s=>p.length-s.1)
  (fun s=>fm [(1,dg q),(5,lit (.slice (some ⟨bb,0,none⟩) p.length p.length)),(6,lit (.int .u64 s.2.1)),(14,dg p),(15,lit (.int .i64 p.length)),(16,lit (.int .i64 s.1))])
  (fun s=>[(bb,188,ar s.2.2)]) (0,0,List.replicate p.length 0) ⟨Nat.zero_le _,Nat.zero_le _,by simp,D.rep _,by simp [val]⟩ lfA rfl ?_
 rintro ⟨k,c,os⟩ ⟨hk,hc,hol,hO,hval⟩ K hK;simp only at hk hc hol hO hval⊢;have hp:=hP.get k;have hq:=hQ.get k;by_cases hkl:k<p.length
 ·have fin:∀x c',c'≤1→x<4294967296→p.getD k 0+4294967296*c'=x+c+q.getD k 0→∀F' H',LeF F' (fm [(1,dg q),(5,lit (.slice (some ⟨bb,0,none⟩) p.length p.length)),(6,lit (.int .u64 c')),(14,dg p),(15,lit (.int .i64 p.length)),(16,lit (.int .i64 ((k+1:Nat):Int)))])→
    H'=[(bb,188,ar (os.set k x))]→K F' H':=fun x c' hc' hx hd F' H' hF hH=>by
   refine hK F' H' (k+1,c',os.set k x) ⟨by simp only;omega,hc',by simpa using hol,hO.set k hx,?_⟩ (by simp only;omega) hF hH;simp only;rw [cS os k _ om,av,av,Nat.pow_succ];exact Al hval hd
  by_cases hkq:k<q.length
  ·by_cases hb:p.getD k 0<c+q.getD k 0
   ·repeat(refine A1 ⟨?_⟩;intros)
    refine eH (p.getD k 0+4294967296-c-q.getD k 0) rfl rfl om (aq.here _) om ?_;repeat(refine A1 ⟨?_⟩;intros)
    exact fin _ 1 om om om _ _ lfA rfl
   ·repeat(refine A1 ⟨?_⟩;intros)
    refine eH (p.getD k 0-c-q.getD k 0) rfl rfl om (aq.here _) om ?_;repeat(refine A1 ⟨?_⟩;intros)
    exact fin _ 0 om om om _ _ lfA rfl
  ·have hq0:q.getD k 0=0:=by simp [List.getD,List.getElem?_eq_none (Nat.not_lt.1 hkq)]
   by_cases hb:p.getD k 0<c
   ·repeat(refine A1 ⟨?_⟩;intros)
    refine eH (p.getD k 0+4294967296-c) rfl rfl om (aq.here _) om ?_;repeat(refine A1 ⟨?_⟩;intros)
    exact fin _ 1 om om om _ _ lfA rfl
   ·repeat(refine A1 ⟨?_⟩;intros)
    refine eH (p.getD k 0-c) rfl rfl om (aq.here _) om ?_;repeat(refine A1 ⟨?_⟩;intros)
    exact fin _ 0 om om om _ _ lfA rfl
 ·have hke:k=p.length:=by omega
  subst hke;repeat(refine A1 ⟨?_⟩;intros)
  refine fI (ds:=os) 45 rfl (ac.here _) hol om om ?_;refine Wc (cI os om hO) ?_
  have hfull:val os=a-b:=by
   rw [List.take_length,List.take_of_length_le hqp,List.take_of_length_le om,hva,hvb]at hval;have h1:=bA hO;rw [hol]at h1;rcases Nat.lt_or_ge 0 c with h|h
   ·have:c=1:=by omega
    subst this;omega
   ·have:c=0:=by omega
    subst this;omega
  rw [hfull];exact Z1
theorem yG (xs ys:List Nat) (hla:xs.length≤100000000) (hlb:ys.length≤100000000) (hA:D xs) (hB:D ys):Pu Tryz.prog 215 [dg xs,dg ys]
  (if val xs<val ys then tup [dg [],lit (.bool false)]else tup [nat (val xs-val ys),lit (.bool true)]):=by
 have hc:=uV (val xs) (val ys);refine Pi Tryz.func215 fun C=>?_
 repeat(refine A1 ⟨?_⟩;intros)
 refine Wc (A3 xs ys om om hA hB) ?_;by_cases h:val xs<val ys
 ·have h':=hc.2.2.2 h;rw [if_pos h];repeat(refine A1 ⟨?_⟩;intros)
  refine aM (fD (RV.tmp rfl) (RV.tmp rfl) ?_);intro m v hv;unfold tup at hv⊢;obtain⟨arr,rfl,hall⟩:=hv;refine⟨arr,rfl,?_⟩;rcases arr with⟨l⟩
  match l,hall with
  | [x,y],hall=>exact⟨dX _ _ hall.1,hall.2⟩
 ·have h':¬j9 (val xs) (val ys)<0:=fun hh=>h (hc.2.2.1 hh)
  rw [if_neg h];repeat(refine A1 ⟨?_⟩;intros)
  refine Wc (cI xs om hA) ?_;repeat(refine A1 ⟨?_⟩;intros)
  refine Wc (cI ys om hB) ?_;refine Wc (Dj (val xs) (val ys) om (by have:=bi (bA hA);omega)) ?_;repeat(refine A1 ⟨?_⟩;intros)
  exact G2
theorem el (ds:List Nat) (j x:Nat) (h:j<ds.length):val (ds.set j x)+4294967296^j*ds.getD j 0=val ds+4294967296^j*x:=by
 have h1:=tw ds j h;have h2:=tw (ds.set j x) j (by simpa using h)
 rw [List.take_set_of_le (Nat.le_refl _),show(ds.set j x).drop (j+1)=ds.drop (j+1)from by rw [List.drop_set];simp,
  show(ds.set j x).getD j 0=x from by simp [List.getD,h]]at h2
 rw [h1,h2,Nat.mul_add,Nat.mul_add];omega
theorem aW (ds:List Nat) (j k x:Nat) (h:j≠k):(ds.set j x).getD k 0=ds.getD k 0:=by simp [List.getD,List.getElem?_set_ne h]
theorem sO {vo v p c x y o t:Nat}(vq:Nat){B1:Nat}(h:vo+B1*p*c=v+B1*x*vq) (ht:t=c+x*y+o){vo':Nat}(hs:vo'+B1*p*o=vo+B1*p*(t%4294967296)) :
  vo'+B1*(p*4294967296)*(t/4294967296)=v+B1*x*(vq+p*y):=by
 have e:=Nat.div_add_mod t 4294967296;have e2:=congrArg (fun z=>B1*p*z) e;rw [ht]at e2;simp only [Nat.mul_add,←Nat.mul_assoc]at e2 h⊢;rw [←ht]at e2;have e3:B1*p*x*y=B1*x*p*y:=by rw [Nat.mul_right_comm B1 p x]
 omega
theorem gD {x y:Nat}(hx:x<4294967296) (hy:y<4294967296):(x:Int)*(y:Int)≤18446744065119617025∧0≤(x:Int)*(y:Int):=by
 have h:x*y≤4294967295*4294967295:=Nat.mul_le_mul om om;have h2:((x*y:Nat):Int)≤18446744065119617025:=by omega
 rw [Int.natCast_mul]at h2;exact⟨h2,Int.mul_nonneg om om⟩
theorem je (xs:List Nat){k:Nat}(hl:xs.length≤k) (hk:k≤1000000000) (hA:D xs):∃p,Pu Tryz.prog 216 [dg xs] (dg p)∧p.length≤k∧D p∧val p=val xs∧p=dgs (val xs) :=
 ⟨dgs (val xs),cI xs om hA,by have:=bi (bA hA);omega,aH _,an _,rfl⟩
theorem zx (xs ys:List Nat) (hla:xs.length≤100000000) (hlb:ys.length≤100000000) (hA:D xs) (hB:D ys):Pu Tryz.prog 160 [dg xs,dg ys] (nat (val xs*val ys)):=by
 obtain⟨p,t1,h1,hP,hva,_⟩:=je xs hla om hA;obtain⟨q,t2,h2,hQ,hvb,_⟩:=je ys hlb om hB;rw [←hva,←hvb];refine Pi Tryz.func160 fun C=>?_
 repeat(refine A1 ⟨?_⟩;intros)
 refine Wc t1 ?_;repeat(refine A1 ⟨?_⟩;intros)
 refine Wc t2 ?_;repeat(refine A1 ⟨?_⟩;intros)
 refine nK (p.length+q.length) rfl rfl om om fun bb=>?_
 repeat(refine A1 ⟨?_⟩;intros)
 refine WP.loop (ι:=Nat×List Nat) (fun s=>s.1≤p.length∧s.2.length=p.length+q.length∧D s.2∧val s.2=val (p.take s.1)*val q∧∀j,s.1+q.length≤j→s.2.getD j 0=0) (fun s=>p.length-s.1)
  (fun s=>fm [(1,dg q),(5,lit (.slice (some ⟨bb,0,none⟩) (p.length+q.length) (p.length+q.length))),(21,dg p),(22,lit (.int .i64 p.length)),(23,lit (.int .i64 s.1))])
  (fun s=>[(bb,188,ar s.2)]) (0,List.replicate (p.length+q.length) 0) ⟨Nat.zero_le _,by simp,D.rep _,by simp [val,m9],fun j _=>by simp [List.getD,List.getElem?_replicate];split <;> simp⟩ lfA rfl ?_
 rintro ⟨i,os⟩ ⟨hi,hol,hO,hval,hz⟩ K hK;simp only at hi hol hO hval hz⊢;by_cases hil:i<p.length
 ·have hx:=hP.get i;repeat(refine A1 ⟨?_⟩;intros)
  refine WP.loop (ι:=Nat×Nat×List Nat) (fun s=>s.1≤q.length∧s.2.1<4294967296∧s.2.2.length=p.length+q.length∧D s.2.2∧val s.2.2+4294967296^i*4294967296^s.1*s.2.1=val os+4294967296^i*p.getD i 0*val (q.take s.1)∧∀j,i+q.length≤j→s.2.2.getD j 0=0) (fun s=>q.length-s.1)
   (fun s=>fm [(1,dg q),(5,lit (.slice (some ⟨bb,0,none⟩) (p.length+q.length) (p.length+q.length))),(6,lit (.int .i64 i)),(7,lit (.int .u32 (p.getD i 0:Nat))),(8,lit (.int .u64 s.2.1)),(21,dg p),(22,lit (.int .i64 p.length)),(23,lit (.int .i64 i)),(28,dg q),(29,lit (.int .i64 q.length)),(30,lit (.int .i64 s.1))])
   (fun s=>[(bb,188,ar s.2.2)]) (0,0,os) ⟨Nat.zero_le _,by simp,hol,hO,by simp [val],hz⟩ lfA rfl ?_
  rintro ⟨k,c,us⟩ ⟨hk,hc,hul,hU,hvu,hzu⟩ K2 hK2;simp only at hk hc hul hU hvu hzu⊢;by_cases hkl:k<q.length
  ·have hy:=hQ.get k;have ho:=hU.get (i+k);have hb:=gD hx hy;have hcast:((p.getD i 0*q.getD k 0:Nat):Int)=(p.getD i 0:Int)*(q.getD k 0:Int):=Int.natCast_mul _ _;repeat(refine A1 ⟨?_⟩;intros)
   refine eH ((c+(p.getD i 0*q.getD k 0+us.getD (i+k) 0))%4294967296) rfl rfl om (aq.here _) om ?_;repeat(refine A1 ⟨?_⟩;intros)
   refine hK2 _ _ (k+1,(c+(p.getD i 0*q.getD k 0+us.getD (i+k) 0))/4294967296,us.set (i+k) ((c+(p.getD i 0*q.getD k 0+us.getD (i+k) 0))%4294967296))
    ⟨by simp only;omega,by simp only;omega,by simpa using hul,hU.set _ om,?_,fun j hj=>by rw [aW _ _ _ _ (by(try simp only at hj);omega)];exact hzu j hj⟩ (by simp only;omega) lfA rfl
   simp only;rw [av,Nat.pow_succ];have hs:=el us (i+k) ((c+(p.getD i 0*q.getD k 0+us.getD (i+k) 0))%4294967296) om;rw [Nat.pow_add]at hs;exact sO _ hvu om hs
  ·have hke:k=q.length:=by omega
   subst hke;have hz0:=hzu (i+q.length) om;repeat(refine A1 ⟨?_⟩;intros)
   refine eH c rfl rfl om (aq.here _) om ?_;repeat(refine A1 ⟨?_⟩;intros)
   refine hK _ _ (i+1,us.set (i+q.length) c) ⟨by simp only;omega,by simpa using hul,hU.set _ hc,?_,fun j hj=>by rw [aW _ _ _ _ (by(try simp only at hj);omega)];exact hzu j (by(try simp only at hj);omega)⟩ (by simp only;omega) lfA rfl;simp only;have hs:=el us (i+q.length) c om;rw [hz0,Nat.mul_zero,Nat.add_zero,Nat.pow_add]at hs;rw [hs,hvu,List.take_length,hval,av,Nat.add_mul]
 ·have hie:i=p.length:=by omega
  subst hie;rw [List.take_length]at hval;repeat(refine A1 ⟨?_⟩;intros)
  refine fI (ds:=os) 69 rfl (ac.here _) hol om om ?_;refine Wc (cI os om hO) ?_;rw [hval];exact Z1
@[irreducible] def dgc (ds:List Nat) (c:Nat):SV:=⟨fun m v=>∃a,v = .slice a ds.length c∧ds.length≤c∧c≤maxLen∧(ds=[]∨∃b off,a=some ⟨b,off,none⟩∧dp m b off (ar ds)),
 fun h ⟨a,e,x,y,k⟩=>⟨a,e,x,y,k.imp id fun⟨b,off,e,k⟩=>⟨b,off,e,k.mono h⟩⟩⟩
theorem ym (ds:List Nat) (c:Nat):Le (dgc ds c) (dg ds):=fun m v h=>by
 unfold dgc at h;obtain⟨a,rfl,h1,h2,h3⟩:=h;rw [oY];exact eJ h1 h2 (h3.imp (fun e=>by rw [e];rfl) id)
instance (ds:List Nat) (c:Nat):CO (dgc ds c) [dgc ds c]:=fy fun m v h=>by unfold dgc at h;obtain⟨a,rfl,_⟩:=h;exact⟨rfl,rfl⟩
section
variable {P:Program}{C:Ctx}{n:Nat}{F:Fr}{H:LH}{ops:Array Oper}{K:Fr→LH→Prop}{rest:List Oper}{ty:TypeId}{pos:String}{aft:Array Edge}
theorem OpV.low {op:Op}{sv s:SV}(t:Nat) (hle:Le (F t) s) (h:OpV P op ty (upd F t s) H sv):OpV P op ty F H sv:=by
 unfold OpV at *;exact fun m w o a ho hty h1 h2 h3=>h m w o a ho hty h1 h2 fun t' ht=>LeF.upd hle (LeF.refl F) t' m _ (h3 t' ht)
theorem pu {t:Nat}{T e:TypeId} [TSl P T e]{ds:List Nat}{c:Nat}(hx:F t=dgc ds c):OpV P (.call ⟨.builtin .len,#[.tmp t],#[T]⟩) ty F H (lit (.int .i64 ds.length)) :=
 OpV.low t (hx▸ym ds c) (zm (x := .tmp t) aA)
theorem FC {t t':Nat}(hne:t'≠t){T e:TypeId}{by_:Nat}{z:List SV}{g:Bool} [TSl P T e] [TY P e 1 by_ z g]{ki:IntKind}{ds:List Nat}{c i:Nat}
  (hx:F t=dgc ds c) (hi:F t'=lit (.int ki i)) (h1:i<ds.length):OpV P (.indexAddr T (.tmp t) (.tmp t')) ty F H (pt [lit (.int .u32 (ds.getD i 0:Nat))]) :=
 OpV.low t (hx▸ym ds c) (kH (x := .tmp t) (ix := .tmp t') aA ((au hne).trans hi) h1)
theorem HM {x y:Operand}{T e:TypeId}{by_:Nat}{z:List SV}{g:Bool} [hT:TSl P T e] [hE:TY P e 1 by_ z g]{ds:List Nat}{ki:IntKind}{v:Int}{c:Nat}(j:Nat)
  (hx:ev F x=dgc ds c) (hy:ev F y=lit (.int ki v)) (hv:v=(j:Int)) (hj:j≤ds.length):OpV P (.slice T x none (some y) none) ty F H (dgc (ds.take j) c) :=
 OpV.pure fun m w o a ho _ _ _ h=>by
  have e0:=h x (by simp [Op.operands]);rw [hx]at e0;have e1:=h y (by simp [Op.operands]);rw [hy,aj]at e1;subst hv;unfold dgc at e0;obtain⟨ad,e0,h1,h2,h3⟩:=e0;have hjc:(j:Int)≤(c:Int):=by omega
  have hjn:¬c<j:=by omega
  have hlen:(ds.take j).length=j:=by rw [List.length_take];omega
  refine⟨.slice (if c=0 then ad else ad.map (·.add 0)) j c,?_,?_⟩
  ·simp [execOp,ho,Instr.sliceAt,Instr.slice,underlying,hT.h,e0,e1,Instr.sliceBounds,Instr.sliceBound,asIntOf,hjc,hjn,hE.run_size]
  ·unfold dgc;refine⟨_,by rw [hlen],om,h2,?_⟩;rcases h3 with h3|⟨b,off,rfl,h3⟩
   ·left;rw [h3,List.take_nil]
   ·right;refine⟨b,off,by simp [aK],?_⟩;have:=h3.take j;rwa [show(ar ds).take j=ar (ds.take j)from by simp [ar,List.map_take]]at this
theorem J5 {l:List Oper}{b:Nat}{T:TypeId}{ds:List Nat}{H':LH}{k c:Nat}(d:Nat) (hv:F d=lit (.slice (some ⟨b,0,none⟩) k c)) (hdel:ac b T (ar ds) H H') (hk:ds.length=k) (hc:k≤c) (hc':c≤1000000000)
  (h:WPL P C n ops l K (upd F d (dgc ds c)) H'):WPL P C n ops l K F H:=by
 subst hk;refine WPL.pub hdel hv (fun m arr hm ha=>?_) h;unfold dgc;exact⟨_,rfl,hc,by simp only [maxLen];omega, .inr ⟨b,0,rfl,arr,T,(0,0),hm,by rw [List.drop_zero,←ha.length,List.take_length];exact ha⟩⟩
theorem F4 {b:Nat}{T:TypeId}{ds:List Nat}{k c:Nat}(h0:k≤ds.length) (h1:k≤c) (h2:c≤maxLen) (m:Mem) (arr:Array Value) (hm:m b=some (.cells arr T (0,0))) (ha:ak m (ar ds) arr.toList) :
  (dg (ds.take k)).p m (.slice (some ⟨b,0,none⟩) k c):=by
 rw [oY,show(ds.take k).length=k from by rw [List.length_take];omega];refine eJ h1 h2 (.inr ⟨b,0,rfl,arr,T,(0,0),hm,?_⟩);have:=ha.take k;rw [List.drop_zero,List.length_map,show(ds.take k).length=k from by rw [List.length_take];omega];rwa [show(ar ds).take k=ar (ds.take k)from by simp [ar,List.map_take]]at this
theorem HL {x y:Operand}{T e:TypeId}{by_:Nat}{z:List SV}{g:Bool} [hT:TSl P T e] [hE:TY P e 1 by_ z g]{ki:IntKind}{v:Int}{b k c:Nat}(j:Nat)
  (hx:ev F x=lit (.slice (some ⟨b,0,none⟩) k c)) (hy:ev F y=lit (.int ki v)) (hv:v=(j:Int)) (hj:j≤c):OpV P (.slice T x none (some y) none) ty F H (lit (.slice (some ⟨b,0,none⟩) j c)) :=
 OpV.pure fun m w o a ho _ _ _ h=>by
  have e0:=h x (by simp [Op.operands]);rw [hx,aj]at e0;have e1:=h y (by simp [Op.operands]);rw [hy,aj]at e1;subst hv;have hjc:(j:Int)≤(c:Int):=by omega
  have hjn:¬c<j:=by omega
  refine⟨_,?_,aj.2 rfl⟩;simp [execOp,ho,Instr.sliceAt,Instr.slice,underlying,hT.h,e0,e1,Instr.sliceBounds,Instr.sliceBound,asIntOf,hjc,hjn,hE.run_size,aK]
theorem St.pushD {a:Act}{w:World}{d:Nat}{T:TypeId}{arr:Array Value}{cs:List SV}{v:Value}(hd:d<n) (hs:St C n F H a w)
  (hcs:∀m,aI m w→HOk m w H→(∀x,(ev F x).p m (a.eval x))→ak m cs arr.toList) :
  St C n (upd F d (lit v)) ((w.heap.size,T,cs)::H) (a.put (some d) v) (w.drew.alloc (.cells arr T)):=by
 obtain⟨hdef,hn,m,h1,h2,h3,h4,h5⟩:=hs
 have hp:∀x,(ev F x).p m (a.eval x):=fun x=>by
  cases x with
  |tmp t=>exact h5 t
  |const v=>unfold ev lit;rfl
  |global g=>unfold ev lit;rfl
  |func f=>unfold ev lit;rfl
 have hnone:m w.heap.size=none:=by
  cases hmm:m w.heap.size with
  |none=>rfl
  |some o=>have:=h1 _ _ hmm;rw [Array.getElem?_eq_none (Nat.le_refl _)]at this;cases this
 have hsize:(w.drew.alloc (.cells arr T)).heap.size=w.heap.size+1:=World.size_alloc ..;have hold:∀b,b<w.heap.size→(w.drew.alloc (.cells arr T)).heap[b]? = w.heap[b]?:=fun b hb=>@heap_alloc_old w.drew _ b hb
 have rel:Rel [] m w m (w.drew.alloc (.cells arr T)):=⟨Mem.le_refl m,fun _ _ _=>rfl,rfl,rfl,⟨rfl,Nat.le_succ _⟩,om,fun b hb _=>hold b hb⟩
 refine⟨hdef,by simpa [Act.put] using hn,m,⟨fun b o hb=>?_,h1.base⟩,⟨?_,?_⟩,h3.trans rel (fun b hb h=>by cases h),?_,fun t=>?_⟩
 ·have:=h1 b o hb;rw [hold b (Array.getElem?_eq_some_iff.1 this).1];exact this
 ·simp only [List.map_cons,List.nodup_cons];refine⟨fun hm=>?_,h2.1⟩;obtain⟨e,he,hk⟩:=List.mem_map.1 hm;have:=(h2.2 e he).2.lt;omega
 ·intro e he;rcases List.mem_cons.1 he with rfl|he
  ·exact⟨hnone,arr,heap_alloc_new w.drew _,hcs m h1 h2 hp⟩
  ·have hh:=h2.rel rel (fun _ _=>by simp);exact hh.2 e he
 ·intro e he;rcases List.mem_cons.1 he with rfl|he
  ·exact .inr h3.size
  ·exact h4 e he
 ·rw [g9 (Nat.lt_of_lt_of_le hd hn)];unfold upd;by_cases ht:t=d
  ·subst ht;rw [if_pos rfl,Nat.beq_refl];exact aj.2 rfl
  ·rw [if_neg ht]
   have:Nat.beq t d=false:=by
    cases hb:Nat.beq t d with
    |false=>rfl
    |true=>exact absurd (Nat.eq_of_beq_eq_true hb) ht
   rw [this];exact h5 t
theorem ak.dcz {m:Mem}:∀(k:Nat),ak m (ar (List.replicate k 0)) (List.replicate k (Value.int .u32 0)):=fun k=>by
 rw [←rk];exact ak.replicate (aj.2 rfl) rfl k
theorem J8 {T e:TypeId} [hS:TSl P T e]{g:Bool} [hT:TY P e 1 4 [lit (.int .u32 0)] g]{d:Nat}{x y:Operand}{ds es:List Nat}{c b2 c2:Nat}{T':TypeId}
  (hx:ev F x=dgc ds c) (hy:ev F y=lit (.slice (some ⟨b2,0,none⟩) es.length c2)) (hm:(b2,T',ar es)∈H) (hne:ds≠[]) (hroom:c<ds.length+es.length) (hl:ds.length+es.length≤1000000000)
  (h:∀b k,k≤maxLen→∀j,k=ds.length+es.length+j→WPL P C n ops rest K (upd F d (lit (.slice (some ⟨b,0,none⟩) (ds.length+es.length) k))) ((b,e,ar (ds++es++List.replicate j 0))::H)) (hd:Nat.blt d n=true:=by exact rfl) :
  WPL P C n ops (⟨some d, .call ⟨.builtin .append,#[x,y],#[T,T]⟩,ty,pos,aft,none⟩::rest) K F H:=by
 unfold WPL;intro a w hs Q hq;refine wpList_plain rfl fun K' hK'=>?_
 obtain⟨m0,h10,h20,hp0⟩:∃m,aI m w∧HOk m w H∧∀x,(ev F x).p m (a.eval x):=by
  obtain⟨_,_,m,h1,h2,_,_,h5⟩:=hs;refine⟨m,h1,h2,fun x=>?_⟩;cases x with
  |tmp t=>exact h5 t
  |const v=>unfold ev lit;rfl
  |global g=>unfold ev lit;rfl
  |func f=>unfold ev lit;rfl
 have e0:=hp0 x;rw [hx]at e0;have e1:=hp0 y;rw [hy,aj]at e1;unfold dgc at e0;obtain⟨ad,e0,hc1,hc2,hca⟩:=e0;obtain⟨b1,off,rfl,arr1,T1,fz1,hb1,hall1⟩:=hca.resolve_left hne;obtain⟨_,arr2,hb2,hall2⟩:=h20.2 _ hm;obtain⟨i,v,hi,hsz,hby,hz,hzl,hfl,hvs⟩:=hT.run_bytes;simp only [fW]at hall1;have hlen1:=hall1.length;have hlen2:=hall2.length;simp only [fW,Array.length_toList]at hlen1 hlen2;have hw1:=h10 _ _ hb1
 have hxs:∀j u,((arr1.toList.drop off).take ds.length)[j]? = some u→w.cell? ((⟨b1,off,none⟩:Addr).add j)=some u:=fun j u hj=>by
  rw [aK,cv w b1 _ arr1 _ _ hw1];rw [List.getElem?_take]at hj;split at hj
  ·rw [List.getElem?_drop]at hj;simpa using hj
  ·cases hj
 have hys:∀j u,arr2.toList[j]? = some u→w.cell? ((⟨b2,0,none⟩:Addr).add j)=some u:=fun j u hj=>by
  rw [aK,cv w b2 _ arr2 _ _ hb2];simpa using hj
 have hrun:=run_append_grow (P:=P) w T ty e i v hS.h hi hz ⟨b1,off,none⟩ ds.length c ((arr1.toList.drop off).take ds.length) (by rw [hlen1,hsz,Nat.mul_one]) hxs
  ⟨b2,0,none⟩ es.length c2 arr2.toList (by rw [Array.length_toList,hlen2,hsz,Nat.mul_one]) hys om om (growslice_fits om (by rw [hby];omega))
 have hexec:execOp a.eval (⟨some d, .call ⟨.builtin .append,#[x,y],#[T,T]⟩,ty,pos,aft,none⟩:Oper)=(do let v←Builtin.append_ #[T,T] ty #[a.eval x,a.eval y];pure (.value v)):=by
  simp [execOp,resolve,invoke,builtin]
 unfold Oper.wp;rw [hexec,e0,e1];simp only [Sem.run_bind,hrun,Result.andThen_ok,Sem.run_pure];have hge:=grownCap_ge w (ds.length+es.length) c e;have hle:=grownCap_le_maxLen w (ds.length+es.length) c e (by simp only [maxLen];omega);have h:=h w.heap.size _ hle (grownCap w (ds.length+es.length) c e-(ds.length+es.length)) om;unfold WPL at h;refine hK' _ _ (h _ _ (St.pushD (Nat.blt_eq.mp hd) hs fun m h1 h2 hp=>?_) Q hq);have e0':=hp x;rw [hx]at e0';unfold dgc at e0';obtain⟨ad',e0',_,_,hca'⟩:=e0';rw [e0]at e0';simp only [Value.slice.injEq]at e0';obtain⟨b1',off',hbe,arr1',T1',fz1',hb1',hall1'⟩:=hca'.resolve_left hne;rw [←e0'.1]at hbe;simp only [Option.some.injEq,Addr.mk.injEq]at hbe;obtain⟨rfl,rfl,_⟩:=hbe;have hw1':=h1 _ _ hb1';rw [hw1]at hw1';simp only [Option.some.injEq,Obj.cells.injEq]at hw1';obtain⟨rfl,_,_⟩:=hw1';obtain⟨_,arr2',hb2',hall2'⟩:=h2.2 _ hm;rw [hb2]at hb2';simp only [Option.some.injEq,Obj.cells.injEq]at hb2';obtain⟨rfl,_⟩:=hb2';rw [show ar (ds++es++List.replicate (grownCap w (ds.length+es.length) c e-(ds.length+es.length)) 0)=ar ds++ar es++ar (List.replicate (grownCap w (ds.length+es.length) c e-(ds.length+es.length)) 0)from by simp [ar]];simp only [Array.toList_append,List.toList_toArray];refine((by simpa [fW] using hall1':ak m (ar ds) _).append hall2').append ?_
 have hv1:v.cells.toList=[Value.int .u32 0]:=by
  have h1:v.cells.toList.length=1:=by simpa using hvs
  match hv:v.cells.toList,h1 with
  | [u],_ =>
   rw [hv]at hzl;simp only [List.map_cons,List.map_nil,List.cons.injEq,and_true]at hzl;have:(lit u).p (fun _=>none) u:=aj.2 rfl;rw [hzl,aj]at this;rw [this]
 have hzc:∀k,(Builtin.zeroCells v.cells k).toList=List.replicate k (Value.int .u32 0):=fun k=>by
  have hs1:v.cells.size=1:=hvs
  have hg0:v.cells = #[Value.int .u32 0]:=by
   apply Array.ext';rw [hv1]
  rw [hg0];simp only [Builtin.zeroCells,List.size_toArray,List.length_cons,List.length_nil,Nat.zero_add,Nat.mul_one,Nat.mod_one,Array.toList_map,Array.toList_range];rw [List.map_const'];simp
 rw [hzc];exact ak.dcz _
end
theorem BQ (ds:List Nat) (c:Nat) (hl:ds.length≤1000000000):Pu Tryz.prog 216 [dgc ds c] (dgc (eI ds) c):=by
 refine Pi Tryz.func216 fun C=>?_
 repeat(refine A1 ⟨?_⟩;intros)
 refine WP.loop (ι:=Nat) (fun k=>k≤ds.length∧eI (ds.take k)=eI ds) (fun k=>k) (fun k=>fm [(0,dgc (ds.take k) c)]) (fun _=>[]) ds.length ⟨Nat.le_refl _,by rw [List.take_length]⟩ (LeF.cons (by rw [List.take_length];exact Le.refl _) (LeF.nil _)) rfl ?_;rintro k ⟨hk,ht⟩ K hK;have hlen:(ds.take k).length=k:=by rw [List.length_take];omega
 rcases k with _|j
 ·iterate 2 refine WP.seq' ?_
  refine WP.reg ?_;(refine O1 ⟨?_⟩;intros)
  refine Wo (pu rfl) ?_;repeat(refine A1 ⟨?_⟩;intros)
  exact aM (ax (RV.tmp (s:=dgc (List.take 0 ds) c) rfl) (Le.of_eq (by rw [←ht];rfl)))
 ·have hg:(List.take (j+1) ds).getD j 0=ds.getD j 0:=by simp [List.getD]
  iterate 2 refine WP.seq' ?_
  refine WP.reg ?_;(refine O1 ⟨?_⟩;intros)
  refine Wo (pu rfl) ?_;iterate 4 (refine O1 ⟨?_⟩;intros)
  refine Wog (pu rfl) ?_;refine Wog (uc (r:=(j:Int)) rfl rfl (BI om om om)) ?_;refine Wog (FC (i:=j) (by decide) rfl rfl om) ?_;rw [hg];by_cases hd:ds.getD j 0=0
  ·repeat(refine A1 ⟨?_⟩;intros)
   refine Wo (pu rfl) ?_;repeat(refine A1 ⟨?_⟩;intros)
   refine Wo (HM j rfl rfl om om) ?_;rw [List.take_take,Nat.min_eq_left om];repeat(refine A1 ⟨?_⟩;intros)
   refine hK _ _ j ⟨om,?_⟩ om (LeF.cons Lr (LeF.nil _)) rfl;rw [aS ds j om,hd,eP]at ht;exact ht
  ·rw [aS ds j om,fQ _ _ hd,←aS ds j om]at ht;repeat(refine A1 ⟨?_⟩;intros)
   exact aM (ax (RV.tmp (s:=dgc (List.take (j+1) ds) c) rfl) (Le.of_eq (by rw [ht])))
end Go.Ab
