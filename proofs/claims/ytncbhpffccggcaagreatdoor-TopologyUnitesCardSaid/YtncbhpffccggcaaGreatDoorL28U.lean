/- Law 28, TopologyUnites: it returns true. -/
import Derived.Test.YtncbhpffccggcaaGreatDoorB38
set_option linter.all false
set_option maxHeartbeats 16000000
namespace Go.Ab
open Go.Proofs
variable [Base]
def o8 (Ps:List Tr) (k:Nat):Tr:=lR 1 (.leaf false) (Ps.take k)
theorem G9 {L:List Li}(hL:∀l∈L,l.ok){Ps:List Tr}(hP:∀T∈Ps,Gd L T) (k:Nat):Gd L (o8 Ps k):=qu hL _ (Gd.leaf L false) fun x hx=>(hP x (List.mem_of_mem_take hx)).1
theorem D7 {L:List Li}(hL:∀l∈L,l.ok){Ps:List Tr}(hP:∀T∈Ps,Gd L T) (k:Nat){q:Pq}(hq:Off L q):atT (o8 Ps k) q=(Ps.take k).any fun T=>atT T q:=by
 unfold o8;rw [vT hL hq _ (t := .leaf false) trivial fun x hx=>(hP x (List.mem_of_mem_take hx)).1];rfl
theorem Gx.parts {L:List Li}{t:Tr}(h:Gx L t){T:Tr}(hT:T∈(bE (aa t [])).map Prod.fst):∃i,be (a8 (aa t []) []) i=true∧T=cl (a8 (aa t []) []) (aa t []) i:=by
 obtain⟨c,hc,rfl⟩:=List.mem_map.1 hT;obtain⟨i,hi,rfl⟩:=List.mem_map.1 hc;exact⟨i,(List.mem_filter.1 hi).2,rfl⟩
theorem Gx.partx {L:List Li}{t:Tr}(h:Gx L t){T:Tr}(hT:T∈(bE (aa t [])).map Prod.fst):Gx L T∧(bE (aa T [])).length=1:=by
 obtain⟨i,hi,rfl⟩:=h.parts hT;have hc:Cel L (aa t []):=⟨h.ok,h.restr.g⟩
 have hp:=hc.part i;refine⟨⟨h.len,h.sm,hp.g⟩,?_⟩;have e:aa (cl (a8 (aa t []) []) (aa t []) i) []=cl (a8 (aa t []) []) (aa t []) i:=p9 h.ok (lr h.restr.g.1);rw [e];exact hc.part_one hi
theorem Gx.apart {L:List Li}{t:Tr}(h:Gx L t){k:Nat}{T:Tr}(hk:((bE (aa t [])).map Prod.fst)[k]? = some T){q:Pq}(hq:Off L q) (hT:atT T q=true):(((bE (aa t [])).map Prod.fst).take k).any (fun S=>atT S q)=false:=by
 have hc:Cel L (aa t []):=⟨h.ok,h.restr.g⟩
 rw [List.any_eq_false];intro S hS hSq;obtain⟨j,hj,hjS⟩:=List.mem_iff_getElem.1 hS;rw [List.length_take]at hj;rw [List.getElem_take]at hjS;have hj2:((bE (aa t [])).map Prod.fst)[j]? = some S:=by rw [List.getElem?_eq_getElem om,hjS]
 have key:∀{m:Nat}{U:Tr},((bE (aa t [])).map Prod.fst)[m]? = some U→∃i,((List.range (a8 (aa t []) []).length).filter (be (a8 (aa t []) [])))[m]? = some i∧U=cl (a8 (aa t []) []) (aa t []) i:=fun {m U} hm=>by
  have hm2:=hm;unfold bE gO at hm2;rw [List.map_map,List.getElem?_map]at hm2;obtain⟨i,h1,h2⟩:=Option.map_eq_some_iff.1 hm2;exact⟨i,h1,h2.symm⟩
 obtain⟨a,ha,ea⟩:=key hk;obtain⟨b,hb,eb⟩:=key hj2;have hn:((List.range (a8 (aa t []) []).length).filter (be (a8 (aa t []) []))).Nodup:=List.nodup_range.filter _
 have hab:a≠b:=fun e=>by
  subst e;obtain⟨la,ea2⟩:=List.getElem?_eq_some_iff.1 ha;obtain⟨lb,eb2⟩:=List.getElem?_eq_some_iff.1 hb;have:=(List.getElem_inj hn).1 (ea2.trans eb2.symm);omega
 subst ea;subst eb;exact hc.part_dis hab hq hT hSq
theorem Ic {L:List Li}{T:Tr}(h:Gx L T) (h1:(bE (aa T [])).length=1):Pu Tryz.prog 14 [tq T] (Ab.tup [lit (.bool true),lit .nilIface]):=by
 have hr:=h.restr;have hd:=h.dep;have hz:=h.size;have ha1:=dO (q:=fun l=>l.le 1) (fun l (hl:l.sm)=>hl.2) h.all;have cof:=sk T (dO (q:=fun l=>l.ok∧l.le 100000) (fun l (hl:l.sm)=>⟨hl.1,hl.2.gr om⟩) h.all) (by rw [fV];omega);have c:=Df (mO (L:=1) om om ha1 h.lok cof om) hr.comps;rw [h1]at c;exact c
structure UN (t:Tr) (Ps:List Tr):Prop where
 n:Ps.length≤1000000
 w:Pu Tryz.prog 5 [rt t] (tq t)
 p:Pu Tryz.prog 13 [tq t] (Ab.tup [tps Ps,lit .nilIface])
 c:∀(k:Nat) (T:Tr),Ps[k]? = some T→Pu Tryz.prog 14 [tq T] (Ab.tup [lit (.bool true),lit .nilIface])
 d:∀(k:Nat) (T:Tr),Ps[k]? = some T→Pu Tryz.prog 15 [tq (o8 Ps k),tq T] (Ab.tup [lit (.bool true),lit .nilIface])
 m:∀(k:Nat) (T:Tr),Ps[k]? = some T→Pu Tryz.prog 16 [lit (.int .i64 1),tq (o8 Ps k),tq T] (Ab.tup [tq (o8 Ps (k+1)),lit .nilIface])
 e:Pu Tryz.prog 10 [tq (o8 Ps Ps.length),tq t] (Ab.tup [lit (.bool true),lit .nilIface])
theorem JP {L:List Li}{t:Tr}(h:Gx L t):UN t ((bE (aa t [])).map Prod.fst):=by
 have hr:=h.restr;have hd:=h.dep;have hz:=h.size;have hc:Cel L (aa t []):=⟨h.ok,hr.g⟩
 have hcl:=hr.clen;have hP:∀T∈(bE (aa t [])).map Prod.fst,Gd L T:=fun T hT=>(h.partx hT).1.g
 have ha1:=dO (q:=fun l=>l.le 1) (fun l (hl:l.sm)=>hl.2) h.all;have cof:=sk t (dO (q:=fun l=>l.ok∧l.le 100000) (fun l (hl:l.sm)=>⟨hl.1,hl.2.gr om⟩) h.all) (by rw [fV];omega);have c1:=mO (L:=1) om om ha1 h.lok cof om
 have c3:∀c∈bE (aa t []),Pu Tryz.prog 27 [bt c.1] (tq c.1):=fun c hc=>by
  have g:=(h.partx (List.mem_map.2 ⟨c,hc,rfl⟩)).1;have gz:=g.size;exact um c.1 (dO (fun l hl=>Li.sm.ile hl) g.all) (by rw [fV];omega)
 have hu:∀k,Gx L (o8 ((bE (aa t [])).map Prod.fst) k):=fun k=>⟨h.len,h.sm,G9 h.ok hP k⟩
 refine⟨by rw [List.length_map];omega,ou t (dO (fun l hl=>Li.sm.ile hl) h.all) (by rw [fV];omega),Bm c1 hr.comps c3 om,fun k T hk=>?_,fun k T hk=>?_,fun k T hk=>?_,?_⟩
 ·obtain⟨g1,g2⟩:=h.partx (List.mem_of_getElem? hk);exact Ic g1 g2
 ·obtain⟨g1,g2⟩:=h.partx (List.mem_of_getElem? hk);have u:=hu k;have ud:=u.dep;have uz:=u.size;have gd:=g1.dep;have gz:=g1.size;refine xO h.lne u.g.1 g1.g.1 om om om om (i4 om h.ok u.g.1 g1.g.1 fun q hq=>?_);rw [D7 h.ok hP k hq];show(_&&atT T q)=false
  cases hT:atT T q with
  |false=>rw [Bool.and_false]
  |true=>rw [h.apart hk hq hT];rfl
 ·obtain⟨g1,g2⟩:=h.partx (List.mem_of_getElem? hk);have u:=hu k;have ud:=u.dep;have uz:=u.size;have gd:=g1.dep;have gz:=g1.size;have:=BN h.lne 1 om u.g.1 g1.g.1 om om om om;unfold o8 at this⊢;rw [uc 1 _ _ k hk];exact this
 ·have u:=hu ((bE (aa t [])).map Prod.fst).length;have ud:=u.dep;have uz:=u.size;refine xI h.lne u.g.1 h.g.1 om om om om (i4 om h.ok u.g.1 h.g.1 fun q hq=>?_);rw [D7 h.ok hP _ hq,List.take_length,hc.part_all hq,jl h.ok h.g.1 hq];cases atT t q <;> rfl
section
variable {P:Program}{C:Ctx}{n:Nat}{F:Fr}{H:LH}{Q:Exit→Fr→LH→Prop}
theorem WP.lowU {c:Code}{b:Nat}{T:TypeId}{cs cs':List SV}{H':LH}(hu:an b T cs cs' H H') (hle:LeL cs cs') (k:WP P C n c Q F H'):WP P C n c Q F H:=by
 unfold WP at *;exact fun a w hs=>k a w (hs.lowB hu hle)
end
theorem D6 (Ps:List Tr):tpx (o8 Ps 0)=[lit (.int .i64 (-1)),sl [] 0]:=rfl
theorem mP (zs:List Int) (hz:zs.length≤9223372036854775807):Pu Tryz.prog 4 [nsl .i64 zs] (lit (.bool true)):=by
 have hk:(zs.take (min zs.length 400)).length≤400:=by simp;omega
 have hnew:=Ew zs hz;generalize zs.take (min zs.length 400)=ys at *;have hreg:=rG ys hk;clear hz;refine Pi Tryz.func4 fun C=>?_
 repeat(refine A1 ⟨?_⟩;intros)
 refine WPL.callN hnew rfl rfl fun bb=>?_
 repeat(refine A1 ⟨?_⟩;intros)
 refine Wtx hreg mmA fun t=>?_
 obtain⟨t,L,h1,h2,h3⟩:=t;simp only [];obtain⟨n0,w,p,c,d,m,e⟩:=JP (⟨om,h2,h3⟩:Gx L t);clear hreg hnew h1 h2 h3;have hu0:=D6 ((bE (aa t [])).map Prod.fst);generalize(bE (aa t [])).map Prod.fst=Ps at *;repeat(first|(refine A1 ⟨?_⟩;intros)|refine W4 w ⟨?_⟩|refine W4 p ⟨?_⟩)
 rename_i b3 b6;refine WP.lowU (.here _) (cs':=[lit (.int .i64 (-1)),sl [] 0]) ⟨Le.refl _,dM,trivial⟩ ?_;rw [←hu0]
 refine WP.loopS (ι:=Nat) (fun k=>k≤Ps.length) (fun k=>Ps.length-k)
  (fun k=>fm [(3,lit (.pointer (some ⟨b3,0,none⟩))),(4,tps Ps),(6,lit (.pointer (some ⟨b6,0,none⟩))),(27,lit (.int .i64 Ps.length)),(28,lit (.int .i64 k))]) (fun k=>[(b6,CS,tpx (o8 Ps k)),(b3,CS,tpx t)]) 0 (Nat.zero_le _) lfA (List.Sublist.cons_cons _ (List.Sublist.cons_cons _ (List.nil_sublist _))) ?_
 rintro k hk K hK;by_cases hkl:k<Ps.length
 ·obtain⟨T,hget,hmm,hat,hne⟩:=elt Ge om hkl;have c1:=c k T hget;have d1:=d k T hget;have m1:=m k T hget;have hgo:=fun F' H'=>hK F' H' (k+1) om om
  generalize o8 Ps (k+1)=u at *;generalize o8 Ps k=v at *;clear hK hget hmm c d m e p w hu0;repeat(first|(refine AS ⟨?_⟩;intros)|(refine O1 ⟨?_⟩;intros))
  refine Wo (a7 (cs':=tpx T) rfl rfl om om hat hne) ?_;repeat(first|(refine AS ⟨?_⟩;intros)|(refine O1 ⟨?_⟩;intros)|(refine Wcx (c1) ?_)|(refine eQ (c1) ?_))
  refine WdM [] _ (fun _=>[]) ?_;refine MkD 11 ?_;repeat(first|(refine A1 ⟨?_⟩;intros)|(refine Wo (a7 (cs':=tpx T) rfl rfl om om hat hne) ?_)|(refine Wdo (a7 (cs':=tpx T) rfl rfl om om hat hne) ?_)|(refine Wog (a7 (cs':=tpx T) rfl rfl om om hat hne) ?_)|(refine cQ (a7 (cs':=tpx T) rfl rfl om om hat hne) ?_)|refine W4 d1 ⟨?_⟩)
  refine vd ?_;refine MkN ?_;repeat(first|(refine AS ⟨?_⟩;intros)|(refine O1 ⟨?_⟩;intros))
  refine WdZ 11 [1,2,3,4,0,5,6,7,8,9,10] [0,9] [(b6,CS,tpx v)] _ ?_;refine ZkD 4 ?_;repeat(first|(refine A1 ⟨?_⟩;intros)|(refine Wo (a7 (cs':=tpx T) rfl rfl om om hat hne) ?_)|(refine Wdo (a7 (cs':=tpx T) rfl rfl om om hat hne) ?_)|(refine Wog (a7 (cs':=tpx T) rfl rfl om om hat hne) ?_)|(refine cQ (a7 (cs':=tpx T) rfl rfl om om hat hne) ?_))
  refine j5 ?_;refine ZkV (sv:=tq v) (ed (cs':=tpx v) rfl List.mem_cons_self rfl rfl) ?_;refine ZkD 4 ?_;repeat(first|(refine A1 ⟨?_⟩;intros)|refine W4 m1 ⟨?_⟩)
  refine j5 ?_;refine ZkS (b:=b6) (o:=0) (sv:=tq u) (cs':=tpx u) rfl rfl rfl (.here _) rfl rfl ?_;refine ZkD 1 ?_;repeat(refine A1 ⟨?_⟩;intros)
  refine j5 ?_;refine ZkN ?_;repeat(refine A1 ⟨?_⟩;intros)
  exact hgo _ _ lfA Sr
 ·have hke:k=Ps.length:=by omega
  subst hke;clear hK c d m p w hu0;exact Y2 e pj
end Go.Ab
