/- Texts laid one behind the other: TrC, PRel, L28T, Open, RowKit, LaidKit, GInt. -/
import Derived.Test.YtncbhpffccggcaaGreatDoorB37
import Derived.ProofKit
import Derived.OpenShut
import Derived.ChangeOld
import Derived.Below
import Derived.OpenVars
import Derived.Deep.Slices
import Derived.WalkKit
import Derived.Stop.LaidErr
import Derived.LaidMore
import Derived.Deep.DeepHandedRow
import Derived.Deep.DeepWitnessRowRef
set_option linter.all false
set_option maxHeartbeats 16000000
namespace Go.Ab
open Go.Proofs
variable [Base]
theorem Way.sub {L:List Li}{P Q:Pq→Prop}{q0 q r:Pq}(w:Way L P q r) (b:Way L P q0 q) (h:∀s,Off L s→P s→Way L P q0 s→Q s):Way L Q q r:=by
 induction w with
 |refl=>exact .refl _
 |step s _ ih =>
  have b2:=b.trans (.step s (.refl _));exact .step ⟨s.oq,s.or,h _ s.oq s.pq b,h _ s.or s.pr b2,s.one⟩ (ih b2)
theorem Cel.part_at {L:List Li}{t:Tr}(h:Cel L t) (i:Nat){q:Pq}(hq:Off L q){k:Nat}(hk:InC (a8 t []) k q):atT (cl (a8 t []) t i) q=(inB (a8 t []) k&&decide (cP (a8 t []) k=i)):=by
 obtain⟨x,hx,xq⟩:=hk;have e1:=vR (fun k=>decide (cP (a8 t []) k=i)) t [] 0 dC.nil h.lok h.g.2 k x hx xq;rw [Nat.zero_add]at e1;show atT (aa _ []) q=_
 rw [jl h.ok (lr h.g.1) hq,e1,(ew hx).1]
theorem Cel.part {L:List Li}{t:Tr}(h:Cel L t) (i:Nat):Cel L (cl (a8 t []) t i):=⟨h.ok,Gd.restr h.ok (lr h.g.1)⟩
theorem Cel.one {L:List Li}{t:Tr}(h:Cel L t) (hp:∃q,Off L q∧InT t q) (hw:∀q r,Off L q→Off L r→InT t q→InT t r→Way L (InT t) q r):(gO (a8 t []) t).length=1:=by
 obtain⟨q,hq,tq⟩:=hp;obtain⟨k,hk⟩:=h.cov hq;have bk:inB (a8 t []) k=true:=by rw [h.flag hk];exact tq
 have bg:inB (a8 t []) (cP (a8 t []) k)=true:=by rw [←qn];exact bk
 have e:(List.range (a8 t []).length).filter (be (a8 t []))=[cP (a8 t []) k]:=by
  have hmem:∀i,i∈(List.range (a8 t []).length).filter (be (a8 t []))↔i=cP (a8 t []) k:=fun i=>by
   rw [List.mem_filter,List.mem_range];constructor
   ·rintro ⟨_,hi⟩;unfold be at hi;rw [Bool.and_eq_true,decide_eq_true_iff]at hi;obtain⟨r,hr,ir⟩:=h.pt hi.1;have tr:InT t r:=by show atT t r=true;rw [←h.flag ir];exact hi.1
    rw [←hi.2];exact(h.way_grp (hw q r hq hr tq tr) hk ir).symm
   ·rintro rfl;obtain⟨x,hx,_⟩:=eH bg;refine⟨(List.getElem?_eq_some_iff.1 hx).1,?_⟩;unfold be;rw [bg,lL,decide_eq_true rfl];rfl
  have hn:((List.range (a8 t []).length).filter (be (a8 t []))).Nodup:=List.nodup_range.filter _;revert hn hmem;generalize(List.range (a8 t []).length).filter (be (a8 t []))=A;generalize cP (a8 t []) k=g;intro hmem hn;cases A with
  |nil=>exact absurd ((hmem g).2 rfl) (by simp)
  |cons a A =>
   cases A with
   |nil=>rw [(hmem a).1 Ms]
   |cons b A =>
    have ea:=(hmem a).1 Ms;have eb:=(hmem b).1 (Mc Ms);rw [ea,eb]at hn;simp at hn
 unfold gO;rw [List.length_map,e];rfl
theorem Cel.part_way {L:List Li}{t:Tr}(h:Cel L t) (i:Nat){q r:Pq}(hq:Off L q) (hr:Off L r) (tq:InT (cl (a8 t []) t i) q) (tr:InT (cl (a8 t []) t i) r):Way L (InT (cl (a8 t []) t i)) q r:=by
 obtain⟨a,ha⟩:=h.cov hq;obtain⟨b,hb⟩:=h.cov hr;have tq':=tq;have tr':=tr;unfold InT at tq' tr';rw [h.part_at i hq ha,Bool.and_eq_true,decide_eq_true_iff]at tq';rw [h.part_at i hr hb,Bool.and_eq_true,decide_eq_true_iff]at tr';refine(h.grp_way (tq'.2.trans tr'.2.symm) hq hr ha hb (by show atT t q=true;rw [←h.flag ha];exact tq'.1) (by show atT t r=true;rw [←h.flag hb];exact tr'.1)).sub (.refl _) fun s hs ts w=>?_
 obtain⟨c,hc⟩:=h.cov hs;show atT _ s=true
 rw [h.part_at i hs hc,h.flag hc,show atT t s=true from ts,←h.way_grp w ha hc,decide_eq_true tq'.2];rfl
theorem Cel.part_one {L:List Li}{t:Tr}(h:Cel L t){i:Nat}(hi:be (a8 t []) i=true):(bE (cl (a8 t []) t i)).length=1:=by
 refine(h.part i).one ?_ fun q r hq hr tq tr=>h.part_way i hq hr tq tr
 unfold be at hi;rw [Bool.and_eq_true,decide_eq_true_iff]at hi;obtain⟨q,hq,iq⟩:=h.pt hi.1;refine⟨q,hq,?_⟩;show atT _ q=true
 rw [h.part_at i hq iq,hi.1,decide_eq_true hi.2];rfl
theorem Cel.part_dis {L:List Li}{t:Tr}(h:Cel L t){i k:Nat}(hik:i≠k){q:Pq}(hq:Off L q) (ti:InT (cl (a8 t []) t i) q):¬InT (cl (a8 t []) t k) q:=fun tk=>by
 obtain⟨a,ha⟩:=h.cov hq;unfold InT at ti tk;rw [h.part_at i hq ha,Bool.and_eq_true,decide_eq_true_iff]at ti;rw [h.part_at k hq ha,Bool.and_eq_true,decide_eq_true_iff]at tk;exact hik (ti.2.symm.trans tk.2)
theorem Cel.part_all {L:List Li}{t:Tr}(h:Cel L t){q:Pq}(hq:Off L q):(((bE t).map Prod.fst).any fun T=>atT T q)=atT t q:=by
 obtain⟨a,ha⟩:=h.cov hq;rw [Bool.eq_iff_iff,List.any_eq_true];constructor
 ·rintro ⟨T,hT,hTq⟩;obtain⟨c,hc,rfl⟩:=List.mem_map.1 hT;obtain⟨i,_,rfl⟩:=List.mem_map.1 hc;have e:=h.part_at i hq ha;have e2:atT (cl (a8 t []) t i) q=true:=hTq;rw [e,Bool.and_eq_true]at e2;rw [←h.flag ha];exact e2.1
 ·intro ht;have ba:inB (a8 t []) a=true:=by rw [h.flag ha];exact ht
  have bg:inB (a8 t []) (cP (a8 t []) a)=true:=by rw [←qn];exact ba
  obtain⟨x,hx,_⟩:=eH bg;refine⟨cl (a8 t []) t (cP (a8 t []) a),List.mem_map.2 ⟨(cl (a8 t []) t (cP (a8 t []) a),df (a8 t []) (cP (a8 t []) a)),List.mem_map.2 ⟨cP (a8 t []) a,List.mem_filter.2 ⟨List.mem_range.2 (List.getElem?_eq_some_iff.1 hx).1,?_⟩,rfl⟩,rfl⟩,?_⟩
  ·unfold be;rw [bg,lL,decide_eq_true rfl];rfl
  ·rw [h.part_at _ hq ha,ba,decide_eq_true rfl];rfl
theorem vT {L:List Li}(hL:∀l∈L,l.ok){q:Pq}(hq:Off L q):∀(Hs:List Tr){t:Tr},t.lin L→(∀h∈Hs,h.lin L)→atT (lR 1 t Hs) q=(atT t q||Hs.any fun h=>atT h q)
 | [],t,_,_=>by show atT t q=_;rw [List.any_nil,Bool.or_false]
 |a::Hs,t,h,k=>by
  have ha:=k a Ms;have:=vT hL hq Hs (t:=aQ 1 t a []) (ka hL h ha) fun b hb=>k b (Mc hb)
  show atT (lR 1 (aQ 1 t a []) Hs) q=_
  rw [this,C9 om hL h ha hq,List.any_cons,←Bool.or_assoc];rfl
theorem Cel.hol_at {L:List Li}{t:Tr}(h:Cel L t){q:Pq}(hq:Off L q){k:Nat}(hk:InC (a8 t []) k q):((fJ (bE t)).any fun T=>atT T q)=(inB (a8 t []) k&&df (a8 t []) (cP (a8 t []) k)):=by
 rw [Bool.eq_iff_iff,List.any_eq_true,Bool.and_eq_true];unfold fJ;constructor
 ·rintro ⟨T,hT,hTq⟩;obtain⟨c,hc,rfl⟩:=List.mem_map.1 hT;obtain⟨hc1,hc2⟩:=List.mem_filter.1 hc;obtain⟨i,_,rfl⟩:=List.mem_map.1 hc1;have e2:atT (cl (a8 t []) t i) q=true:=hTq;rw [h.part_at i hq hk,Bool.and_eq_true,decide_eq_true_iff]at e2;rw [e2.2];exact⟨e2.1,hc2⟩
 ·rintro ⟨h1,h2⟩;have bg:inB (a8 t []) (cP (a8 t []) k)=true:=by rw [←qn];exact h1
  obtain⟨x,hx,_⟩:=eH bg;refine⟨cl (a8 t []) t (cP (a8 t []) k),List.mem_map.2 ⟨(cl (a8 t []) t (cP (a8 t []) k),df (a8 t []) (cP (a8 t []) k)),List.mem_filter.2 ⟨List.mem_map.2 ⟨cP (a8 t []) k,List.mem_filter.2 ⟨List.mem_range.2 (List.getElem?_eq_some_iff.1 hx).1,?_⟩,rfl⟩,h2⟩,rfl⟩,?_⟩
  ·unfold be;rw [bg,lL,decide_eq_true rfl];rfl
  ·rw [h.part_at _ hq hk,h1,decide_eq_true rfl];rfl
theorem zx {L:List Li}(hL:∀l∈L,l.ok){t:Tr}(ht:t.lin L){q:Pq}(hq:Off L q):atT (gJ t) q=(atT t q||(fJ (bE (cN (aa t [])))).any fun T=>atT T q):=by
 unfold gJ;rw [vT hL hq _ (m7 hL ht) fun x hx=>(vD hL (Gd.restr hL ht).not.1 x hx).1,jl hL ht hq]
theorem xG {L:List Li}(hL:∀l∈L,l.ok){t:Tr}(ht:t.lin L):fJ (bE (cN (aa (gJ t) [])))=[]:=by
 have hw:Cel L (cN (aa t [])):=⟨hL,(Gd.restr hL ht).not⟩
 have hf:=vI hL ht;have hv:Cel L (cN (aa (gJ t) [])):=⟨hL,(Gd.restr hL hf.1).not⟩
 have ev:∀q,Off L q→atT (cN (aa (gJ t) [])) q=(atT (cN (aa t [])) q && !((fJ (bE (cN (aa t [])))).any fun T=>atT T q)):=fun q hq=>by
  rw [k8,k8,jl hL hf.1 hq,jl hL ht hq,zx hL ht hq,Bool.not_or]
 generalize cN (aa (gJ t) [])=v at *;generalize cN (aa t [])=w at *
 have inv:∀{q k},Off L q→InC (a8 w []) k q→(InT v q↔inB (a8 w []) k=true∧df (a8 w []) (cP (a8 w []) k)=false):=fun {q k} hq hk=>by
  show atT v q=true↔_
  rw [ev q hq,hw.hol_at hq hk,hw.flag hk];cases atT w q <;> cases df (a8 w []) (cP (a8 w []) k) <;> simp
 have nb:∀i,be (a8 v []) i=true→df (a8 v []) i=false:=fun i hi=>by
  unfold be at hi;rw [Bool.and_eq_true,decide_eq_true_iff]at hi;obtain⟨q,hq,iq⟩:=hv.pt hi.1;have vq:InT v q:=by show atT v q=true;rw [←hv.flag iq];exact hi.1
  obtain⟨k,hk⟩:=hw.cov hq;obtain⟨bk,ub⟩:=(inv hq hk).1 vq;have wq:InT w q:=by show atT w q=true;rw [←hw.flag hk];exact bk
  obtain⟨j,x,hx,hx2,hxb⟩:=(zH _ _).1 ub;rw [Bool.and_eq_true,decide_eq_true_iff]at hx2;obtain⟨ox,sx⟩:=hw.cr (List.mem_of_getElem? hx);obtain⟨d,hd,ho⟩:=(nu ox).1 hxb;have hjb:inB (a8 w []) j=true:=by rw [(ew hx).1];exact hx2.1
  refine(zH _ _).2 ?_
  obtain⟨c,hc,hco⟩:=w6 hL ox.inn ho (S:=((List.range (a8 v []).length).filter fun m=>inB (a8 v []) m&&decide (cP (a8 v []) m=i)).map (clB (a8 v []))) fun r hr hir=>by
   have jr:InC (a8 w []) j r:=⟨x,hx,hir⟩
   have wr:InT w r:=by show atT w r=true;rw [←hw.flag jr];exact hjb
   have vr:InT v r:=(inv hr jr).2 ⟨hjb,by rw [hx2.2];exact ub⟩
   have way:Way L (InT v) q r:=(hw.grp_way hx2.2.symm hq hr hk jr wq wr).sub (.refl _) fun s hs ws wy=>by
    obtain⟨c,hc⟩:=hw.cov hs;exact(inv hs hc).2 ⟨by rw [hw.flag hc];exact ws,by rw [←hw.way_grp wy hk hc];exact ub⟩
   obtain⟨m,hm⟩:=hv.cov hr;have hg:=hv.way_grp way iq hm;have hmb:inB (a8 v []) m=true:=by rw [hv.flag hm];exact vr
   obtain⟨y,hy,yr⟩:=hm;refine⟨clB (a8 v []) m,List.mem_map.2 ⟨m,List.mem_filter.2 ⟨List.mem_range.2 (List.getElem?_eq_some_iff.1 hy).1,?_⟩,rfl⟩,?_⟩
   ·rw [hmb,←hg,decide_eq_true hi.2];rfl
   ·rw [(ew hy).2];exact yr
  obtain⟨m,hm,rfl⟩:=List.mem_map.1 hc;obtain⟨hm1,hm2⟩:=List.mem_filter.1 hm;rw [Bool.and_eq_true,decide_eq_true_iff]at hm2;obtain⟨y,hy,hy2⟩:=eH hm2.1;obtain⟨oy,sy⟩:=hv.cr (List.mem_of_getElem? hy);refine⟨m,y,hy,?_,(nu oy).2 ⟨d,hd,?_⟩⟩
  ·rw [hy2,decide_eq_true hm2.2];rfl
  ·rw [←(ew hy).2];exact hco
 have e:(bE v).filter (fun c=>c.2)=[]:=by
  rw [List.filter_eq_nil_iff];intro c hc;obtain⟨i,hi,rfl⟩:=List.mem_map.1 hc;have:=nb i (List.mem_filter.1 hi).2;simp [this]
 unfold fJ;rw [e];rfl
theorem Bq {L:List Li}{LL:Nat}(h:LnE L LL){a b:Tr}(ha:a.lin L) (hb:b.lin L) (da:br a≤500) (db:br b≤500) (sa:bw a≤60000) (sb:bw b≤60000) (he:aQ 3 a b [] = .leaf false):Pu Tryz.prog 9 [tq a,tq b] (Ab.tup [lit (.bool true),lit .nilIface]):=by
 have c1:=qP h ha hb sa sb;have c2:=v7 h 3 om ha hb da db he
 have c3:Pu Tryz.prog 29 [prS a b] (Ab.tup [lit (.bool true),lit .nilIface]):=by
  clear c1;refine Pi Tryz.func29 fun C=>?_
  repeat(first|(refine A1 ⟨?_⟩;intros)|refine W4 c2 ⟨?_⟩)
  exact G2
 clear ha hb h c2;refine Pi Tryz.func9 fun C=>?_
 repeat(first|(refine A1 ⟨?_⟩;intros)|refine W4 c1 ⟨?_⟩|refine W4 c3 ⟨?_⟩)
 exact G2
theorem xO {L:List Li}{LL:Nat}(h:LnE L LL){a b:Tr}(ha:a.lin L) (hb:b.lin L) (da:br a≤500) (db:br b≤500) (sa:bw a≤60000) (sb:bw b≤60000) (he:aQ 2 a b [] = .leaf false):Pu Tryz.prog 15 [tq a,tq b] (Ab.tup [lit (.bool true),lit .nilIface]):=by
 have c1:=qP h ha hb sa sb;have c2:=v7 h 2 om ha hb da db he
 have c3:Pu Tryz.prog 32 [prS a b] (Ab.tup [lit (.bool true),lit .nilIface]):=by
  clear c1;refine Pi Tryz.func32 fun C=>?_
  repeat(first|(refine A1 ⟨?_⟩;intros)|refine W4 c2 ⟨?_⟩)
  exact G2
 clear ha hb h c2;refine Pi Tryz.func15 fun C=>?_
 repeat(first|(refine A1 ⟨?_⟩;intros)|refine W4 c1 ⟨?_⟩|refine W4 c3 ⟨?_⟩)
 exact G2
attribute [local irreducible] gJ
theorem Cl {L:List Li}{t:Tr}(h:Gx L t):aQ 3 t (gJ t) [] = .leaf false:=by
 have hL:=h.ok;have ht:=h.g.1;have hf:=(vI hL ht).1;have hat:=fun q (hq:Off L q)=>zx hL ht hq
 generalize gJ t=f at *;refine i4 om hL ht hf fun q hq=>?_
 rw [hat q hq];generalize(fJ (bE (cN (aa t [])))).any (fun T=>atT T q)=z;generalize atT t q=x;cases x <;> cases z <;> rfl
theorem km {L:List Li}(hL:∀l∈L,l.ok){t:Tr}(ht:t.lin L):(gJ t).lin L:=(vI hL ht).1
theorem Gp {L:List Li}(hL:∀l∈L,l.ok){f g:Tr}(hf:f.lin L) (hg:g.lin L) (hat:∀q,Off L q→atT g q=atT f q):aQ 4 f g [] = .leaf false:=by
 refine i4 om hL hf hg fun q hq=>?_
 rw [hat q hq];generalize atT f q=x;cases x <;> rfl
theorem Cr {L:List Li}(hL:∀l∈L,l.ok){t:Tr}(ht:t.lin L){q:Pq}(hq:Off L q):atT (gJ (gJ t)) q=atT (gJ t) q:=by
 have e:=zx hL (km hL ht) hq;have n:=xG hL ht;generalize fJ (bE (cN (aa (gJ t) [])))=Hs at e n;subst n;rw [List.any_nil,Bool.or_false]at e;exact e
theorem EV {L:List Li}{t:Tr}(h:Gx L t):aQ 4 (gJ t) (gJ (gJ t)) [] = .leaf false :=
 Gp h.ok (km h.ok h.g.1) (km h.ok (km h.ok h.g.1)) fun _ hq=>Cr h.ok h.g.1 hq
theorem oc (zs:List Int) (hz:zs.length≤9223372036854775807):Pu Tryz.prog 3 [nsl .i64 zs] (lit (.bool true)):=by
 have hk:(zs.take (min zs.length 400)).length≤400:=by simp;omega
 have hnew:=Ew zs hz;generalize zs.take (min zs.length 400)=ys at *;have hreg:=rG ys hk;clear hz;refine Pi Tryz.func3 fun C=>?_
 repeat(refine A1 ⟨?_⟩;intros)
 refine WPL.callN hnew rfl rfl fun bb=>?_
 repeat(refine A1 ⟨?_⟩;intros)
 refine Wtx hreg mmA fun t=>?_
 obtain⟨t,L,h1,h2,h3⟩:=t;simp only [];have h:Gx L t:=⟨om,h2,h3⟩
 have hz:=h.size;have hd:=h.dep;have hf:=h.fill;have hfz:=hf.size;have hfd:=hf.dep;have hff:=hf.fill;have hffz:=hff.size;have hffd:=hff.dep;have e1:=Cl h;have e2:=EV h;have w:=ou t (dO (fun l hl=>Li.sm.ile hl) h.all) (by rw [fV];omega);have c1:=w9 h;have c2:=w9 hf;have c3:=Bq h.lne h.g.1 (km h.ok h.g.1) om om om om e1;have l2:=km h.ok h.g.1;have l3:=km h.ok l2;have c4:=xI h.lne l2 l3 om om om om e2;have c5:=(IG h.len h.sm l2 om om).cc;rw [xG h.ok h.g.1,List.length_nil]at c5;generalize(bE (aa (gJ t) [])).length=n at *;clear hreg hnew h1 h2 h3 l2 l3 hf hfz hz h hd hfd hff hffz hffd e1 e2;generalize gJ (gJ t)=z at *;generalize gJ t=y at *;repeat(first|(refine A1 ⟨?_⟩;intros)|refine W4 w ⟨?_⟩|refine W4 c1 ⟨?_⟩|refine W4 c2 ⟨?_⟩|refine W4 c3 ⟨?_⟩|refine W4 c4 ⟨?_⟩|refine W4 c5 ⟨?_⟩|refine W4 pj ⟨?_⟩)
 exact E1
end Go.Ab
namespace Go.Ab
open Go.Proofs
variable [Base]
open Go.ChangeShapes Go.WideShapes Go.ChangeAt Go.RowKit
section
variable {H:Type}{enc:TypeId×Value→H}{P:Program}{w:World}{sp:Nat→Bool}{held:Bool}
def pf (w:World):Mem:=fun b=>w.heap[b]?
theorem ED (w:World) (h:Base.mem.le (pf w)):aP (pf w) w:=⟨fun _ _ h=>h,h⟩
def Opn (enc:TypeId×Value→H) (P:Program) (w:World) (sp:Nat→Bool) (held:Bool) (T:TypeId) (G:List SV→Prop):Prop :=
 ∀fuel cs x,DataW.trod enc P w 0 sp held fuel T cs=some x→∃svs,G svs∧ar (pf w) svs cs
inductive Cat:List (List SV→Prop)→List SV→Prop
 |nil:Cat [] []
 |cons {G:List SV→Prop}{Gs:List (List SV→Prop)}{a b:List SV}(h:G a) (k:Cat Gs b):Cat (G::Gs) (a++b)
def GInt (k:IntKind):List SV→Prop:=fun l=>∃n,(Lit.int k n).wf=true∧l=[lit (.int k n)]
def KB (k:IntKind):List SV→Prop:=fun l=>∃zs:List Int,(∀z∈zs,(Lit.int k z).wf=true)∧zs.length≤maxLen∧l=[nsl k zs]
def GSl (k:Nat) (G:List SV→Prop):List SV→Prop:=fun l=>∃es:List (List SV),(∀e∈es,G e∧e.length=k)∧es.length≤maxLen∧l=[sl es.flatten es.length]
theorem sw {m:Mem}{s:SV}{v:Value}(h:s.p m v) (f:v.oneCell'=true):ar m [s] [v]:=⟨⟨h,f⟩,trivial⟩
theorem Hp {T:TypeId}{k:IntKind} [hT:TIn P T k]:Opn enc P w sp held T (GInt k):=fun fuel cs x h=>by
 obtain⟨n,rfl,_,hw⟩:=DataW.trod_int hT.h h;exact⟨_,⟨n,hw,rfl⟩,sw (ae.2 rfl) rfl⟩
def laid (P:Program):List Field→Nat→Nat→Bool
 | [],o,n=>Nat.beq o n
 |f::fs,o,n=>Nat.beq f.offset o&&laid P fs (o+P.cellsOf f.type) n
inductive JI (enc:TypeId×Value→H) (P:Program) (w:World) (sp:Nat→Bool) (held:Bool):List TypeId→List (List SV→Prop)→Prop
 |nil:JI enc P w sp held [] []
 |cons {T:TypeId}{G:List SV→Prop}{Ts:List TypeId}{Gs:List (List SV→Prop)}(h:Opn enc P w sp held T G) (k:JI enc P w sp held Ts Gs):JI enc P w sp held (T::Ts) (G::Gs)
theorem lN {a:Addr}{n:Nat}{cs:List Value}(h:w.cells? 0 a n=some cs):cs.length=n∧∀j,j<n→w.cell? (a.add j)=cs[j]?:=by
 unfold World.cells? at h;rw [if_pos (Nat.zero_le _)]at h;have hl:=mapM_some_length h;refine⟨by simpa using hl,fun j hj=>?_⟩;have:=mapM_some_get h j j (by simp [hj]);simpa using this
theorem rR {m:Mem}{f:Nat→List SV}{k:Nat}{vs:List Value}:∀{n:Nat},(∀i,i<n→(f i).length=k∧ar m (f i) ((vs.drop (i*k)).take k))→ar m ((List.range n).map f).flatten (vs.take (n*k))
 |0,_=>by simp [ar]
 |n+1,h=>by
  have h1:=rR (n:=n) fun i hi=>h i om
  have h2:=(h n om).2;have:=h1.append h2;rw [List.range_succ,List.map_append,List.flatten_append,show(n+1)*k=n*k+k from by rw [Nat.add_mul,Nat.one_mul],List.take_add];simpa using this
theorem C4 {T e:TypeId}{k:Nat}{G:List SV→Prop} [hT:TSl P T e] (hk:P.cellsOf e=k) (hk0:0<k) (hG:Opn enc P w sp held e G):Opn enc P w sp held T (GSl k G):=fun fuel cs x h=>by
 rcases Deep.open_slice hT.h h with⟨rfl,_⟩|⟨a,len,cap,m,n,Dd,Pl,rfl,_,hlc,hcm,hm,_,hx⟩
 ·exact⟨_,⟨[],by simp,by simp,rfl⟩,sw (eS (by simp) (by simp [maxLen]) (.inl rfl)) rfl⟩
 ·have hlm:len≤m:=by rw [hm];split <;> omega
  have hcell:∀i,i<len→∃l,G l∧l.length=k∧∃cs',w.cells? 0 (a.add (i*k)) k=some cs'∧ar (pf w) l cs':=fun i hi=>by
   obtain⟨cs',h1,h2⟩:=hx i om;rw [hk]at h1;obtain⟨l,g1,g2⟩:=hG _ _ _ h2;exact⟨l,g1,by rw [←g2.length,(lN h1).1],cs',h1,g2⟩
  have hch:∀i:Nat,∃l,i<len→G l∧l.length=k∧∃cs',w.cells? 0 (a.add (i*k)) k=some cs'∧ar (pf w) l cs':=fun i=>by
   by_cases hi:i<len
   ·obtain⟨l,hl⟩:=hcell i hi;exact⟨l,fun _=>hl⟩
   ·exact⟨[],fun h=>absurd h hi⟩
  obtain⟨f,hf⟩:=Classical.axiomOfChoice hch;refine⟨_,⟨(List.range len).map f,fun l hl=>?_,by simp;omega,rfl⟩,sw (v := .slice (some a) len cap) ?_ rfl⟩
  ·obtain⟨i,hi,rfl⟩:=List.mem_map.1 hl;have:=hf i (by simpa using hi);exact⟨this.1,this.2.1⟩
  ·rw [List.length_map,List.length_range];refine eS hlc hcm ?_;rcases Nat.eq_zero_or_pos len with h0|h0
   ·left;subst h0;rfl
   ·right;obtain⟨_,hl0,cs0,hc0,_⟩:=hf 0 h0;have hcc:=(lN hc0).2 0 hk0;rw [Nat.zero_mul]at hcc;have hcl:=(lN hc0).1;rw [List.getElem?_eq_getElem om]at hcc;obtain⟨b,off,spot⟩:=a;have hs:spot=none:=by simpa [Addr.add] using World.cell?_spot hcc
    subst hs;simp only [aI,Nat.add_zero]at hcc
    have hb:∃arr T fz,w.heap[b]? = some (.cells arr T fz):=by
     unfold World.cell? at hcc;cases hbb:w.heap[b]? with
     |none=>simp [hbb]at hcc
     |some o=>cases o with
      |cells arr T fz=>exact⟨arr,T,fz,rfl⟩
      |_=>simp [hbb]at hcc
    obtain⟨arr,T',fz,hb⟩:=hb;refine⟨b,off,rfl,arr,T',fz,hb,?_⟩
    have hfl:((List.range len).map f).flatten.length=len*k:=by
     have:∀n,n≤len→((List.range n).map f).flatten.length=n*k:=by
      intro n;induction n with
      |zero=>intro _;simp
      |succ n ih=>intro hn;rw [List.range_succ,List.map_append,List.flatten_append,List.length_append,ih om];simp [(hf n om).2.1,Nat.add_mul]
     exact this len (Nat.le_refl _)
    rw [hfl];refine rR fun i hi=>?_
    obtain⟨_,hl,cs',hc,ha⟩:=hf i hi;refine⟨hl,?_⟩
    have hcs:cs'=((arr.toList.drop off).drop (i*k)).take k:=by
     obtain⟨g1,g2⟩:=lN hc;apply List.ext_getElem?;intro j;by_cases hj:j<k
     ·have h1:=g2 j hj;simp only [aI]at h1;rw [cu w b _ arr _ _ hb]at h1;rw [List.getElem?_take_of_lt hj,List.getElem?_drop,List.getElem?_drop,←h1];simp [Nat.add_assoc]
     ·rw [List.getElem?_eq_none om,List.getElem?_eq_none (by rw [List.length_take];omega)]
    rw [←hcs];exact ha
theorem wS {T e:TypeId}{k:IntKind} [hT:TSl P T e] [hE:TIn P e k] (hk:P.cellsOf e=1):Opn enc P w sp held T (KB k):=fun fuel cs x h=>by
 obtain⟨svs,⟨es,hes,hl,rfl⟩,ha⟩:=C4 (k:=1) hk om (Hp (k:=k)) fuel cs x h;refine⟨_,?_,ha⟩
 have:∃zs:List Int,(∀z∈zs,(Lit.int k z).wf=true)∧es=zs.map fun z=>[lit (.int k z)]:=by
  clear ha hl;induction es with
  |nil=>exact⟨[],by simp,rfl⟩
  |cons e es ih =>
   obtain⟨zs,h1,h2⟩:=ih fun x hx=>hes x (by simp [hx])
   obtain⟨⟨z,hz,rfl⟩,_⟩:=hes e (by simp);exact⟨z::zs,by simpa using ⟨hz,h1⟩,by rw [h2];rfl⟩
 obtain⟨zs,h1,rfl⟩:=this;refine⟨zs,h1,by simpa using hl,?_⟩
 have hfl:(zs.map fun z=>[lit (.int k z)]).flatten=zs.map fun z=>lit (.int k z):=by
  clear hl hes ha h1;induction zs with
  |nil=>rfl
  |cons z zs ih=>simp [ih]
 rw [hfl,List.length_map];unfold nsl;rfl
end
end Go.Ab
namespace Go.Ab
open Go.Proofs
variable [Base]
open Go.ChangeShapes Go.WideShapes Go.ChangeAt Go.RowKit
theorem y5 {P:Program}{f:FuncId}{args:List SV}{W:World}{vs:List Value}(hB:Base.mem.le (pf W)) (h:Pu P f args (lit (.bool true))) (ha:aU (pf W) args vs) :
  Calls P f vs.toArray W fun e w'=>e = .returned (.bool true)∧Below W.heap.size W w':=by
 unfold Pu at h;refine(h.2 _ W vs (ED W hB) ha).mono ?_;rintro e w' ⟨v,m',rfl,hv,_,hr⟩;rw [ae]at hv;subst hv;exact⟨rfl,hr.os,hr.tape,hr.output,hr.size,fun k hk=>hr.block k hk (by simp)⟩
theorem K7:ownKnob Tryz.prog.godebug=none:=by kernel_rfl
theorem xk:laidOutB Tryz.prog=true:=by kernel_rfl
section
variable {H:Type}{enc:TypeId×Value→H}{W:World}{sp:Nat→Bool}{held:Bool}
end
end Go.Ab
namespace Go.Ab
open Go.Proofs
variable [Base]
open Go.ChangeShapes Go.WideShapes Go.ChangeAt Go.RowKit
abbrev FO (W:World):Base:=⟨pf W⟩
end Go.Ab
namespace Go.Ab
open Go.Proofs
variable [Base]
open Go.ChangeShapes Go.WideShapes Go.ChangeAt Go.RowKit
end Go.Ab
