/- Texts laid one behind the other: RngB, Drw, RgM. -/
import Derived.Test.YtbcojehfealiaaaGreatDoorB13
set_option linter.all false
set_option maxHeartbeats 16000000
namespace Go.Ab
open Go.Proofs
variable [Base]
def fO (K:Fr→LH→Prop):Exit→Fr→LH→Prop
 | .normal,F,H=>K F H
 |_,_,_=>False
section
variable {P:Program}{C:Ctx}{n:Nat}{Q:Exit→Fr→LH→Prop}{F:Fr}{H:LH}{Post:Exit→Act→World→Prop}
attribute [local semireducible] WP WPL dW iM
theorem bn.len {m:Mem}:∀{ss:List SV}{vs:List Value},bn m ss vs→ss.length=vs.length
 | [],[],_=>rfl
 |_::_,_::_,h=>by rw [List.length_cons,List.length_cons,bn.len h.2]
 | [],_::_,h=>h.elim
 |_::_,[],h=>h.elim
theorem uv {α β:Type}:∀(a:List α) (b:List β),a.length=b.length→(a.zip b).map (·.1)=a
 | [],[],_=>rfl
 |x::a,y::b,h=>by simp [uv a b (by simpa using h)]
 | [],_::_,h=>by cases h
 |_::_,[],h=>by cases h
theorem ut {α β:Type}:∀(a:List α) (b:List β),a.length=b.length→(a.zip b).map (·.2)=b
 | [],[],_=>rfl
 |x::a,y::b,h=>by simp [ut a b (by simpa using h)]
 | [],_::_,h=>by cases h
 |_::_,[],h=>by cases h
def WPE (P:Program) (C:Ctx) (n:Nat) (c:Code) (Post:Exit→Act→World→Prop) (F:Fr) (H:LH):Prop:=∀a w,St C n F H a w→c.wp P Post a w
theorem WPE.seq {x y:Code}(h:WP P C n x (dW (fun F H=>WPE P C n y Post F H) Q) F H) (k:∀e a w,e≠ .normal→g8 C n Q e a w→Post e a w):WPE P C n (.seq x y) Post F H:=by
 intro a w hs;unfold WP at h;refine wp_seq (wp_mono (h a w hs) ?_);rintro e a' w' (⟨F',H',hs',hq⟩|⟨ch,rfl,hp⟩)
 ·cases e with
  |normal=>exact hq a' w' hs'
  |_=>exact k _ _ _ (by intro e;cases e) (.inl ⟨F',H',hs',hq⟩)
 ·exact k _ _ _ (by intro e;cases e) (.inr ⟨ch,rfl,hp⟩)
theorem WPE.ahead {x y:Code}(h:WPE P C n x (Exit.then (fun a w=>y.wp P Post a w) Post) F H):WPE P C n (.seq x y) Post F H:=fun a w hs=>wp_seq (h a w hs)
theorem WPE.fin {c:Code}(h:WP P C n c Q F H) (k:∀e a w,g8 C n Q e a w→Post e a w):WPE P C n c Post F H:=by
 unfold WP at h;exact fun a w hs=>wp_mono (h a w hs) k
structure RB (C C1:Ctx) (D:Nat):Prop where
 dfs:C1.dfs=⟨.collected D,#[]⟩::C.dfs
 pan:C1.pan=C.pan
 rel:Rel C.ks C.m C.w C1.m C1.w
 own:∀b∈C1.ks,b∈C.ks∨C.w.heap.size≤b
 mark:C1.w.heap[D]? = some (.deferred (some []))
 nd:D∉C1.ks
 mem:C1.m D=none
 ge:C.w.heap.size≤D
theorem HOk.frame {m m':Mem}{w w':World}{Rs G H':LH}{ks:List Nat}(h:HOk m w (Rs++G)) (h':HOk m' w' H') (r:Rel ks m w m' w') (hk:∀e∈Rs,e.1∉ks) (hn:∀e∈H',e.1∈keys G∨w.heap.size≤e.1):HOk m' w' (Rs++H'):=by
 refine⟨?_,fun e he=>?_⟩
 ·rw [List.map_append,List.nodup_append];have h0:=h.1;rw [List.map_append,List.nodup_append]at h0;refine⟨h0.1,h'.1,fun x hx y hy hxy=>?_⟩;obtain⟨e1,he1,rfl⟩:=List.mem_map.1 hx;obtain⟨e2,he2,rfl⟩:=List.mem_map.1 hy;rcases hn e2 he2 with g|g
  ·exact h0.2.2 _ (List.mem_map.2 ⟨e1,he1,rfl⟩) _ g hxy
  ·have:=(h.2 e1 (List.mem_append_left _ he1)).2.lt;omega
 ·rcases List.mem_append.1 he with g|g
  ·obtain⟨h1,hc⟩:=h.2 e (List.mem_append_left _ g);have hlt:=hc.lt;obtain⟨arr,h2,h3⟩:=hc;exact⟨(r.old _ hlt (hk e g)).trans h1,arr,(r.block _ hlt (hk e g)).trans h2,h3.mono r.le⟩
  ·exact h'.2 e g
def CV (C:Ctx) (R:SV→LH→Prop):Ending→World→Prop:=fun e w'=>∃m' H',aU m' w'∧HOk m' w' H'∧Rel C.ks C.m C.w m' w'∧(∀e∈H',e.1∈C.ks∨C.w.heap.size≤e.1)∧∃v res,e = .returned v∧res.p m' v∧R res H'
theorem PuH.introE {f:FuncId}{fn:Func}{c:Code}{args:List SV}{Hin:LH}{R:SV→LH→Prop}(hf:P.funcs[f]? = some fn) (hb:fn.body=some c) (hbod:fY P f=true)
  (h:∀C:Ctx,(∀pv H,¬C.pan pv H)→C.dfs=[]→WPE P C fn.ntmps c (bodyPostM (fe none) 1 P fn (CV C R)) (ini args) Hin):PuH P f args Hin R noX:=by
 unfold PuH;refine⟨hbod,fun m w vs hm hH ha=>?_⟩;refine Calls.mono ((callsIn_wide (n:=1)).1 (callsIn_of_wp_marks hf hb trivial (wpIn_wide.2 ?_))) (R:=CV ⟨keys Hin,m,w,noX,[]⟩ R) ?_
 ·refine h ⟨keys Hin,m,w,noX,[]⟩ (fun _ _ h=>h) rfl _ w ?_;refine⟨rfl,by simp only [Array.size_append,Array.size_replicate];omega,m,hm,hH,Rel.refl _ _ _,fun e he => .inl (gJ he),fun t=>?_⟩;have:=pl (us:=List.replicate (fn.ntmps-vs.toArray.size) undef) ha t;rw [show vs.toArray++Array.replicate (fn.ntmps-vs.toArray.size) undef=(vs++List.replicate (fn.ntmps-vs.toArray.size) undef).toArray from by simp];exact this
 ·rintro e w' ⟨m',H',a1,a2,a3,a4,v,res,a5,a6,a7⟩;exact⟨m',H',a1,a2,a3,a4, .inl ⟨v,res,a5,a6,a7⟩⟩
theorem Jq {fn:Func}{R:SV→LH→Prop}(hpan:∀pv H,¬C.pan pv H) (hdf:C.dfs=[]):∀e a w,g8 C n (mT P fn.results R) e a w→bodyPostM (fe none) 1 P fn (CV C R) e a w:=by
 rintro e a w (⟨F',H',⟨hdef,_,m',hm',hH',hr',h4',hp'⟩,hq⟩|⟨ch,rfl,_,m',v,pv,H',_,_,_,_,_,_,hx⟩)
 ·have fin:(∃res H2,jt P fn.results.toList res F' H'∧H2.Sublist H'∧R res H2)→LeavesInM (fe none) 1 P fn a.tmps (CV C R) a.defers .returning w:=by
   rintro ⟨res,H2,he,hsub,hR⟩;obtain⟨v,hv,hpv⟩:=nM rfl he hm' hH' hp';rw [hdef,hdf];exact⟨v,hv,m',H2,hm',hH'.sub' hsub,hr',fun e he=>h4' e (hsub.subset he),v,res,rfl,hpv,hR⟩
  unfold mT at hq;cases e with
  |normal=>exact fin hq
  |ret=>exact fin hq
  |exit id=>exact hq.elim
  |goto l=>exact hq.elim
  |panic ch=>exact hq.elim
  |outgrown=>exact hq.elim
 ·exact absurd hx (hpan _ _)
theorem Jp {fn:Func}{C1:Ctx}{D:Nat}{R:SV→LH→Prop}(hpan:∀pv H,¬C.pan pv H) (hdf:C.dfs=[]) (hrb:RB C C1 D):∀e a w,g8 C1 n (mT P fn.results R) e a w→bodyPostM (fe none) 1 P fn (CV C R) e a w:=by
 rintro e a w (⟨F',H',⟨hdef,_,m',hm',hH',hr',h4',hp'⟩,hq⟩|⟨ch,rfl,_,m',v,pv,H',_,_,_,_,_,_,hx⟩)
 ·have hDlt:=iD hrb.mark;have hD:w.heap[D]? = some (.deferred (some [])):=(hr'.block D hDlt hrb.nd).trans hrb.mark;have hmD:m' D=none:=(hr'.old D hDlt hrb.nd).trans hrb.mem
  have hne:∀e∈H',e.1≠D:=fun e he hk=>by
   obtain⟨_,arr,hb,_⟩:=hH'.2 e he;rw [hk,hD]at hb;cases hb
  have fin:(∃res H2,jt P fn.results.toList res F' H'∧H2.Sublist H'∧R res H2)→LeavesInM (fe none) 1 P fn a.tmps (CV C R) a.defers .returning w:=by
   rintro ⟨res,H2,he,hsub,hR⟩;have hm2:=hm'.putObj (o := .deferred none) hmD;have hH2:=hH'.putObj (o := .deferred none) hne;obtain⟨v,hv,hpv⟩:=nM rfl he hm2 hH2 hp';rw [hdef,hrb.dfs,hdf];refine⟨(by intro h;cases h), .inl ⟨D,_,rfl,run_takeDeferred hD,v,hv,m',H2,hm2,hH2.sub' hsub,?_,fun e he=>?_,v,res,rfl,hpv,hR⟩⟩
   ·have hge:=hrb.ge;refine(hrb.rel.trans hr' fun b hb hk=>?_).trans Rel.putL fun b hb hk=>?_
    ·rcases hrb.own b hk with h|h
     ·exact h
     ·omega
    ·rw [List.mem_singleton.1 hk]at hb;omega
   ·have hsz:=hrb.rel.size;rcases h4' e (hsub.subset he)with h|h
    ·exact hrb.own _ h
    ·exact .inr om
  unfold mT at hq;cases e with
  |normal=>exact fin hq
  |ret=>exact fin hq
  |exit id=>exact hq.elim
  |goto l=>exact hq.elim
  |panic ch=>exact hq.elim
  |outgrown=>exact hq.elim
 ·rw [hrb.pan]at hx;exact absurd hx (hpan _ _)
end
def Be (ops:Array Oper) (k:Nat):Bool:=(List.range ops.size).all fun i=>Nat.blt i k||(List.range i).all fun j=>aQ ops i j
theorem vR {ops:Array Oper}{k:Nat}(h:Be ops k=true):∀i,i<ops.size→k≤i→∀j,j<i→aQ ops i j=true:=fun i hi hk j hj=>by
 have h1:=List.all_eq_true.1 h i (List.mem_range.2 hi);rw [Bool.or_eq_true]at h1;rcases h1 with h1|h1
 ·have:=Nat.blt_eq.mp h1;omega
 ·exact List.all_eq_true.1 h1 j (List.mem_range.2 hj)
theorem Jz {ro:Option Nat}{dd:Nat}{P:Program}{ops:Array Oper}{Q:Exit→Act→World→Prop}{i:Nat}{K:Act→World→Prop}{a:Act}{w:World}(hq:∀a w,¬Q .outgrown a w) (hd:∀o,ops[i]? = some o→(!fu o.op)=true) (h:wpOp P ops Q i K a w):wpOpIn (fe ro) dd P ops Q i K a w:=by
 unfold wpOp at h;unfold wpOpIn;cases ho:ops[i]? with
 |none=>rw [ho]at h;exact h
 |some o =>
  rw [ho]at h;simp only at h⊢;by_cases hw:Region.wanted o (yielded ops a.tmps)=true
  ·rw [if_pos hw]at h⊢;rcases h with h|⟨_,a0,w0,h0⟩
   ·exact up1 (hd o ho) h
   ·exact(hq _ _ h0).elim
  ·rw [if_neg hw]at h⊢;exact⟨fun _ _=>trivial,h⟩
section
variable {P:Program}{ops:Array Oper}{C:Ctx}{n:Nat}{F F':Fr}{H:LH}
attribute [local semireducible] WP WPL dW iM Dk
theorem CX {ro:Option Nat}{dd:Nat}{Q':Exit→Act→World→Prop}{k:Nat}{N0:List NW}(hchk:iK ops k=true) (hseq:∀i,i<ops.size→k≤i→∀j,j<i→aQ ops i j=true) (hq:∀a w,¬Q' .outgrown a w) (hdf:∀i o,ops[i]? = some o→i<k→(!fu o.op)=true) (hN:∀e∈N0,∃o,ops[e.idx]? = some o∧e.idx<k∧o.dst=some e.d∧gK ops k e.idx=true)
  (hd0:N0.Pairwise fun a b=>a.d≠b.d) (hi0:N0.Pairwise fun a b=>a.idx≠b.idx)
  (fin:∀nm a w,St C n (cO N0 nm F') (fU N0 nm++H) a w→wpListIn (fe ro) dd P ops Q' (ops.toList.drop k) a w) :
  ∀(fuel:Nat) (listed:Array Bool) (a:Act) (w:World) (Nr E:List NW) (nm:Nat→Nat) (F:Fr),(left ops k listed).length+(ops.size-k)≤fuel→listed.size=ops.size→ee ops listed→
   (∀j,k≤j→j<ops.size→listed.getD j true=false)→Dr P ops n H (left ops k listed) Nr F F'→(E++Nr).Perm N0→(∀e∈E,listed.getD e.idx true=true)→St C n (cO E nm F) (fU E nm++H) a w→
   wpAnyIn (fe ro) dd P .any ops Q' fuel listed a w:=by
 obtain⟨hk,hback,hpre,_⟩:=j9 hchk
 have tail_at:∀(fuel t:Nat) (listed:Array Bool) (a:Act) (w:World),k≤t→listed.size=ops.size→ee ops listed→ops.size-t≤fuel→(∀j,j<t→listed.getD j true=true)→(∀j,t≤j→j<ops.size→listed.getD j true=false)→
   wpListIn (fe ro) dd P ops Q' (ops.toList.drop t) a w→wpAnyIn (fe ro) dd P .any ops Q' fuel listed a w:=by
  intro fuel;induction fuel with
  |zero =>
   intro t listed a w hkt hs hcl hfu h1 h2 h;have ht:ops.size≤t:=by omega
   refine⟨?_,?_⟩
   ·cases hr:Region.ready .any ops listed with
    |nil=>rfl
    |cons x xs =>
     have hx:x∈Region.ready .any ops listed:=by rw [hr];simp
     obtain⟨h0,o,ho,_⟩:=mem_ready.1 hx;have:=(Array.getElem?_eq_some_iff.1 ho).1;rw [h1 x om]at h0;cases h0
   ·rw [List.drop_eq_nil_of_le (by simpa using ht)]at h;exact h
  |succ fuel ih =>
   intro t listed a w hkt hs hcl hfu h1 h2 h
   have only:∀i∈Region.ready .any ops listed,i=t∧t<ops.size:=fun i hi=>by
    obtain⟨h0,o,ho,_⟩:=mem_ready.1 hi;have hlt:=(Array.getElem?_eq_some_iff.1 ho).1
    have hge:t≤i:=by
     rcases Nat.lt_or_ge i t with h|h
     ·rw [h1 i h]at h0;cases h0
     ·exact h
    rcases Nat.lt_or_ge t i with hlt'|hle
    ·have:=aB hcl hi (hseq i hlt om t hlt');have:=bi hs (by omega:t<ops.size) this;rw [h2 t (Nat.le_refl _) om]at this;cases this
    ·exact⟨om,om⟩
   refine⟨fun hr=>?_,fun i hi=>?_⟩
   ·rcases Nat.lt_or_ge t ops.size with hlt|hge
    ·exfalso
     have hmem:t∈Region.ready .any ops listed:=by
      rw [mem_ready];refine⟨h2 t (Nat.le_refl _) hlt,ops[t],by simp [hlt],fun e he hb=>?_⟩;have hlt':=dU (hback t hlt) (by simp [hlt]:ops[t]? = some ops[t]) e he hb;have:=h1 e.on hlt';have hsz:e.on<listed.size:=by omega
      simp [hsz]at this⊢;exact this
     rw [hr]at hmem;cases hmem
    ·rw [List.drop_eq_nil_of_le (by simpa using hge)]at h;exact h
   ·obtain⟨rfl,hlt⟩:=only i hi;have ho:ops[i]? = some ops[i]:=by simp [hlt]
    have hd:ops.toList.drop i=ops[i]::ops.toList.drop (i+1):=by
     rw [List.drop_eq_getElem_cons (by simpa using hlt)];simp
    rw [hd]at h
    have hstep:wpOpIn (fe ro) dd P ops Q' i (fun a w=>wpListIn (fe ro) dd P ops Q' (ops.toList.drop (i+1)) a w) a w:=by
     unfold wpOpIn;rw [ho];exact h
    refine wpOpIn_mono (fun a' w' h'=>ih (i+1) (listed.setIfInBounds i true) a' w' om (by simpa using hs) (hcl.step hi) om (fun j hj=>?_) (fun j hj hjs=>?_) h') hstep
    ·by_cases hji:i=j
     ·subst hji;simp [hs,hlt]
     ·rw [getD_set_ne true hji];exact h1 j om
    ·rw [getD_set_ne true om];exact h2 j om hjs
 have done:∀(fuel:Nat) (listed:Array Bool) (a:Act) (w:World) (Nr E:List NW) (nm:Nat→Nat) (F:Fr),(left ops k listed)=[]→(ops.size-k)≤fuel→listed.size=ops.size→ee ops listed→
   (∀j,k≤j→j<ops.size→listed.getD j true=false)→Dr P ops n H (left ops k listed) Nr F F'→(E++Nr).Perm N0→St C n (cO E nm F) (fU E nm++H) a w→
   wpAnyIn (fe ro) dd P .any ops Q' fuel listed a w:=by
  intro fuel listed a w Nr E nm F hnil hfu hs hcl hl hdr hp hst;rw [hnil]at hdr;cases hdr;rw [List.append_nil]at hp;have hpw:E.Pairwise fun a b=>a.d≠b.d:=(hp.pairwise_iff (fun h=>h.symm)).2 hd0
  have hst':St C n (cO N0 nm F') (fU N0 nm++H) a w:=by
   rw [←lg hp hpw];exact hst.perm ((hp.map _).append_right _)
  refine tail_at fuel k listed a w (Nat.le_refl _) hs hcl hfu (fun j hj=>?_) hl (fin nm a w hst');cases hb:listed.getD j true with
  |true=>rfl
  |false =>
   have:(j,ops[j])∈left ops k listed:=aC.2 ⟨hj,by simp,hb⟩;rw [hnil]at this;cases this
 intro fuel;induction fuel with
 |zero =>
  intro listed a w Nr E nm F hfu hs hcl hl hdr hp hEl hst;exact done 0 listed a w Nr E nm F (List.eq_nil_of_length_eq_zero om) om hs hcl hl hdr hp hst
 |succ fuel ih =>
  intro listed a w Nr E nm F hfu hs hcl hl hdr hp hEl hst;by_cases hnil:left ops k listed=[]
  ·exact done (fuel+1) listed a w Nr E nm F hnil (by rw [hnil]at hfu;simpa using hfu) hs hcl hl hdr hp hst
  have hEN:∀e∈E,e∈N0:=fun e he=>hp.mem_iff.1 (by simp [he])
  refine⟨fun hr=>?_,fun i hi=>?_⟩
  ·exfalso;obtain⟨⟨i,o⟩,l',hcons⟩:=List.exists_cons_of_ne_nil hnil;have hmem:(i,o)∈left ops k listed:=by rw [hcons];simp
   obtain⟨h1,h2,h3⟩:=aC.1 hmem
   have hready:i∈Region.ready .any ops listed:=by
    rw [mem_ready];refine⟨h3,o,h2,fun e he hb=>?_⟩;have hlt:=dU (hback i (by simp only at h1;omega)) h2 e he hb;cases hle:listed.getD e.on false with
    |true=>rfl
    |false =>
     have hsz:e.on<listed.size:=by simp only at h1;omega
     have h4:listed.getD e.on true=false:=by simp [hsz]at hle⊢;exact hle
     have hm2:(e.on,ops[e.on]' om)∈left ops k listed:=aC.2 ⟨by simp only at h1⊢;omega,by simp,h4⟩;have hsort:=bR (ops:=ops) k listed;rw [hcons]at hsort hm2;rcases List.mem_cons.1 hm2 with h|h
     ·simp only [Prod.mk.injEq]at h;omega
     ·have:=(List.pairwise_cons.1 hsort).1 _ h;simp at this;omega
   rw [hr]at hready;cases hready
  ·obtain⟨hun,o,ho,_⟩:=mem_ready.1 hi;have hlt:=(Array.getElem?_eq_some_iff.1 ho).1
   have others:k≤i→∀j,j<ops.size→j<i→listed.getD j true=false→False:=fun hki j hj hji hun'=>by
    have:=bi hs hj (aB hcl hi (hseq i hlt hki j hji));rw [hun']at this;cases this
   rcases Nat.lt_or_ge i k with hik|hki
   ·skip
    have hmem:(i,o)∈left ops k listed:=aC.2 ⟨hik,ho,hun⟩;obtain⟨l1,l2,hl12⟩:=List.append_of_mem hmem;have hset:=iG hs hlt hl12;have hlen:(l1++l2).length+1=(left ops k listed).length:=by rw [hl12];simp;omega
    have hsort:=bR (ops:=ops) k listed;rw [hl12]at hsort
    have hbefore:∀y∈l1,o.apart ops y.2=true:=fun y hy=>by
     obtain⟨y1,y2,y3⟩:=aC.1 (by rw [hl12];simp [hy]:y∈left ops k listed)
     have hyi:y.1<i:=by
      rw [List.pairwise_append]at hsort;exact hsort.2.2 y hy (i,o) (by simp)
     rcases hpre i hik y.1 hyi with h|h
     ·have:=bi hs om (aB hcl hi h);rw [y3]at this;cases this
     ·exact oK ho y2 h
    have hEi:∀e∈E,e.idx≠i:=fun e he hei=>by
     have:=hEl e he;rw [hei,hun]at this;cases this
    have apartE:∀e∈E,e.d∉o.looksAt ops∧o.dst≠some e.d:=fun e he=>by
     obtain⟨oe,e1,e2,e3,e4⟩:=hN e (hEN e he);exact gm e4 e1 e3 ho hik (fun h=>hEi e he h.symm)
    have hEl':∀e∈E,(listed.setIfInBounds i true).getD e.idx true=true:=fun e he=>by
     rw [getD_set_ne true (fun h=>hEi e he h.symm)];exact hEl e he
    rw [hl12]at hdr
    have hl':∀j,k≤j→j<ops.size→(listed.setIfInBounds i true).getD j true=false:=fun j hj hjs=>by
     rw [getD_set_ne true om];exact hl j hj hjs
    obtain⟨d,hd⟩:=hdr.dst (i,o) (by simp);have hfr:∀t∈o.looksAt ops,F t=cO E nm F t:=fun t ht=>(q9 fun e he hed=>(apartE e he).1 (hed▸ht)).symm
    have hdd:∀e∈E,e.d≠d:=fun e he hed=>(apartE e he).2 (by rw [hd,hed])
    rcases hdr.pick (x:=(i,o)) hd hbefore with⟨sv,hdn,hds,hdr'⟩|⟨N1,N2,e,hNr,hei,hed,hguard,hdn,hT,hdr'⟩
    ·have hds':=hds.frame hfr;obtain⟨hdef,hn,m,h1,h2,h3,h4,h5⟩:=hst;refine Jz hq (fun o ho=>hdf i o ho hik) (hds'.wp ho hd hn h1 h2.tail h5 fun v m' w' hv hm' hH' r=>?_);refine ih _ _ _ Nr E nm (upd F d sv) (by rw [hset];omega) (by simpa using hs) (hcl.step hi) hl' (by rw [hset];exact hdr') hp hEl' ?_;rw [nD hdd];exact St.put (Nat.blt_eq.mp hdn) hdef hn h2 h3 h4 h5 hv hm' (h2.beside hH' r) (r.mono fun b hb=>by unfold keys at *;rw [List.map_append];exact List.mem_append_right _ hb)
    ·have hw:Region.wanted o (yielded ops a.tmps)=true:=by simp only [Region.wanted,(show o.guard=none from hguard)]
     refine Jz hq (fun o ho=>hdf i o ho hik) ?_;unfold wpOp;simp only [ho,hw,if_true];left;subst hNr;simp only at hei
     have hp':(e::E++(N1++N2)).Perm N0:=by
      refine List.Perm.trans ?_ hp;exact(List.perm_middle (a:=e) (l₁:=E) (l₂:=N1++N2)).symm.trans ((List.perm_middle (a:=e) (l₁:=N1) (l₂:=N2)).symm.append_left E)
     have hT':=hT.congr fun t ht=>hfr t (jH ht)
     have hfacts:∃m:Mem,∀t, .tmp t∈o.op.operands→(cO E nm F t).p m (a.eval (.tmp t)):=by
      obtain⟨_,_,m,_,_,_,_,h5⟩:=hst;exact⟨m,fun t _=>h5 t⟩
     obtain⟨arr,hrun,hall⟩:=hT' w o a rfl hfacts;unfold Oper.wp;rw [hrun];show wpAnyIn (fe ro) dd P .any ops Q' fuel (listed.setIfInBounds i true) (a.put o.dst _) _
     rw [hd,←hed];have hpush:=St.push (T:=e.T) (arr:=arr) (v:=e.val w.heap.size) (Nat.blt_eq.mp (hed▸hdn)) hst fun m hm=>hall m fun t _=>hm (.tmp t)
     refine ih _ _ _ (N1++N2) (e::E) (fun x=>if x=i then w.heap.size else nm x) F (by rw [hset];omega) (by simpa using hs) (hcl.step hi) hl' (by rw [hset];exact hdr') hp' (fun x hx=>?_) ?_
     ·rcases List.mem_cons.1 hx with rfl|hx
      ·rw [hei];simp [hs,hlt]
      ·exact hEl' x hx
     have hnm:∀x∈E,nm x.idx=(fun x=>if x=i then w.heap.size else nm x) x.idx:=fun x hx=>by simp [hEi x hx]
     rw [show cO (e::E) (fun x=>if x=i then w.heap.size else nm x) F=upd (cO E nm F) e.d (lit (e.val w.heap.size))from by
      simp only [cO,hei,if_true];rw [←uC hnm]]
     rw [show fU (e::E) (fun x=>if x=i then w.heap.size else nm x)=(w.heap.size,e.T,e.z)::fU E nm from by
      have:=vP (N:=E) (nm:=nm) (nm':=fun x=>if x=i then w.heap.size else nm x) hnm;unfold fU at this⊢;rw [List.map_cons,←this];simp only [hei,if_true]]
     exact hpush
   ·obtain⟨⟨j,oj⟩,l',hcons⟩:=List.exists_cons_of_ne_nil hnil;obtain⟨h1,h2,h3⟩:=aC.1 (by rw [hcons];simp:(j,oj)∈left ops k listed);simp only at h1 h2 h3;exact(others hki j om om h3).elim
theorem Lh {ro:Option Nat}{dd:Nat}{Q':Exit→Act→World→Prop}{id:Nat}{l:List Oper}(k:Nat) (h:Dk P l.toArray n H (iz 0 k l) (fun N F'=>N=[]∧∀a w,St C n F' H a w→wpListIn (fe ro) dd P l.toArray Q' (l.drop k) a w) F) (hq:∀a w,¬Q' .outgrown a w){a:Act}{w:World}(hs:St C n F H a w)
  (hm:P.follows .mixedOrders=true:=by kernel_rfl) (hchk:iK l.toArray k=true:=by kernel_rfl) (hseq:Be l.toArray k=true:=by kernel_rfl) (hdf:((l.take k).all fun o => !fu o.op)=true:=by exact rfl) :
  (Code.region id l.toArray true).wpIn (fe ro) dd P Q' a w:=by
 obtain⟨N,F',h1,rfl,h2⟩:=h;rw [jY]at h1;obtain⟨hk,hback,hpre,_⟩:=j9 hchk;refine wpIn_region_any hm ?_;refine CX (C:=C) (n:=n) (H:=H) (F':=F') (N0:=[]) hchk (vR hseq) hq (fun i o ho hi=>?_) (fun e he=>by cases he) .nil .nil ?_ l.toArray.size (Array.replicate l.toArray.size false) a {w with drawn:=w.drawn+1} [] [] (fun _=>0) F ?_ (by simp) (fun m j hm=>by by_cases hlt:m<l.length <;> simp [hlt]at hm) ?_ ?_ (by simp) (fun e he=>by cases he) ?_
 ·have ho':l[i]? = some o:=by simpa using ho
  exact List.all_eq_true.1 hdf o (List.mem_of_getElem? (l:=l.take k) (i:=i) (by rw [List.getElem?_take,if_pos hi];exact ho'))
 ·intro nm a' w' hst;exact h2 a' w' hst
 ·have:(left l.toArray k (Array.replicate l.toArray.size false)).length≤k:=by
   unfold left;refine Nat.le_trans (List.length_filter_le _ _) ?_;simp;omega
  omega
 ·intro j _ hj;have hj':j<l.length:=by simpa using hj
  simp [hj']
 ·have:left l.toArray k (Array.replicate l.toArray.size false)=(l.zipIdx.map fun p=>(p.2,p.1)).take k:=by
   unfold left;rw [List.filter_eq_self.2];intro x hx;obtain⟨h1,h2⟩:=(fQ (ops:=l.toArray)).1 hx;have:=(Array.getElem?_eq_some_iff.1 h2).1;have hj':x.1<l.length:=by simpa using this
   simp [hj']
  rw [this];exact h1
 ·obtain⟨hdef,hn,m,h1,h2,h3,h4,h5⟩:=hs;exact⟨hdef,hn,m,⟨h1.at',h1.base⟩,⟨h2.1,h2.2⟩,h3.drw,h4,h5⟩
end
abbrev Pq:=Rat×Rat
def rg (p q:Pq):Int:=if p.1=q.1 then(p.2-q.2).num.sign else(p.1-q.1).num.sign
def plt (p q:Pq):Bool:=decide (rg p q<0)
theorem tx {p q:Pq}:rg p q=0↔p=q:=by
 obtain⟨x,y⟩:=p;obtain⟨u,v⟩:=q;unfold rg;simp only [Prod.mk.injEq];split
 ·next h=>rw [ez];exact⟨fun e=>⟨h,e⟩,fun e=>e.2⟩
 ·next h=>rw [ez];exact⟨fun e=>absurd e h,fun e=>e.1⟩
def pat (out:List Pq) (p:Pq):Nat:=(out.takeWhile fun o=>plt o p).length
def mo (out:List Pq) (p:Pq):List Pq:=if out[pat out p]? = some p then out else out.take (pat out p)++p::out.drop (pat out p)
def srt (l:List Pq):List Pq:=l.foldl mo []
theorem DL (l:List Pq) (p:Pq):srt (l++[p])=mo (srt l) p:=by unfold srt;rw [List.foldl_append];rfl
theorem DK {l:List Pq}{k:Nat}{p:Pq}(h:l[k]? = some p):srt (l.take (k+1))=mo (srt (l.take k)) p:=by
 obtain⟨h1,h2⟩:=List.getElem?_eq_some_iff.1 h;rw [List.take_succ_eq_append_getElem h1,h2,DL]
theorem JS (out:List Pq) (p:Pq):pat out p≤out.length:=(List.takeWhile_sublist _).length_le
theorem qa {α:Type}{f:α→Bool}:∀{l:List α}{a:α},l[(l.takeWhile f).length]? = some a→f a=false
 | [],a,h=>by simp at h
 |b::l,a,h=>by
  rw [List.takeWhile_cons]at h;cases hb:f b with
  |true =>
   rw [if_pos hb]at h;exact qa (by simpa using h)
  |false =>
   rw [if_neg (by rw [hb];decide)]at h;simp at h;rw [←h];exact hb
theorem Dz {α:Type}{f:α→Bool}:∀{l:List α}{j:Nat}{a:α},l[j]? = some a→j<(l.takeWhile f).length→f a=true
 | [],j,a,h,_=>by simp at h
 |b::l,j,a,h,hj=>by
  rw [List.takeWhile_cons]at hj;cases hb:f b with
  |false=>rw [if_neg (by rw [hb];decide)]at hj;simp at hj
  |true =>
   rw [if_pos hb,List.length_cons]at hj;cases j with
   |zero=>simp at h;rw [←h];exact hb
   |succ j=>exact Dz (by simpa using h) om
theorem En {out:List Pq}{p o:Pq}{j:Nat}(hj:j≤pat out p) (ho:out[j]? = some o):(plt o p=true→j+1≤pat out p)∧(plt o p=false→j=pat out p):=by
 constructor
 ·intro h;rcases Nat.lt_or_ge j (pat out p)with hl|hl
  ·exact hl
  ·have e:j=pat out p:=by omega
   rw [e]at ho;have:=qa (f:=fun o=>plt o p) ho;rw [h]at this;cases this
 ·intro h;rcases Nat.lt_or_ge j (pat out p)with hl|hl
  ·have:=Dz (f:=fun o=>plt o p) ho hl;rw [h]at this;cases this
  ·omega
theorem Em (out:List Pq) (p:Pq):(mo out p).length≤out.length+1:=by
 unfold mo;split
 ·omega
 ·rw [List.length_append,List.length_cons,List.length_take,List.length_drop];omega
theorem Ac:∀(l:List Pq),(srt l).length≤l.length:=by
 have h:∀(l out:List Pq),(l.foldl mo out).length≤out.length+l.length:=by
  intro l;induction l with
  |nil=>intro out;simp
  |cons a l ih=>intro out;have:=ih (mo out a);have:=Em out a;simp only [List.foldl_cons,List.length_cons];omega
 intro l;have:=h l [];simpa [srt] using this
theorem El {out:List Pq}{p q:Pq}:q∈mo out p↔q=p∨q∈out:=by
 unfold mo;split
 ·next h =>
  have hm:=List.mem_of_getElem? h;constructor
  ·exact .inr
  ·rintro (rfl|h')
   ·exact hm
   ·exact h'
 ·rw [List.mem_append,List.mem_cons];constructor
  ·rintro (h|h|h)
   ·exact .inr (List.mem_of_mem_take h)
   ·exact .inl h
   ·exact .inr (List.mem_of_mem_drop h)
  ·rintro (h|h)
   ·exact .inr (.inl h)
   ·rw [←List.take_append_drop (pat out p) out,List.mem_append]at h;rcases h with h|h
    ·exact .inl h
    ·exact .inr (.inr h)
theorem Aa (l:List Pq) (q:Pq):q∈srt l↔q∈l:=by
 have h:∀(l out:List Pq),q∈l.foldl mo out↔q∈out∨q∈l:=by
  intro l;induction l with
  |nil=>intro out;simp
  |cons a l ih =>
   intro out;rw [List.foldl_cons,ih,El,List.mem_cons];constructor
   ·rintro ((h|h)|h)
    ·exact .inr (.inl h)
    ·exact .inl h
    ·exact .inr (.inr h)
   ·rintro (h|h|h)
    ·exact .inl (.inr h)
    ·exact .inl (.inl h)
    ·exact .inr h
 unfold srt;rw [h];simp
def dst (l:List Pq):List Pq:=l.foldl (fun out p=>if p∈out then out else out++[p]) []
theorem tF {α:Type} [DecidableEq α]:∀{a b:List α},a.Nodup→(∀q∈a,q∈b)→a.length≤b.length
 | [],b,_,_=>Nat.zero_le _
 |x::a,b,h,hs=>by
  obtain⟨h1,h2⟩:=List.nodup_cons.1 h;have hx:=hs x Ms;have:=tF (b:=b.erase x) h2 fun q hq=>(List.mem_erase_of_ne (fun e=>h1 (by rw [←e];exact hq))).2 (hs q (Mc hq))
  rw [List.length_erase_of_mem hx]at this;have:0<b.length:=List.length_pos_of_mem hx;rw [List.length_cons];omega
end Go.Ab
