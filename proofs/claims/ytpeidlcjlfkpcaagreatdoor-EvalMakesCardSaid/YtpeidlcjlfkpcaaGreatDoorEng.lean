/- An abstract machine over the walk calculus: frame slots hold monotone predicates on values, local mutable blocks stand in a list, all else is unchanging memory. Every law holds of every program. -/
import Derived.Test.YtpeidlcjlfkpcaaGreatDoorEngA
set_option linter.all false
set_option maxHeartbeats 16000000
namespace Go.Ab
variable [Base]
attribute [local semireducible] WP WPL OpV Pu j8 rG scQ FP
abbrev NO':=Nat×Oper
structure NW where
 idx:Nat
 d:Nat
 T:TypeId
 z:List SV
 val:Nat→Value
def Fy:Op→Bool
 | .extract _ _=>true
 |_=>false
def rM (P:Program) (op:Op) (F:Fr) (T:TypeId) (z:List SV) (mk:Nat→Value):Prop :=
 ∀(w:World) (o:Oper) (a:Act),o.op=op→(∃m:Mem,∀t, .tmp t∈op.operands→(F t).p m (a.eval (.tmp t)))→
  ∃arr:Array Value,(execOp a.eval o).run P w = .ok (.value (mk w.heap.size)) (w.alloc (.cells arr T))∧∀m:Mem,(∀t, .tmp t∈op.operands→(F t).p m (a.eval (.tmp t)))→bk m z arr.toList
theorem rM.congr {P:Program}{op:Op}{F F':Fr}{T:TypeId}{z:List SV}{mk:Nat→Value}(h:rM P op F T z mk) (k:∀t, .tmp t∈op.operands→F t=F' t):rM P op F' T z mk:=fun w o a ho ⟨m,hm⟩=>by
 obtain⟨arr,h1,h2⟩:=h w o a ho ⟨m,fun t ht=>by rw [k t ht];exact hm t ht⟩;exact⟨arr,h1,fun m hm=>h2 m fun t ht=>by rw [k t ht];exact hm t ht⟩
def o6 (ops:Array Oper) (k i:Nat):Bool:=match ops[i]? with
 |some o=>match o.dst with
  |some d=>(List.range k).all fun j=>Nat.beq j i||match ops[j]? with
   |some x => !(x.looksAt ops).contains d && !(x.dst==some d)
   |none=>true
  |none=>false
 |none=>false
inductive DS (P:Program) (ops:Array Oper) (n:Nat) (H:LH) (o:Oper) (F:Fr) (sv:SV):Prop
 |plain (hg:o.guard=none) (hop:OpV P o.op o.type F H sv)
 |met {j:Nat}{t:Bool}{oj:Oper}{dj:Nat}(hg:o.guard=some (j,t)) (hj:ops[j]? = some oj) (hdj:oj.dst=some dj) (hf:F dj=lit (.bool t)) (hdn:Nat.blt dj n=true) (hop:OpV P o.op o.type F H sv)
 |unmet {j:Nat}{t t':Bool}{oj:Oper}{dj:Nat}(hg:o.guard=some (j,t)) (hj:ops[j]? = some oj) (hdj:oj.dst=some dj) (hf:F dj=lit (.bool t')) (hne:(t'==t)=false) (hdn:Nat.blt dj n=true) (hsv:sv=lit undef)
 |unmetU {j:Nat}{t:Bool}{oj:Oper}{dj:Nat}(hg:o.guard=some (j,t)) (hj:ops[j]? = some oj) (hdj:oj.dst=some dj) (hf:F dj=lit undef) (hdn:Nat.blt dj n=true) (hsv:sv=lit undef)
inductive Dr (P:Program) (ops:Array Oper) (n:Nat) (H:LH):List NO'→List NW→Fr→Fr→Prop
 |nil (F:Fr):Dr P ops n H [] [] F F
 |val {i d:Nat}{o:Oper}{sv:SV}{r:List NO'}{N:List NW}{F F':Fr}(hd:o.dst=some d) (hds:DS P ops n H o F sv) (hdn:Nat.blt d n=true) (h:Dr P ops n H r N (upd F d sv) F') :
   Dr P ops n H ((i,o)::r) N F F'
 |new {i d:Nat}{o:Oper}{T:TypeId}{z:List SV}{mk:Nat→Value}{r:List NO'}{N:List NW}{F F':Fr}(hd:o.dst=some d) (hg:o.guard=none) (hnx:Fy o.op=false) (hT:rM P o.op F T z mk) (hdn:Nat.blt d n=true) (h:Dr P ops n H r N F F') :
   Dr P ops n H ((i,o)::r) (⟨i,d,T,z,mk⟩::N) F F'
def iR:List NW→(Nat→Nat)→Fr→Fr
 | [],_,F=>F
 |e::r,nm,F=>upd (iR r nm F) e.d (lit (e.val (nm e.idx)))
def oW (N:List NW) (nm:Nat→Nat):LH:=N.map fun e=>(nm e.idx,e.T,e.z)
theorem bz {F:Fr}{d t:Nat}{s:SV}(h:t≠d):upd F d s t=F t:=by
 unfold upd
 have:Nat.beq t d=false:=by
  cases hb:Nat.beq t d with
  |false=>rfl
  |true=>exact absurd (bA hb) h
 rw [this];rfl
theorem bS {F:Fr}{d:Nat}{s:SV}:upd F d s d=s:=by unfold upd;rw [cY];rfl
theorem xS {F:Fr}{d e:Nat}{s u:SV}(h:d≠e):upd (upd F d s) e u=upd (upd F e u) d s:=by
 funext t
 by_cases h1:t=d
 ·subst h1;rw [bz h,bS,bS]
 ·by_cases h2:t=e
  ·subst h2;rw [bS,bz h1,bS]
  ·rw [bz h2,bz h1,bz h1,bz h2]
theorem xT {N:List NW}{nm:Nat→Nat}{F:Fr}{d:Nat}{s:SV}(h:∀e∈N,e.d≠d):iR N nm (upd F d s)=upd (iR N nm F) d s:=by
 induction N with
 |nil=>rfl
 |cons e N ih =>
  simp only [iR];rw [ih fun x hx=>h x (by simp [hx])];exact xS (h e (by simp)).symm
theorem Be {N:List NW}{nm:Nat→Nat}{F:Fr}{t:Nat}(h:∀e∈N,e.d≠t):iR N nm F t=F t:=by
 induction N with
 |nil=>rfl
 |cons e N ih =>
  simp only [iR];rw [bz (h e (by simp)).symm];exact ih fun x hx=>h x (by simp [hx])
theorem vI {N N':List NW}{nm:Nat→Nat}{F:Fr}(hp:N.Perm N') (hd:N.Pairwise fun a b=>a.d≠b.d):iR N nm F=iR N' nm F:=by
 induction hp with
 |nil=>rfl
 |cons x _ ih=>simp only [iR];rw [ih (eC.1 hd).2]
 |swap x y l =>
  simp only [iR];exact xS ((eC.1 hd).1 x (by simp)).symm
 |trans h1 _ ih1 ih2=>exact(ih1 hd).trans (ih2 ((h1.pairwise_iff (fun h=>h.symm)).1 hd))
theorem Ge {N:List NW}{nm nm':Nat→Nat}{F:Fr}(h:∀e∈N,nm e.idx=nm' e.idx):iR N nm F=iR N nm' F:=by
 induction N with
 |nil=>rfl
 |cons e N ih=>simp only [iR];rw [ih fun x hx=>h x (by simp [hx]),h e (by simp)]
theorem HF {N:List NW}{nm nm':Nat→Nat}(h:∀e∈N,nm e.idx=nm' e.idx):oW N nm=oW N nm':=vw fun e he=>by rw [h e he]
section
variable {P:Program}{C:Ctx}{n:Nat}{F F':Fr}{H:LH}{ops:Array Oper}{Q:Exit→Fr→LH→Prop}
theorem HOk.perm {m:Mem}{w:World}{H H':LH}(h:HOk m w H) (hp:H.Perm H'):HOk m w H' :=
 ⟨(hp.map _).nodup_iff.1 h.1,fun e he=>h.2 e (hp.mem_iff.2 he)⟩
theorem St.perm {a:Act}{w:World}{H':LH}(hs:St C n F H a w) (hp:H.Perm H'):St C n F H' a w:=by
 obtain⟨hdef,hn,m,h1,h2,h3,h4,h5⟩:=hs;exact⟨hdef,hn,m,h1,h2.perm hp,h3,fun e he=>h4 e (hp.mem_iff.2 he),h5⟩
theorem HOk.tail {m:Mem}{w:World}{H1 H2:LH}(h:HOk m w (H1++H2)):HOk m w H2:=by
 refine⟨?_,fun e he=>h.2 e (by simp [he])⟩;have:=h.1;rw [aH]at this;exact(jh.1 this).2.1
def edge (ops:Array Oper) (i j:Nat):Bool:=match ops[i]? with
 |some o=>o.after.any fun e=>Nat.beq e.on j&&Region.binds .any e
 |none=>false
def oK (ops:Array Oper) (i j:Nat):Bool:=match ops[i]?,ops[j]? with
 |some x,some y=>x.apart ops y
 |_,_=>false
def lY (ops:Array Oper) (i:Nat):Bool:=match ops[i]? with
 |some o=>o.after.all fun e => !Region.binds .any e||Nat.blt e.on i
 |none=>false
theorem OpV.frame {op:Op}{ty:TypeId}{F F':Fr}{sv:SV}{o:Oper}(h:OpV P op ty F H sv) (ho:o.op=op) (k:∀t,t∈o.looksAt ops→F t=F' t):OpV P op ty F' H sv :=
 h.congr fun t ht=>k t (cG _ (vv.2 ⟨.tmp t,by rw [ho];simpa using ht,rfl⟩))
theorem DS.frame {o:Oper}{sv:SV}(h:DS P ops n H o F sv) (k:∀t,t∈o.looksAt ops→F t=F' t):DS P ops n H o F' sv:=by
 have mem:∀{j:Nat}{t:Bool}{oj:Oper}{dj:Nat},o.guard=some (j,t)→ops[j]? = some oj→oj.dst=some dj→dj∈o.looksAt ops:=fun hg hj hdj =>
  cN _ (by rw [hg];simp [hj,hdj])
 cases h with
 |plain hg hop=>exact .plain hg (hop.frame rfl k)
 |met hg hj hdj hf hdn hop=>exact .met hg hj hdj (k _ (mem hg hj hdj)▸hf) hdn (hop.frame rfl k)
 |unmet hg hj hdj hf hne hdn hsv=>exact .unmet hg hj hdj (k _ (mem hg hj hdj)▸hf) hne hdn hsv
 |unmetU hg hj hdj hf hdn hsv=>exact .unmetU hg hj hdj (k _ (mem hg hj hdj)▸hf) hdn hsv
theorem DS.wp {o:Oper}{sv:SV}{i d:Nat}{a:Act}{w:World}{m:Mem}{Q':Exit→Act→World→Prop}{K':Act→World→Prop}(h:DS P ops n H o F sv) (ho:ops[i]? = some o) (hd:o.dst=some d) (hn:n≤a.tmps.size)
  (h1:dD m w) (h2:HOk m w H) (h5:∀t,(F t).p m (a.tmps.getD t undef)) (hK:∀v m' w',sv.p m' v→dD m' w'→HOk m' w' H→Rel (keys H) m w m' w'→K' (a.put (some d) v) w'):wpOp P ops Q' i K' a w:=by
 have yl:∀{j dj:Nat}{t:Bool}{oj:Oper},ops[j]? = some oj→oj.dst=some dj→F dj=lit (.bool t)→Nat.blt dj n=true→yielded ops a.tmps j=some t:=fun {j dj t oj} hj hdj hf hdn=>by
  have h:=h5 dj;rw [hf,ap]at h;have hlt:dj<a.tmps.size:=cQ (ay.mp hdn) hn
  have:a.tmps[dj]? = some (.bool t):=by
   rw [vG hlt];simp [hlt]at h;rw [h]
  simp [yielded,hj,hdj,this]
 unfold wpOp;rw [ho];cases h with
 |plain hg hop =>
  simp only [Region.wanted,hg,aV];exact .inl (hop m w o a rfl rfl h1 h2 (fun t _=>h5 t) _ _ fun v m' w' q1 q2 q3 q4=>by rw [hd];exact hK v m' w' q1 q2 q3 q4)
 |met hg hj hdj hf hdn hop =>
  have hy:=yl hj hdj hf hdn;simp only [Region.wanted,hg,hy,nf,aV];exact .inl (hop m w o a rfl rfl h1 h2 (fun t _=>h5 t) _ _ fun v m' w' q1 q2 q3 q4=>by rw [hd];exact hK v m' w' q1 q2 q3 q4)
 |unmet hg hj hdj hf hne hdn hsv =>
  have hy:=yl hj hdj hf hdn;have hw:Region.wanted o (yielded ops a.tmps)=false:=by simp only [Region.wanted,hg,hy];simpa using hne
  simp only [hw,bE,aO];rw [hd];exact hK undef m w (by rw [hsv];exact ap.2 rfl) h1 h2 (Rel.refl _ _ _)
 | @unmetU j t oj dj hg hj hdj hf hdn hsv =>
  have hy:yielded ops a.tmps j=none:=u5 (a:=a) hj hdj (by have h:=h5 dj;rw [hf,ap]at h;exact h);have hw:Region.wanted o (yielded ops a.tmps)=false:=by simp only [Region.wanted,hg,hy];rfl
  simp only [hw,bE,aO];rw [hd];exact hK undef m w (by rw [hsv];exact ap.2 rfl) h1 h2 (Rel.refl _ _ _)
theorem ry {o:Oper}{t:Nat}(h : .tmp t∈o.op.operands):t∈o.looksAt ops:=cG _ (vv.2 ⟨.tmp t,by simpa using h,rfl⟩)
theorem Dr.pick {x:NO'}{d:Nat}(hd:x.2.dst=some d):∀{l1 l2:List NO'}{N:List NW}{F F':Fr},(∀y∈l1,x.2.apart ops y.2=true)→Dr P ops n H (l1++x::l2) N F F'→
  (∃sv,Nat.blt d n=true∧DS P ops n H x.2 F sv∧Dr P ops n H (l1++l2) N (upd F d sv) F')∨
  ∃(N1 N2:List NW) (e:NW),N=N1++e::N2∧e.idx=x.1∧e.d=d∧x.2.guard=none∧Nat.blt d n=true∧rM P x.2.op F e.T e.z e.val∧Dr P ops n H (l1++l2) (N1++N2) F F':=by
 intro l1;induction l1 with
 |nil =>
  intro l2 N F F' _ h;cases h with
  |val hd' hds hdn h=>rw [hd]at hd';cases hd';exact .inl ⟨_,hdn,hds,h⟩
  |new hd' hg hnx hT hdn h=>rw [hd]at hd';cases hd';exact .inr ⟨[],_,_,rfl,rfl,rfl,hg,hdn,hT,h⟩
 |cons y l1 ih =>
  intro l2 N F F' hap h;have hy:=hap y (by simp);obtain⟨a1,a2,a3⟩:=Oper.apart_spec hy;cases h with
  |val hd' hds hdn h =>
   rename_i i dy o sv;simp only at hy a1 a2 a3;have hne:d≠dy:=fun e=>a2 d hd (by rw [hd',e])
   rcases ih (fun z hz=>hap z (by simp [hz])) h with⟨svx,hdx,hox,h'⟩|⟨N1,N2,e,h1,h2,h3,h4,h6,h7,h8⟩
   ·refine .inl ⟨svx,hdx,hox.frame fun t ht=>bz fun e=>a3 dy hd' (e▸ht),?_⟩;rw [xS hne.symm]at h';exact Dr.val hd' (hds.frame fun t ht=>(bz (F:=F) (d:=d) (s:=svx) (t:=t) fun e=>a1 d hd (by rw [←e];exact ht)).symm) hdn h'
   ·exact .inr ⟨N1,N2,e,h1,h2,h3,h4,h6,h7.congr fun t ht=>bz fun e=>a3 dy hd' (e▸ry ht),Dr.val hd' hds hdn h8⟩
  |new hd' hg hnx hT hdn h =>
   rename_i i dy o T z mk N;simp only at hy a1 a2 a3;rcases ih (fun z hz=>hap z (by simp [hz])) h with⟨svx,hdx,hox,h'⟩|⟨N1,N2,e,h1,h2,h3,h4,h6,h7,h8⟩
   ·exact .inl ⟨svx,hdx,hox,Dr.new hd' hg hnx (hT.congr fun t ht=>(bz (F:=F) (d:=d) (s:=svx) (t:=t) fun e=>a1 d hd (by rw [←e];exact ry ht)).symm) hdn h'⟩
   ·exact .inr ⟨_::N1,N2,e,by rw [h1];rfl,h2,h3,h4,h6,h7,Dr.new hd' hg hnx hT hdn h8⟩
theorem pB {k i j:Nat}{x o:Oper}{d:Nat}(h:o6 ops k i=true) (hi:ops[i]? = some o) (hd:o.dst=some d) (hj:ops[j]? = some x) (hjk:j<k) (hne:j≠i):d∉x.looksAt ops∧x.dst≠some d:=by
 unfold o6 at h;rw [hi]at h;simp only [hd,fQ,dE]at h;have h1:=h j hjk
 have h2:Nat.beq j i=false:=by
  cases hb:Nat.beq j i with
  |false=>rfl
  |true=>exact absurd (bA hb) hne
 rw [hj]at h1;simp only [h2,aW,bG,fw,beq_eq_false_iff_ne,ne_eq]at h1;exact⟨fun hm=>(by have:=fv.2 hm;rw [h1.1]at this;cases this),h1.2⟩
theorem Dr.nw {l:List NO'}{N:List NW}{F F':Fr}(h:Dr P ops n H l N F F'):∀e∈N,∃o,(e.idx,o)∈l∧o.dst=some e.d:=by
 induction h with
 |nil=>intro e he;cases he
 |val _ _ _ _ ih=>intro e he;obtain⟨o,h1,h2⟩:=ih e he;exact⟨o,Mc h1,h2⟩
 |new hd _ _ _ _ _ ih =>
  intro e he;rcases ak.1 he with rfl|he
  ·exact⟨_,Ms,hd⟩
  ·obtain⟨o,h1,h2⟩:=ih e he;exact⟨o,Mc h1,h2⟩
theorem Dr.dst {l:List NO'}{N:List NW}{F F':Fr}(h:Dr P ops n H l N F F'):∀x∈l,∃d,x.2.dst=some d:=by
 induction h with
 |nil=>intro e he;cases he
 |val hd _ _ _ ih=>intro e he;rcases ak.1 he with rfl|he;exact⟨_,hd⟩;exact ih e he
 |new hd _ _ _ _ _ ih=>intro e he;rcases ak.1 he with rfl|he;exact⟨_,hd⟩;exact ih e he
def left (ops:Array Oper) (k:Nat) (listed:Array Bool):List NO':=((ops.toList.zipIdx.map fun p=>(p.2,p.1)).take k).filter fun x => !listed.getD x.1 true
theorem qz {i:Nat}{o:Oper}{k:Nat}:(i,o)∈(ops.toList.zipIdx.map fun p=>(p.2,p.1)).take k↔i<k∧ops[i]? = some o:=by
 rw [←mW,aj];constructor
 ·rintro ⟨p,hp,he⟩;rw [zM]at hp;obtain⟨j,hj,hpj⟩:=hp;simp only [List.getElem_zipIdx]at hpj;subst hpj;simp only [cP]at he;obtain⟨h1,h2⟩:=he;simp at h1;subst h1;refine⟨om,?_⟩;rw [←h2];simp at hj⊢
 ·rintro ⟨h1,h2⟩;obtain⟨h3,h4⟩:=dt.1 h2;refine⟨(o,i),?_,rfl⟩;rw [zM];exact⟨i,by simp;omega,by simp [h4]⟩
theorem wH {i j:Nat}{listed:Array Bool}(hr:i∈Region.ready .any ops listed) (he:edge ops i j=true):listed.getD j false=true:=by
 obtain⟨_,o,ho,hall⟩:=mem_ready.1 hr;unfold edge at he;rw [ho]at he;simp only at he;obtain⟨q,hq,hx⟩:=Array.any_eq_true.1 he;simp only [bG]at hx;have:=hall o.after[q] (Array.getElem_mem hq) hx.2;rwa [bA hx.1]at this
theorem ee {j:Nat}{listed:Array Bool}(hs:listed.size=ops.size) (hj:j<ops.size) (h:listed.getD j false=true):listed.getD j true=true:=by
 simp [hs,hj]at h⊢;exact h
theorem jT {i:Nat}{o:Oper}(h:lY ops i=true) (ho:ops[i]? = some o):∀e∈o.after,Region.binds .any e=true→e.on<i:=fun e he hb=>by
 unfold lY at h;rw [ho]at h;simp only at h;obtain⟨q,hq,rfl⟩:=Array.mem_iff_getElem.1 he;have:=Array.all_eq_true.1 h q hq;simp only [hb,kU,aW,ay]at this;exact this
theorem fO (k:Nat) (listed:Array Bool):(left ops k listed).Pairwise fun x y=>x.1<y.1:=by
 unfold left;refine mV List.filter_sublist (mV (rO _ _) ?_);rw [p5];intro i j hi hj hij;simp;exact hij
theorem cq {k:Nat}{listed:Array Bool}{x:NO'}:x∈left ops k listed↔x.1<k∧ops[x.1]? = some x.2∧listed.getD x.1 true=false:=by
 obtain⟨i,o⟩:=x;unfold left;rw [cW,qz];simp [and_assoc]
theorem pD {k i:Nat}{o:Oper}{listed:Array Bool}{l1 l2:List NO'}(hs:listed.size=ops.size) (hi:i<ops.size) (h:left ops k listed=l1++(i,o)::l2):left ops k (listed.setIfInBounds i true)=l1++l2:=by
 have e1:left ops k (listed.setIfInBounds i true)=(left ops k listed).filter fun x => !Nat.beq x.1 i:=by
  unfold left;rw [List.filter_filter];refine List.filter_congr fun x _=>?_
  by_cases hx:i=x.1
  ·subst hx;simp [hs,hi,cY]
  ·rw [getD_set_ne true hx]
   have:Nat.beq x.1 i=false:=by
    cases hb:Nat.beq x.1 i with
    |false=>rfl
    |true=>exact absurd (bA hb).symm hx
   simp [this]
 have hsort:=fO (ops:=ops) k listed;rw [h]at hsort;rw [e1,h,List.filter_append,List.filter_cons];simp only [cY,kU,bE,aO];rw [jM]at hsort;obtain⟨_,hs2,hs3⟩:=hsort
 have ne:∀x:NO',x.1≠i→(!Nat.beq x.1 i)=true:=fun x hx=>by
  cases hb:Nat.beq x.1 i with
  |false=>rfl
  |true=>exact absurd (bA hb) hx
 rw [rN.2 fun x hx=>ne x (by have:=hs3 x hx (i,o) (by simp);simp at this;omega),
  rN.2 fun x hx=>ne x (by have:=(eC.1 hs2).1 x hx;simp at this;omega)]
theorem Dr.sub {l:List NO'}{N:List NW}{F F':Fr}(h:Dr P ops n H l N F F'):(N.map (·.idx)).Sublist (l.map (·.1)):=by
 induction h with
 |nil=>exact List.Sublist.slnil
 |val _ _ _ _ ih=>exact Sc ih
 |new _ _ _ _ _ _ ih=>exact List.Sublist.cons_cons _ ih
theorem zz {i j:Nat}{x y:Oper}(hx:ops[i]? = some x) (hy:ops[j]? = some y) (h:oK ops i j=true):x.apart ops y=true:=by
 unfold oK at h;rw [hx,hy]at h;exact h
def HI (ops:Array Oper) (i:Nat):Nat:=match ops[i]? with
 |some o=>o.after.toList.foldl (fun m e=>bif Region.binds .any e then m ||| 2^e.on else m) 0
 |none=>0
def JC (ops:Array Oper):Nat→Nat→Nat
 |0,S=>S
 |k+1,S=>JC ops k (bif S.testBit k then S ||| HI ops k else S)
def da (ops:Array Oper) (i j:Nat):Bool:=(JC ops i (HI ops i)).testBit j
theorem qK {i j:Nat}(h:(HI ops i).testBit j=true):edge ops i j=true:=by
 unfold HI at h;unfold edge;cases ho:ops[i]? with
 |none=>rw [ho]at h;simp at h
 |some o =>
  rw [ho]at h;simp only at h⊢;rw [←Array.any_toList]
  have g:∀(l:List Edge) (m:Nat),(l.foldl (fun m e=>bif Region.binds .any e then m ||| 2^e.on else m) m).testBit j=true→m.testBit j=true∨(l.any fun e=>Nat.beq e.on j&&Region.binds .any e)=true:=by
   intro l;induction l with
   |nil=>intro m h;exact .inl h
   |cons e l ih =>
    intro m h;rw [gX]at h;rcases ih _ h with h|h
    ·cases hb:Region.binds .any e with
     |false=>rw [hb]at h;exact .inl h
     |true =>
      rw [hb]at h;simp only [iB,tv,bO,Nat.testBit_two_pow]at h;rcases h with h|h
      ·exact .inl h
      ·right;simp only [nP,bO,bG];left;have:=fS h;rw [this];exact⟨cY j,hb⟩
    ·right;simp only [nP,bO];exact .inr h
  rcases g _ _ h with h|h
  ·simp at h
  ·exact h
def jZ (ops:Array Oper) (listed:Array Bool):Prop:=∀m j,listed.getD m false=true→edge ops m j=true→listed.getD j false=true
theorem bV {i j:Nat}{listed:Array Bool}(hcl:jZ ops listed) (hr:i∈Region.ready .any ops listed) (he:da ops i j=true):listed.getD j false=true:=by
 have on:∀(k S:Nat),(∀j,S.testBit j=true→listed.getD j false=true)→∀j,(JC ops k S).testBit j=true→listed.getD j false=true:=by
  intro k;induction k with
  |zero=>intro S hS j h;exact hS j h
  |succ k ih =>
   intro S hS j h;unfold JC at h;refine ih _ (fun j h=>?_) j h;cases hb:S.testBit k with
   |false=>rw [hb]at h;exact hS j h
   |true =>
    rw [hb]at h;simp only [iB,tv,bO]at h;rcases h with h|h
    ·exact hS j h
    ·exact hcl k j (hS k hb) (qK h)
 exact on i _ (fun j h=>wH hr (qK h)) j he
theorem jZ.step {i:Nat}{listed:Array Bool}(hcl:jZ ops listed) (hr:i∈Region.ready .any ops listed):jZ ops (listed.setIfInBounds i true):=fun m j hm he=>by
 have up:listed.getD j false=true→(listed.setIfInBounds i true).getD j false=true:=fun h=>by
  by_cases hij:i=j
  ·subst hij
   have hlt:i<listed.size:=by
    rcases aJ i listed.size with h1|h1
    ·exact h1
    ·simp [n6 h1]at h
   simp [hlt]
  ·rw [getD_set_ne false hij];exact h
 by_cases him:i=m
 ·subst him;exact up (wH hr he)
 ·rw [getD_set_ne false him]at hm;exact up (hcl m j hm he)
def C5 (ops:Array Oper) (k:Nat):Nat:=((List.range k).find? fun j => !da ops k j).getD 0
def HA (ops:Array Oper) (k f:Nat):Bool :=
  Nat.blt k ops.size&&Nat.blt f k&&((List.range ops.size).all fun i=>Nat.blt i k||(List.range i).all fun j=>da ops i j||(Nat.beq i k&&Nat.beq j f)) &&
  (match ops[f]?,ops[k]? with
   |some o,some o'=>Fy o.op&&o.guard.isNone&&o.apart ops o'&&(match o'.op with
     | .store _ _ _=>true
     |_=>false)
   |_,_=>false)
def qJ (ops:Array Oper) (k:Nat):Bool :=
 Nat.ble k ops.size &&
 ((List.range ops.size).all fun i=>lY ops i) &&
 ((List.range k).all fun i=>(List.range i).all fun j=>da ops i j||oK ops i j) &&
 (((List.range ops.size).all fun i=>Nat.blt i k||(List.range i).all fun j=>da ops i j)||HA ops k (C5 ops k))
theorem wJ {k:Nat}(h:qJ ops k=true):k≤ops.size∧(∀i,i<ops.size→lY ops i=true)∧(∀i,i<k→∀j,j<i→da ops i j=true∨oK ops i j=true)∧
  ∃f,(∀i,i<ops.size→k≤i→∀j,j<i→da ops i j=true∨(i=k∧j=f∧∃o o',ops[f]? = some o∧ops[k]? = some o'∧Fy o.op=true∧o.guard=none∧o.apart ops o'=true∧∀cs b,o'.op≠ .select cs b)):=by
 simp only [qJ,bG,fQ,dE,bO,fw,cg,ay]at h;obtain⟨⟨⟨h1,hb⟩,h2⟩,h3⟩:=h;refine⟨gY h1,hb,fun i hi j hj=>h2 i hi j hj,C5 ops k,fun i hi hk j hj=>?_⟩
 ·rcases h3 with h3|h3
  ·rcases h3 i hi with h|h
   ·omega
   ·exact .inl (h j hj)
  ·generalize C5 ops k=f at *;simp only [HA,bG,fQ,dE,bO,ay]at h3;obtain⟨⟨⟨_,hf⟩,h3⟩,h4⟩:=h3;rcases h3 i hi with h|h
   ·omega
   ·rcases h j hj with h|h
    ·exact .inl h
    ·refine .inr ⟨bA h.1,bA h.2,?_⟩;cases hof:ops[f]? with
     |none=>rw [hof]at h4;cases h4
     |some o =>
      cases hok:ops[k]? with
      |none=>rw [hof,hok]at h4;cases h4
      |some o' =>
       rw [hof,hok]at h4;simp only [bG,xK]at h4;refine⟨o,o',rfl,rfl,h4.1.1.1,h4.1.1.2,h4.1.2,fun cs b e=>?_⟩;rw [e]at h4;cases h4.2
theorem DP {o:Oper}{d:Nat}{sv:SV}{m:Mem}{w:World}{a:Act}(hex:Fy o.op=true) (hg:o.guard=none) (hd:o.dst=some d) (hlt:d<a.tmps.size) (hop:OpV P o.op o.type F H sv) (h1:dD m w) (h2:HOk m w H)
  (h3:∀t, .tmp t∈o.op.operands→(F t).p m (a.eval (.tmp t))):∃v,Yields P ops o v a∧∃m',sv.p m' v∧dD m' w∧HOk m' w H∧Rel (keys H) m w m' w:=by
 have hw:=hop m w o a rfl rfl h1 h2 h3 (fun a' w'=>∃v m',a'=a.put o.dst v∧sv.p m' v∧dD m' w'∧HOk m' w' H∧Rel (keys H) m w m' w') (fun _ _ _=>False) (fun v m' w' q1 q2 q3 q4=>⟨v,m',rfl,q1,q2,q3,q4⟩);obtain⟨dst,op,type,pos,after,guard⟩:=o;simp only at hg hd hop h3 hex hw;subst hg;subst hd;cases op with
 |extract x i =>
  have hrun:∀w,(execOp a.eval (⟨some d, .extract x i,type,pos,after,none⟩:Oper)).run P w=((do pure (Next.value (←Instr.extract (a.eval x) i))):Sem Next).run P w:=fun w=>by simp [execOp]
  unfold Oper.wp at hw;rw [hrun]at hw;cases hx:a.eval x with
  |tuple vs =>
   cases hv:vs[i]? with
   |some v =>
    have hr2:∀w,((do pure (Next.value (←Instr.extract (a.eval x) i))):Sem Next).run P w = .ok (.value v) w:=fun w=>by simp [Instr.extract,hx,hv]
    refine⟨v, .inl ⟨rfl,fun w=>(hrun w).trans (hr2 w)⟩,?_⟩;rw [hr2]at hw;obtain⟨v',m',e,q⟩:=hw
    have hvv:v=v':=by
     have e1:=congrArg (fun b:Act=>b.tmps[d]?) e;simpa [Act.put,hlt] using e1
    exact⟨m',hvv▸q⟩
   |none=>simp [Instr.extract,hx,hv,stuck,Sem.run_halt,Oper.upon]at hw
  |_=>simp [Instr.extract,hx,stuck,Sem.run_halt,Oper.upon]at hw
 |_=>cases hex
theorem Jw {Q':Exit→Act→World→Prop}{k:Nat}{N0:List NW}(hchk:qJ ops k=true) (hQ:∀c (a:Act) d v w,Q' (.panic c) (a.put d v) w→Q' (.panic c) a w) (hN:∀e∈N0,∃o,ops[e.idx]? = some o∧e.idx<k∧o.dst=some e.d∧o6 ops k e.idx=true)
  (hd0:N0.Pairwise fun a b=>a.d≠b.d) (hi0:N0.Pairwise fun a b=>a.idx≠b.idx)
  (fin:∀nm a w,St C n (iR N0 nm F') (oW N0 nm++H) a w→wpList P ops Q' (ops.toList.drop k) a w) :
  ∀(fuel:Nat) (listed:Array Bool) (a:Act) (w:World) (Nr E:List NW) (nm:Nat→Nat) (F:Fr),(left ops k listed).length+(ops.size-k)≤fuel→listed.size=ops.size→jZ ops listed→
   (∀j,k≤j→j<ops.size→listed.getD j true=false)→Dr P ops n H (left ops k listed) Nr F F'→(E++Nr).Perm N0→(∀e∈E,listed.getD e.idx true=true)→St C n (iR E nm F) (oW E nm++H) a w→
   wpAny P .any ops Q' fuel listed a w:=by
 obtain⟨hk,hback,hpre,f,htail⟩:=wJ hchk
 have tail_at:∀(fuel t:Nat) (listed:Array Bool) (a:Act) (w:World),k≤t→listed.size=ops.size→jZ ops listed→ops.size-t≤fuel→(∀j,j<t→listed.getD j true=true)→(∀j,t≤j→j<ops.size→listed.getD j true=false)→
   wpList P ops Q' (ops.toList.drop t) a w→wpAny P .any ops Q' fuel listed a w:=by
  intro fuel;induction fuel with
  |zero =>
   intro t listed a w hkt hs hcl hfu h1 h2 h;have ht:ops.size≤t:=by omega
   refine⟨?_,?_⟩
   ·cases hr:Region.ready .any ops listed with
    |nil=>rfl
    |cons x xs =>
     have hx:x∈Region.ready .any ops listed:=by rw [hr];simp
     obtain⟨h0,o,ho,_⟩:=mem_ready.1 hx;have:=(dt.1 ho).1;rw [h1 x om]at h0;cases h0
   ·rw [fR (by simpa using ht)]at h;exact h
  |succ fuel ih =>
   intro t listed a w hkt hs hcl hfu h1 h2 h
   have only:∀i∈Region.ready .any ops listed,i=t∧t<ops.size:=fun i hi=>by
    obtain⟨h0,o,ho,_⟩:=mem_ready.1 hi;have hlt:=(dt.1 ho).1
    have hge:t≤i:=by
     rcases aJ i t with h|h
     ·rw [h1 i h]at h0;cases h0
     ·exact h
    rcases aJ t i with hlt'|hle
    ·rcases htail i hlt om t hlt' with he|⟨_,he,_⟩
     ·have:=bV hcl hi he;have:=ee hs (by omega:t<ops.size) this;rw [h2 t (au _) om]at this;cases this
     ·omega
    ·exact⟨om,om⟩
   refine⟨fun hr=>?_,fun i hi=>?_⟩
   ·rcases aJ t ops.size with hlt|hge
    ·exfalso
     have hmem:t∈Region.ready .any ops listed:=by
      rw [mem_ready];refine⟨h2 t (au _) hlt,ops[t],by simp [hlt],fun e he hb=>?_⟩;have hlt':=jT (hback t hlt) (by simp [hlt]:ops[t]? = some ops[t]) e he hb;have:=h1 e.on hlt';have hsz:e.on<listed.size:=by omega
      simp [hsz]at this⊢;exact this
     rw [hr]at hmem;cases hmem
    ·rw [fR (by simpa using hge)]at h;exact h
   ·obtain⟨rfl,hlt⟩:=only i hi;have ho:ops[i]? = some ops[i]:=by simp [hlt]
    have hd:ops.toList.drop i=ops[i]::ops.toList.drop (i+1):=by
     rw [jO (by simpa using hlt)];simp
    rw [hd]at h
    have hstep:wpOp P ops Q' i (fun a w=>wpList P ops Q' (ops.toList.drop (i+1)) a w) a w:=by
     unfold wpOp;rw [ho];exact h
    refine wpOp_mono (fun a' w' h'=>ih (i+1) (listed.setIfInBounds i true) a' w' om (by simpa using hs) (hcl.step hi) om (fun j hj=>?_) (fun j hj hjs=>?_) h') hstep
    ·by_cases hji:i=j
     ·subst hji;simp [hs,hlt]
     ·rw [getD_set_ne true hji];exact h1 j om
    ·rw [getD_set_ne true om];exact h2 j om hjs
 have done:∀(fuel:Nat) (listed:Array Bool) (a:Act) (w:World) (Nr E:List NW) (nm:Nat→Nat) (F:Fr),(left ops k listed)=[]→(ops.size-k)≤fuel→listed.size=ops.size→jZ ops listed→
   (∀j,k≤j→j<ops.size→listed.getD j true=false)→Dr P ops n H (left ops k listed) Nr F F'→(E++Nr).Perm N0→St C n (iR E nm F) (oW E nm++H) a w→
   wpAny P .any ops Q' fuel listed a w:=by
  intro fuel listed a w Nr E nm F hnil hfu hs hcl hl hdr hp hst;rw [hnil]at hdr;cases hdr;rw [bd]at hp;have hpw:E.Pairwise fun a b=>a.d≠b.d:=(hp.pairwise_iff (fun h=>h.symm)).2 hd0
  have hst':St C n (iR N0 nm F') (oW N0 nm++H) a w:=by
   rw [←vI hp hpw];exact hst.perm ((hp.map _).append_right _)
  refine tail_at fuel k listed a w (au _) hs hcl hfu (fun j hj=>?_) hl (fin nm a w hst');cases hb:listed.getD j true with
  |true=>rfl
  |false =>
   have:(j,ops[j])∈left ops k listed:=cq.2 ⟨hj,by simp,hb⟩;rw [hnil]at this;cases this
 intro fuel;induction fuel with
 |zero =>
  intro listed a w Nr E nm F hfu hs hcl hl hdr hp hEl hst;exact done 0 listed a w Nr E nm F (cT om) om hs hcl hl hdr hp hst
 |succ fuel ih =>
  intro listed a w Nr E nm F hfu hs hcl hl hdr hp hEl hst;by_cases hnil:left ops k listed=[]
  ·exact done (fuel+1) listed a w Nr E nm F hnil (by rw [hnil]at hfu;simpa using hfu) hs hcl hl hdr hp hst
  have hEN:∀e∈E,e∈N0:=fun e he=>hp.mem_iff.1 (by simp [he])
  refine⟨fun hr=>?_,fun i hi=>?_⟩
  ·exfalso;obtain⟨⟨i,o⟩,l',hcons⟩:=qi hnil;have hmem:(i,o)∈left ops k listed:=by rw [hcons];simp
   obtain⟨h1,h2,h3⟩:=cq.1 hmem
   have hready:i∈Region.ready .any ops listed:=by
    rw [mem_ready];refine⟨h3,o,h2,fun e he hb=>?_⟩;have hlt:=jT (hback i (by simp only at h1;omega)) h2 e he hb;cases hle:listed.getD e.on false with
    |true=>rfl
    |false =>
     have hsz:e.on<listed.size:=by simp only at h1;omega
     have h4:listed.getD e.on true=false:=by simp [hsz]at hle⊢;exact hle
     have hm2:(e.on,ops[e.on]' om)∈left ops k listed:=cq.2 ⟨by simp only at h1⊢;omega,by simp,h4⟩;have hsort:=fO (ops:=ops) k listed;rw [hcons]at hsort hm2;rcases ak.1 hm2 with h|h
     ·simp only [cP]at h;omega
     ·have:=(eC.1 hsort).1 _ h;simp at this;omega
   rw [hr]at hready;cases hready
  ·obtain⟨hun,o,ho,_⟩:=mem_ready.1 hi;have hlt:=(dt.1 ho).1
   have others:∀j,j<ops.size→k≤i→j<i→listed.getD j true=false→i=k∧j=f∧∃o o',ops[f]? = some o∧ops[k]? = some o'∧Fy o.op=true∧o.guard=none∧o.apart ops o'=true∧∀cs b,o'.op≠ .select cs b:=fun j hj hki hji hun'=>by
    rcases htail i hlt hki j hji with he|he
    ·have:=ee hs hj (bV hcl hi he);rw [hun']at this;cases this
    ·exact he
   rcases aJ i k with hik|hki
   ·skip
    have hmem:(i,o)∈left ops k listed:=cq.2 ⟨hik,ho,hun⟩;obtain⟨l1,l2,hl12⟩:=dA hmem;have hset:=pD hs hlt hl12;have hlen:(l1++l2).length+1=(left ops k listed).length:=by rw [hl12];simp;omega
    have hsort:=fO (ops:=ops) k listed;rw [hl12]at hsort
    have hbefore:∀y∈l1,o.apart ops y.2=true:=fun y hy=>by
     obtain⟨y1,y2,y3⟩:=cq.1 (by rw [hl12];simp [hy]:y∈left ops k listed)
     have hyi:y.1<i:=by
      rw [jM]at hsort;exact hsort.2.2 y hy (i,o) (by simp)
     rcases hpre i hik y.1 hyi with h|h
     ·have:=ee hs om (bV hcl hi h);rw [y3]at this;cases this
     ·exact zz ho y2 h
    have hEi:∀e∈E,e.idx≠i:=fun e he hei=>by
     have:=hEl e he;rw [hei,hun]at this;cases this
    have apartE:∀e∈E,e.d∉o.looksAt ops∧o.dst≠some e.d:=fun e he=>by
     obtain⟨oe,e1,e2,e3,e4⟩:=hN e (hEN e he);exact pB e4 e1 e3 ho hik (fun h=>hEi e he h.symm)
    have hEl':∀e∈E,(listed.setIfInBounds i true).getD e.idx true=true:=fun e he=>by
     rw [getD_set_ne true (fun h=>hEi e he h.symm)];exact hEl e he
    rw [hl12]at hdr
    have hl':∀j,k≤j→j<ops.size→(listed.setIfInBounds i true).getD j true=false:=fun j hj hjs=>by
     rw [getD_set_ne true om];exact hl j hj hjs
    obtain⟨d,hd⟩:=hdr.dst (i,o) (by simp);have hfr:∀t∈o.looksAt ops,F t=iR E nm F t:=fun t ht=>(Be fun e he hed=>(apartE e he).1 (hed▸ht)).symm
    have hdd:∀e∈E,e.d≠d:=fun e he hed=>(apartE e he).2 (by rw [hd,hed])
    rcases hdr.pick (x:=(i,o)) hd hbefore with⟨sv,hdn,hds,hdr'⟩|⟨N1,N2,e,hNr,hei,hed,hguard,hdn,hT,hdr'⟩
    ·have hds':=hds.frame hfr;obtain⟨hdef,hn,m,h1,h2,h3,h4,h5⟩:=hst;refine hds'.wp ho hd hn h1 h2.tail h5 fun v m' w' hv hm' hH' r=>?_
     refine ih _ _ _ Nr E nm (upd F d sv) (by rw [hset];omega) (by simpa using hs) (hcl.step hi) hl' (by rw [hset];exact hdr') hp hEl' ?_;rw [xT hdd];exact St.put (ay.mp hdn) hdef hn h2 h3 h4 h5 hv hm' (h2.beside hH' r) (r.mono fun b hb=>by unfold keys at *;rw [aH];exact cN _ hb)
    ·have hw:Region.wanted o (yielded ops a.tmps)=true:=by simp only [Region.wanted,(show o.guard=none from hguard)]
     unfold wpOp;simp only [ho,hw,aV];left;subst hNr;simp only at hei
     have hp':(e::E++(N1++N2)).Perm N0:=by
      refine List.Perm.trans ?_ hp;exact(lL (a:=e) (l₁:=E) (l₂:=N1++N2)).symm.trans ((lL (a:=e) (l₁:=N1) (l₂:=N2)).symm.append_left E)
     have hT':=hT.congr fun t ht=>hfr t (ry ht)
     have hfacts:∃m:Mem,∀t, .tmp t∈o.op.operands→(iR E nm F t).p m (a.eval (.tmp t)):=by
      obtain⟨_,_,m,_,_,_,_,h5⟩:=hst;exact⟨m,fun t _=>h5 t⟩
     obtain⟨arr,hrun,hall⟩:=hT' w o a rfl hfacts;unfold Oper.wp;rw [hrun];show wpAny P .any ops Q' fuel (listed.setIfInBounds i true) (a.put o.dst _) _
     rw [hd,←hed];have hpush:=St.push (T:=e.T) (arr:=arr) (v:=e.val w.heap.size) (ay.mp (hed▸hdn)) hst fun m hm=>hall m fun t _=>hm (.tmp t)
     refine ih _ _ _ (N1++N2) (e::E) (fun x=>if x=i then w.heap.size else nm x) F (by rw [hset];omega) (by simpa using hs) (hcl.step hi) hl' (by rw [hset];exact hdr') hp' (fun x hx=>?_) ?_
     ·rcases ak.1 hx with rfl|hx
      ·rw [hei];simp [hs,hlt]
      ·exact hEl' x hx
     have hnm:∀x∈E,nm x.idx=(fun x=>if x=i then w.heap.size else nm x) x.idx:=fun x hx=>by simp [hEi x hx]
     rw [show iR (e::E) (fun x=>if x=i then w.heap.size else nm x) F=upd (iR E nm F) e.d (lit (e.val w.heap.size))from by
      simp only [iR,hei,aV];rw [←Ge hnm]]
     rw [show oW (e::E) (fun x=>if x=i then w.heap.size else nm x)=(w.heap.size,e.T,e.z)::oW E nm from by
      have:=HF (N:=E) (nm:=nm) (nm':=fun x=>if x=i then w.heap.size else nm x) hnm;unfold oW at this⊢;rw [aD,←this];simp only [hei,aV]]
     exact hpush
   ·obtain⟨⟨j,oj⟩,l',hcons⟩:=qi hnil;obtain⟨h1,h2,h3⟩:=cq.1 (by rw [hcons];simp:(j,oj)∈left ops k listed);simp only at h1 h2 h3;obtain⟨rfl,rfl,of_,ok_,hof,hok,hex,hgn,hap,hsel⟩:=others j om hki om h3;rw [hof]at h2;cases h2
    have hl':l'=[]:=by
     cases l' with
     |nil=>rfl
     |cons y l'' =>
      exfalso;have hy:y∈left ops i listed:=by rw [hcons];simp
      obtain⟨y1,y2,y3⟩:=cq.1 hy;have:=(others y.1 om hki om y3).2.1;have hsort:=fO (ops:=ops) i listed;rw [hcons]at hsort;have:=(eC.1 hsort).1 y (by simp);simp at this;omega
    subst hl';rw [hcons]at hdr;cases hdr with
    |new hd hg hnx hT hdn h=>rw [hex]at hnx;cases hnx
    |val hd hds hdn hrest =>
     cases hrest;rename_i d sv
     have hop:OpV P oj.op oj.type F H sv:=by
      cases hds with
      |plain _ hop=>exact hop
      |met hg=>rw [hgn]at hg;cases hg
      |unmet hg=>rw [hgn]at hg;cases hg
      |unmetU hg=>rw [hgn]at hg;cases hg
     rw [bd]at hp
     have apartE:∀e∈E,e.d∉oj.looksAt ops∧d≠e.d:=fun e he=>by
      obtain⟨oe,e1,e2,e3,e4⟩:=hN e (hEN e he)
      have hne:j≠e.idx:=fun hei=>by
       have:=hEl e he;rw [←hei,h3]at this;cases this
      obtain⟨a1,a2⟩:=pB e4 e1 e3 hof h1 hne;exact⟨a1,fun h=>a2 (by rw [hd,h])⟩
     have hpw:E.Pairwise fun a b=>a.d≠b.d:=(hp.pairwise_iff (fun h=>h.symm)).2 hd0
     have hop':=hop.frame (o:=oj) (F':=iR E nm F) (ops:=ops) rfl fun t ht=>(Be fun e he hed=>(apartE e he).1 (hed▸ht)).symm
     obtain⟨hdef,hn,m,q1,q2,q3,q4,q5⟩:=hst;have hdn':=ay.mp hdn;obtain⟨v,hy,m',hv,hm',hH',hr⟩:=DP (o:=oj) (ops:=ops) hex hgn hd (cQ hdn' hn) hop' q1 q2.tail (fun t _=>q5 t)
     have hst2:St C n (iR N0 nm (upd F d sv)) (oW N0 nm++H) (a.put (some d) v) w:=by
      rw [←vI hp hpw,xT (fun e he h=>(apartE e he).2 h.symm)];exact(St.put hdn' hdef hn q2 q3 q4 q5 hv hm' (q2.beside hH' hr) (hr.mono fun b hb=>by unfold keys at *;rw [aH];exact cN _ hb)).perm ((hp.map _).append_right _)
     have hfin:=fin nm _ _ hst2
     have hdr0:ops.toList.drop i=ops[i]::ops.toList.drop (i+1):=by
      rw [jO (by simpa using hlt)];simp
     rw [hdr0]at hfin
     have hstep:wpOp P ops Q' i (fun a w=>wpList P ops Q' (ops.toList.drop (i+1)) a w) (a.put oj.dst v) w:=by
      rw [hd];unfold wpOp;rw [show ops[i]? = some ops[i]from by simp [hlt]];exact hfin
     have hput:=wpOp_put (oi:=oj) hok hap (fun cs b e=>by rw [e]at hex;cases hex) hsel (fun c a w h=>hQ c a _ _ w h) hy hstep;refine wpOp_mono (fun a' w' h'=>?_) hput;obtain⟨fuel',rfl⟩:∃fuel',fuel=fuel'+1:=⟨fuel-1,by rw [hcons]at hfu;simp at hfu;omega⟩
     have hls:(listed.setIfInBounds i true).size=ops.size:=by simpa using hs
     have hall:∀x,x<i→x≠j→listed.getD x true=true:=fun x hx hxj=>by
      cases hb:listed.getD x true with
      |true=>rfl
      |false =>
       have:(x,ops[x]' om)∈left ops i listed:=cq.2 ⟨hx,by simp,hb⟩;rw [hcons]at this;simp only [ar,cP]at this;exact absurd this.1 hxj
     refine⟨fun hr=>?_,fun x hx=>?_⟩
     ·exfalso
      have hmem:j∈Region.ready .any ops (listed.setIfInBounds i true):=by
       rw [mem_ready];refine⟨by rw [getD_set_ne true om];exact h3,_,hof,fun e he hb=>?_⟩;have hlt':=jT (hback j om) hof e he hb;have:=hall e.on om om;rw [getD_set_ne false om];have hsz:e.on<listed.size:=by omega
       simp [hsz]at this⊢;exact this
      rw [hr]at hmem;cases hmem
     ·have hxj:x=j:=by
       obtain⟨g0,o',g1,_⟩:=mem_ready.1 hx;have hxs:=(dt.1 g1).1;rcases gQ x i with hxi|hxi|hxi
       ·rw [getD_set_ne true om]at g0;exact xJ fun hne=>by rw [hall x hxi hne]at g0;cases g0
       ·subst hxi;simp [hs,hlt]at g0
       ·rcases htail x hxs om j om with he|⟨he,_,_⟩
        ·have:=ee hls om (bV (hcl.step hi) hx he);rw [getD_set_ne true om,h3]at this;cases this
        ·omega
      subst hxj;refine Yields.wpOp hof h'.1 (tail_at fuel' (i+1) _ _ _ om (by simpa using hls) ((hcl.step hi).step hx) (by rw [hcons]at hfu;simp at hfu;omega) (fun y hy=>?_) (fun y hy hys=>?_) h'.2)
      ·by_cases hyj:x=y
       ·subst hyj;simp [hs]
       ·rw [getD_set_ne true hyj];by_cases hyi:i=y
        ·subst hyi;simp [hs,hlt]
        ·rw [getD_set_ne true hyi];exact hall y om (fun h=>hyj h.symm)
      ·rw [getD_set_ne true om,getD_set_ne true om];exact hl y om hys
theorem WP.draw {id:Nat}{l:List Oper}(k:Nat){N:List NW}(hm:P.follows .mixedOrders=true) (hchk:qJ l.toArray k=true)
  (hdr:Dr P l.toArray n H ((l.zipIdx.map fun p=>(p.2,p.1)).take k) N F F') (hlone:∀e∈N,o6 l.toArray k e.idx=true) (h:∀nm:Nat→Nat,WPL P C n l.toArray (l.drop k) (fun F H=>Q .normal F H) (iR N nm F') (oW N nm++H)) :
  WP P C n (.region id l.toArray true) Q F H:=by
 intro a w hs;obtain⟨hk,hback,hpre,_⟩:=wJ hchk
 have hmem:∀e∈N,∃o,l.toArray[e.idx]? = some o∧e.idx<k∧o.dst=some e.d∧o6 l.toArray k e.idx=true:=fun e he=>by
  obtain⟨o,h1,h2⟩:=hdr.nw e he;have:=(qz (ops:=l.toArray)).1 (by simpa using h1);exact⟨o,this.2,this.1,h2,hlone e he⟩
 have hsort:(((l.zipIdx.map fun p=>(p.2,p.1)).take k).map (·.1)).Pairwise (· < ·):=by
  rw [qh];refine mV (rO _ _) ?_;rw [p5];intro i j hi hj hij;simpa using hij
 have hidx:N.Pairwise fun a b=>a.idx<b.idx:=by
  have:=mV hdr.sub hsort;rwa [qh]at this
 refine wp_mono (Q:=oE C n (fun e F H=>e = .normal∧Q .normal F H)) (wp_region_any hm ?_) (fun e a w h=>h.imp (fun⟨F,H,hs,he,hq⟩=>⟨F,H,hs,he▸hq⟩) fun h=>h)
 refine Jw (C:=C) (n:=n) (H:=H) (F':=F') (N0:=N) hchk (fun c a d v w h=>by
  rcases h with⟨_,_,_,h,_⟩|⟨ch,he,hp⟩
  ·cases h
  ·exact .inr ⟨ch,he,by obtain⟨h1,h2⟩:=hp;exact⟨by cases d <;> exact h1,h2⟩⟩) hmem ?_ (hidx.imp fun h=>Nat.ne_of_lt h) ?_ l.toArray.size (Array.replicate l.toArray.size false) a {w with drawn:=w.drawn+1} N [] (fun _=>0) F ?_ (by simp) (fun m j hm=>by by_cases hlt:m<l.length <;> simp [hlt]at hm) ?_ ?_ (by simp) (fun e he=>by cases he) ?_
 ·refine xI (R:=fun a b=>a.idx<b.idx) ?_ hidx;intro x y hx hy hlt hxy;obtain⟨ox,x1,x2,x3,x4⟩:=hmem x hx;obtain⟨oy,y1,y2,y3,y4⟩:=hmem y hy;exact(pB y4 y1 y3 x1 x2 om).2 (by rw [x3,hxy])
 ·intro nm a' w' hst;exact h nm a' w' hst _ ⟨fun a2 w2 F2 H2 hs2 hq => .mk hs2 ⟨rfl,hq⟩,fun ch _ _ hp => .inr ⟨ch,rfl,hp⟩⟩
 ·have:(left l.toArray k (Array.replicate l.toArray.size false)).length≤k:=by
   unfold left;refine aU (lK _ _) ?_;simp;omega
  omega
 ·intro j _ hj;have hj':j<l.length:=by simpa using hj
  simp [hj']
 ·have:left l.toArray k (Array.replicate l.toArray.size false)=(l.zipIdx.map fun p=>(p.2,p.1)).take k:=by
   unfold left;rw [rN.2];intro x hx;obtain⟨h1,h2⟩:=(qz (ops:=l.toArray)).1 hx;have:=(dt.1 h2).1;have hj':x.1<l.length:=by simpa using this
   simp [hj']
  rw [this];exact hdr
 ·obtain⟨hdef,hn,m,h1,h2,h3,h4,h5⟩:=hs;exact⟨hdef,hn,m,⟨h1.at',h1.base⟩,⟨h2.1,h2.2⟩,h3.drw,h4,h5⟩
def IA:Nat→List Oper→List NO'
 |_,[]=>[]
 |i,o::r=>match o.dst with
  |none=>[]
  |some _=>(i,o)::IA (i+1) r
def zV:List Oper→List Oper
 | []=>[]
 |o::r=>match o.dst with
  |none=>o::r
  |some _=>zV r
def wj:List Oper→Nat
 | []=>0
 |o::r=>match o.dst with
  |none=>0
  |some _=>wj r+1
theorem GJ:∀(l:List Oper) (i:Nat),IA i l=((l.zipIdx i).map fun p=>(p.2,p.1)).take (wj l)
 | [],i=>by simp [IA,wj]
 |o::r,i=>by
  unfold IA wj;cases o.dst with
  |none=>simp
  |some _=>simp [vB,GJ r (i+1)]
theorem Cy:∀l:List Oper,zV l=l.drop (wj l)
 | []=>by simp [zV,wj]
 |o::r=>by
  unfold zV wj;cases o.dst with
  |none=>simp
  |some _=>simp [Cy r]
def qU:Nat→Nat→List Oper→List NO'
 |_,0,_=>[]
 |_,_+1,[]=>[]
 |i,k+1,o::r=>(i,o)::qU (i+1) k r
theorem wZ:∀(k:Nat) (l:List Oper) (i:Nat),qU i k l=((l.zipIdx i).map fun p=>(p.2,p.1)).take k
 |0,_,_=>by simp [qU]
 |_+1,[],_=>by simp [qU]
 |k+1,o::r,i=>by simp [qU,vB,wZ k r (i+1)]
def Dk (P:Program) (ops:Array Oper) (n:Nat) (H:LH) (l:List NO') (K:List NW→Fr→Prop) (F:Fr):Prop:=∃N F',Dr P ops n H l N F F'∧K N F'
theorem Dk.nil {K:List NW→Fr→Prop}(h:K [] F):Dk P ops n H [] K F:=⟨[],F,Dr.nil F,h⟩
theorem Dk.val {K:List NW→Fr→Prop}{i d:Nat}{op:Op}{ty:TypeId}{pos:String}{aft:Array Edge}{sv:SV}{r:List NO'}(hop:OpV P op ty F H sv) (hdn:Nat.blt d n=true)
  (h:Dk P ops n H r K (upd F d sv)):Dk P ops n H ((i,⟨some d,op,ty,pos,aft,none⟩)::r) K F:=by
 obtain⟨N,F',h1,h2⟩:=h;exact⟨N,F',Dr.val rfl (.plain rfl hop) hdn h1,h2⟩
theorem Dk.valG {K:List NW→Fr→Prop}{i d:Nat}{op:Op}{ty:TypeId}{pos:String}{aft:Array Edge}{sv:SV}{r:List NO'}{j:Nat}{t:Bool}{oj:Oper}{dj:Nat}
  (hj:ops[j]? = some oj) (hdj:oj.dst=some dj) (hf:F dj=lit (.bool t)) (hdjn:Nat.blt dj n=true) (hop:OpV P op ty F H sv) (hdn:Nat.blt d n=true)
  (h:Dk P ops n H r K (upd F d sv)):Dk P ops n H ((i,⟨some d,op,ty,pos,aft,some (j,t)⟩)::r) K F:=by
 obtain⟨N,F',h1,h2⟩:=h;exact⟨N,F',Dr.val rfl (.met rfl hj hdj hf hdjn hop) hdn h1,h2⟩
theorem Dk.skipG {K:List NW→Fr→Prop}{i d:Nat}{op:Op}{ty:TypeId}{pos:String}{aft:Array Edge}{r:List NO'}{j:Nat}{t t':Bool}{oj:Oper}{dj:Nat}
  (hj:ops[j]? = some oj) (hdj:oj.dst=some dj) (hf:F dj=lit (.bool t')) (hne:(t'==t)=false) (hdjn:Nat.blt dj n=true) (hdn:Nat.blt d n=true)
  (h:Dk P ops n H r K (upd F d (lit undef))):Dk P ops n H ((i,⟨some d,op,ty,pos,aft,some (j,t)⟩)::r) K F:=by
 obtain⟨N,F',h1,h2⟩:=h;exact⟨N,F',Dr.val rfl (.unmet rfl hj hdj hf hne hdjn rfl) hdn h1,h2⟩
theorem Dk.skipU {K:List NW→Fr→Prop}{i d:Nat}{op:Op}{ty:TypeId}{pos:String}{aft:Array Edge}{r:List NO'}{j:Nat}{t:Bool}{oj:Oper}{dj:Nat}
  (hj:ops[j]? = some oj) (hdj:oj.dst=some dj) (hf:F dj=lit undef) (hdjn:Nat.blt dj n=true) (hdn:Nat.blt d n=true)
  (h:Dk P ops n H r K (upd F d (lit undef))):Dk P ops n H ((i,⟨some d,op,ty,pos,aft,some (j,t)⟩)::r) K F:=by
 obtain⟨N,F',h1,h2⟩:=h;exact⟨N,F',Dr.val rfl (.unmetU rfl hj hdj hf hdjn rfl) hdn h1,h2⟩
theorem Dk.new {K:List NW→Fr→Prop}{i d:Nat}{op:Op}{ty:TypeId}{pos:String}{aft:Array Edge}{T:TypeId}{z:List SV}{mk:Nat→Value}{r:List NO'}(hT:rM P op F T z mk) (hnx:Fy op=false) (hdn:Nat.blt d n=true)
  (h:Dk P ops n H r (fun N F'=>K (⟨i,d,T,z,mk⟩::N) F') F):Dk P ops n H ((i,⟨some d,op,ty,pos,aft,none⟩)::r) K F:=by
 obtain⟨N,F',h1,h2⟩:=h;exact⟨_,F',Dr.new rfl rfl hnx hT hdn h1,h2⟩
def dK (P:Program) (C:Ctx) (n k:Nat) (l tl:List Oper) (Q:Exit→Fr→LH→Prop) (H:LH):List NW→Fr→Prop :=
 fun N F'=>(∀e∈N,o6 l.toArray k e.idx=true)∧∀nm:Nat→Nat,WPL P C n l.toArray tl (fun F H=>Q .normal F H) (iR N nm F') (oW N nm++H)
theorem WP.drawK {id:Nat}{l:List Oper}(hm:P.follows .mixedOrders=true) (hchk:qJ l.toArray (wj l)=true) (h:Dk P l.toArray n H (IA 0 l) (dK P C n (wj l) l (zV l) Q H) F) :
  WP P C n (.region id l.toArray true) Q F H:=by
 obtain⟨N,F',h1,h2⟩:=h;rw [GJ]at h1;exact WP.draw (wj l) hm hchk h1 h2.1 fun nm=>Cy l▸h2.2 nm
theorem WP.drawN {id:Nat}{l:List Oper}(k:Nat) (hm:P.follows .mixedOrders=true) (hchk:qJ l.toArray k=true) (h:Dk P l.toArray n H (qU 0 k l) (dK P C n k l (l.drop k) Q H) F) :
  WP P C n (.region id l.toArray true) Q F H:=by
 obtain⟨N,F',h1,h2⟩:=h;rw [wZ]at h1;exact WP.draw k hm hchk h1 h2.1 h2.2
section
variable {k:Nat}{l tl:List Oper}{e1 e2 e3 e4:NW}
theorem dK0 (h:WPL P C n l.toArray tl (fun F H=>Q .normal F H) F H):dK P C n k l tl Q H [] F:=⟨(fun e he=>by cases he),fun _=>h⟩
theorem dK1 (h:∀b,WPL P C n l.toArray tl (fun F H=>Q .normal F H) (upd F e1.d (lit (e1.val b))) ((b,e1.T,e1.z)::H)) (hl:o6 l.toArray k e1.idx=true:=by kernel_rfl):dK P C n k l tl Q H [e1] F :=
 ⟨fun e he=>(by rw [ar]at he;subst he;exact hl),fun nm=>h (nm e1.idx)⟩
theorem dK2 (h:∀b c,WPL P C n l.toArray tl (fun F H=>Q .normal F H) (upd (upd F e2.d (lit (e2.val c))) e1.d (lit (e1.val b))) ((b,e1.T,e1.z)::(c,e2.T,e2.z)::H))
  (hl:(o6 l.toArray k e1.idx&&o6 l.toArray k e2.idx)=true:=by kernel_rfl):dK P C n k l tl Q H [e1,e2] F :=
 ⟨fun e he=>(by simp only [bG]at hl;simp only [ak,fG,eP]at he;rcases he with rfl|rfl;exact hl.1;exact hl.2),fun nm=>h (nm e1.idx) (nm e2.idx)⟩
theorem dK3 (h:∀b c d,WPL P C n l.toArray tl (fun F H=>Q .normal F H) (upd (upd (upd F e3.d (lit (e3.val d))) e2.d (lit (e2.val c))) e1.d (lit (e1.val b))) ((b,e1.T,e1.z)::(c,e2.T,e2.z)::(d,e3.T,e3.z)::H))
  (hl:(o6 l.toArray k e1.idx&&(o6 l.toArray k e2.idx&&o6 l.toArray k e3.idx))=true:=by kernel_rfl):dK P C n k l tl Q H [e1,e2,e3] F :=
 ⟨fun e he=>(by simp only [bG]at hl;simp only [ak,fG,eP]at he;rcases he with rfl|rfl|rfl;exact hl.1;exact hl.2.1;exact hl.2.2),fun nm=>h (nm e1.idx) (nm e2.idx) (nm e3.idx)⟩
theorem dK4 (h:∀b c d f,WPL P C n l.toArray tl (fun F H=>Q .normal F H) (upd (upd (upd (upd F e4.d (lit (e4.val f))) e3.d (lit (e3.val d))) e2.d (lit (e2.val c))) e1.d (lit (e1.val b))) ((b,e1.T,e1.z)::(c,e2.T,e2.z)::(d,e3.T,e3.z)::(f,e4.T,e4.z)::H))
  (hl:(o6 l.toArray k e1.idx&&(o6 l.toArray k e2.idx&&(o6 l.toArray k e3.idx&&o6 l.toArray k e4.idx)))=true:=by kernel_rfl):dK P C n k l tl Q H [e1,e2,e3,e4] F :=
 ⟨fun e he=>(by simp only [bG]at hl;simp only [ak,fG,eP]at he;rcases he with rfl|rfl|rfl|rfl;exact hl.1;exact hl.2.1;exact hl.2.2.1;exact hl.2.2.2),fun nm=>h (nm e1.idx) (nm e2.idx) (nm e3.idx) (nm e4.idx)⟩
end
abbrev mkP:Nat→Value:=fun b => .pointer (some ⟨b,0,none⟩)
abbrev mkS (k:Nat):Nat→Value:=fun b => .slice (some ⟨b,0,none⟩) k k
theorem LI {T:TypeId}{sz by_:Nat}{z:List SV}{g:Bool} [hT:TY P T sz by_ z g]:rM P (.alloc T) F T z mkP:=fun w o a ho _=>by
 obtain⟨v,hz,hall⟩:=hT.run_zero w;exact⟨v.cells,by simp [execOp,ho,Instr.alloc,hz,newVar,newRow],fun m _=>hall m⟩
theorem evN {op:Op}{m:Mem}{a:Act}(h:∀t, .tmp t∈op.operands→(F t).p m (a.eval (.tmp t))){x:Operand}(hx:x∈op.operands):(ev F x).p m (a.eval x):=evA h hx
end
def k9 (ds:List Nat):List Nat:=(ds.reverse.dropWhile (· == 0)).reverse
theorem kj (ds:List Nat):k9 (ds++[0])=k9 ds:=by simp [k9]
theorem k8 (ds:List Nat) (d:Nat) (h:d≠0):k9 (ds++[d])=ds++[d]:=by simp [k9,h]
theorem dB (ds:List Nat) (k:Nat) (h:k<ds.length):ds.take (k+1)=ds.take k++[ds.getD k 0]:=by
 rw [tu h];simp [List.getD,h]
theorem fX (ds:List Nat) (k:Nat) (h:k<ds.length):ds.drop k=ds.getD k 0::ds.drop (k+1):=by
 rw [jO h];simp [List.getD,h]
def D (ds:List Nat):Prop:=∀d∈ds,d<4294967296
theorem D.nil:D []:=fun _ h=>by cases h
theorem D.cons {d:Nat}{ds:List Nat}(h:d<4294967296) (k:D ds):D (d::ds):=fun x hx=>by
 rcases ak.1 hx with rfl|hx
 ·exact h
 ·exact k x hx
theorem D.tail {d:Nat}{ds:List Nat}(h:D (d::ds)):D ds:=fun x hx=>h x (by simp [hx])
theorem D.append {a b:List Nat}(h:D a) (k:D b):D (a++b):=fun x hx=>by
 rcases az.1 hx with hx|hx
 ·exact h x hx
 ·exact k x hx
theorem D.take {a:List Nat}(h:D a) (k:Nat):D (a.take k):=fun x hx=>h x (gP hx)
theorem D.drop {a:List Nat}(h:D a) (k:Nat):D (a.drop k):=fun x hx=>h x (kM hx)
theorem D.get {a:List Nat}(h:D a) (k:Nat):a.getD k 0<4294967296:=by
 rcases aJ k a.length with hk|hk
 ·have:a.getD k 0=a[k]:=by simp [List.getD,hk]
  rw [this];exact h _ (fg hk)
 ·have:a.getD k 0=0:=by simp [List.getD,df hk]
  rw [this];omega
theorem D.set {a:List Nat}(h:D a) (k:Nat){x:Nat}(hx:x<4294967296):D (a.set k x):=fun y hy=>by
 rcases List.mem_or_eq_of_mem_set hy with hy|rfl
 ·exact h y hy
 ·exact hx
theorem D.rep (k:Nat):D (List.replicate k 0):=fun x hx=>by
 have:=List.eq_of_mem_replicate hx;omega
theorem D.trim {a:List Nat}(h:D a):D (k9 a):=fun x hx=>by
 unfold k9 at hx;rw [List.mem_reverse]at hx;have:=(List.dropWhile_sublist (l:=a.reverse) (· == 0)).mem hx;exact h x (by simpa using this)
def val:List Nat→Nat
 | []=>0
 |d::ds=>d+4294967296*val ds
theorem Nx:val []=0:=rfl
theorem i0 (d:Nat) (ds:List Nat):val (d::ds)=d+4294967296*val ds:=rfl
theorem qk (a b:List Nat):val (a++b)=val a+4294967296^a.length*val b:=by
 induction a with
 |nil=>simp [val]
 |cons d a ih =>
  simp only [ab,val,ih,aF,bR,aM];rw [show 4294967296^a.length*4294967296*val b=4294967296*(4294967296^a.length*val b)from by rw [aE (4294967296^a.length),aI]];omega
theorem xR (a:List Nat) (d:Nat):val (a++[d])=val a+4294967296^a.length*d:=by rw [qk];simp [val]
theorem eQ {a:List Nat}(h:D a):val a<4294967296^a.length:=by
 induction a with
 |nil=>simp [val]
 |cons d a ih =>
  have h1:=ih h.tail;have h2:=h d (by simp);simp only [val,aF,bR];have:4294967296*(val a+1)≤4294967296*4294967296^a.length:=eO _ h1;rw [aE (4294967296^a.length)];omega
theorem uc (k:Nat):val (List.replicate k 0)=0:=by
 induction k with
 |zero=>rfl
 |succ k ih=>simp [iJ,val,ih]
theorem oL (ds:List Nat) (k:Nat) (h:k<ds.length):val (ds.take (k+1))=val (ds.take k)+4294967296^k*ds.getD k 0:=by
 rw [dB ds k h,xR,aC,dv om]
theorem bK (ds:List Nat) (k:Nat):val (ds.take (k+1))=val (ds.take k)+4294967296^k*ds.getD k 0:=by
 rcases aJ k ds.length with h|h
 ·exact oL ds k h
 ·rw [dz om,dz h];simp [List.getD,df h]
theorem take_set (ds:List Nat) (k x:Nat) (h:k<ds.length):(ds.set k x).take (k+1)=ds.take k++[x]:=by
 rw [dB _ k (by simpa using h)];rw [List.take_set_of_le (au _)];simp [List.getD,h]
theorem hZ (ds:List Nat) (k x:Nat) (h:k<ds.length):val ((ds.set k x).take (k+1))=val (ds.take k)+4294967296^k*x:=by
 rw [take_set ds k x h,xR,aC,dv om]
theorem lM (ds:List Nat) (k:Nat) (hk:k≤ds.length):val ds=val (ds.take k)+4294967296^k*val (ds.drop k):=by
 conv=>lhs;rw [←gO k ds]
 rw [qk,aC,dv hk]
def dgs (n:Nat):List Nat:=if n=0 then []else n%4294967296::dgs (n/4294967296)
termination_by n
decreasing_by omega
theorem bW:dgs 0=[]:=by rw [dgs];simp
theorem xn {n:Nat}(h:n≠0):dgs n=n%4294967296::dgs (n/4294967296):=by rw [dgs];simp [h]
theorem E8 (d m:Nat) (h:d<4294967296) (hm:m≠0∨d≠0):dgs (d+4294967296*m)=d::dgs m:=by
 rw [xn om];have h1:(d+4294967296*m)%4294967296=d:=by omega
 have h2:(d+4294967296*m)/4294967296=m:=by omega
 rw [h1,h2]
theorem aK (n:Nat):val (dgs n)=n:=by
 induction n using Nat.strongRecOn with
 |_ n ih =>
  by_cases h:n=0
  ·subst h;rw [bW];rfl
  ·rw [xn h,val,ih (n/4294967296) om];omega
theorem cu (n:Nat):D (dgs n):=by
 induction n using Nat.strongRecOn with
 |_ n ih =>
  by_cases h:n=0
  ·subst h;rw [bW];exact D.nil
  ·rw [xn h];exact D.cons om (ih _ om)
theorem PS {n:Nat}(h:dgs n=[]):n=0:=by have:=aK n;rw [h]at this;exact this.symm
theorem HJ {a b:Nat}(h:dgs a=dgs b):a=b:=by rw [←aK a,←aK b,h]
def Can (a:List Nat):Prop:=D a∧a.getLast?≠some 0
theorem Can.eq {a:List Nat}(h:Can a):a=dgs (val a):=by
 induction a with
 |nil=>rw [Nx,bW]
 |cons d a ih =>
  obtain⟨h1,h2⟩:=h;cases a with
  |nil =>
   have hd:d≠0:=fun e=>h2 (by simp [e])
   have:=E8 d 0 (h1 d (by simp)) (.inr hd);rw [bW]at this;simpa [val] using this.symm
  |cons e a =>
   have hc:Can (e::a):=⟨h1.tail,by simpa using h2⟩
   have hi:=ih hc;have hne:val (e::a)≠0:=fun h0=>by rw [h0,bW]at hi;cases hi
   rw [i0,E8 d _ (h1 d (by simp)) (.inl hne),←hi]
theorem zT {a:List Nat}(h:D a):Can (k9 a):=by
 refine⟨h.trim,?_⟩;unfold k9;rw [List.getLast?_reverse];intro hh;have:=List.head?_dropWhile_not (· == 0) a.reverse;rw [hh]at this;simp at this
theorem I7 (a:List Nat):val (k9 a)=val a:=by
 have key:∀n (a:List Nat),a.length=n→val (k9 a)=val a:=by
  intro n;induction n with
  |zero=>intro a h;rw [cT h];rfl
  |succ n ih =>
   intro a h;have hne:a≠[]:=fun e=>by rw [e]at h;cases h
   rw [←List.dropLast_concat_getLast hne];by_cases h0:a.getLast hne=0
   ·rw [h0,kj,ih _ (by simp [h]),xR];simp
   ·rw [k8 _ _ h0]
 exact key _ a rfl
theorem qY {a:List Nat}(h:D a):k9 a=dgs (val a):=by
 rw [(zT h).eq,I7]
theorem PT (n:Nat):Can (dgs n):=by
 have:=zT (cu n);rw [qY (cu n),aK]at this;exact this
theorem dU {n k:Nat}(h:n<4294967296^k):(dgs n).length≤k:=by
  induction k generalizing n with
  | zero => have : n = 0 := by simpa using h
            subst this;rw [bW];simp
  |succ k ih =>
    by_cases h0:n=0
    · subst h0;rw [bW];simp
    · rw [xn h0,aF]
      have:=ih (n:=n/4294967296) (Nat.div_lt_of_lt_mul (by rw [bR,aE]at h;exact h));omega
theorem o5 (n:Nat):n<4294967296^(dgs n).length:=by
 have:=eQ (cu n);rwa [aK]at this
theorem BT {n k:Nat}(h:(dgs n).length≤k):n<4294967296^k:=cQ (o5 n) (gN om h)
theorem zH {n k:Nat}(h:k<(dgs n).length):4294967296^k≤n:=by
 rcases aJ n (4294967296^k)with h1|h1
 ·have:=dU h1;omega
 ·exact h1
theorem cI {a b:Nat}(h:a≤b):(dgs a).length≤(dgs b).length:=dU (kL h (o5 b))
section
variable {P:Program}{C:Ctx}{n:Nat}{F:Fr}{H:LH}{ops:Array Oper}{K:Fr→LH→Prop}{rest:List Oper}{Q:Exit→Fr→LH→Prop}
 {ty:TypeId}{pos:String}{aft:Array Edge}
theorem IM {T T':TypeId}{by_:Nat}{z:List SV} [hT:TY P T 1 by_ z false]{x:Operand}{b i:Nat}{ds:List Nat}(hx:ev F x=lit (.pointer (some ⟨b,i,none⟩)))
  (hm:(b,T',bC ds)∈H) (hi:i<ds.length):OpV P (.load T x) ty F H (lit (.int .u32 ((ds.getD i 0:Nat):Int))):=eG hx hm (FS ds i hi)
theorem jY {T T':TypeId}{by_:Nat}{z:List SV}{g:Bool} [hT:TY P T 1 by_ z g]{p v:Operand}{b i:Nat}{ds:List Nat}{H':LH}{r:Int}(x:Nat)
  (hx:ev F p=lit (.pointer (some ⟨b,i,none⟩))) (hv:ev F v=lit (.int .u32 r)) (hr:r=(x:Int)) (hu:br b T' (bC ds) (bC (ds.set i x)) H H') (hi:i<ds.length)
  (k:WPL P C n ops rest K F H'):WPL P C n ops (⟨none, .store T p v,ty,pos,aft,none⟩::rest) K F H:=by
 subst hr;exact WPL.store (o:=i) (sz:=1) hx hv rfl hu (by simp only [spl];exact FR ds i x) (by rw [md];exact Nat.ble_eq.mpr om) k
theorem yn {x ix:Operand}{T e:TypeId}{by_:Nat}{z:List SV}{g:Bool} [hT:TSl P T e] [hE:TY P e 1 by_ z g]{ki:IntKind}{b k c:Nat}{v:Int}(i:Nat)
  (hx:ev F x=lit (.slice (some ⟨b,0,none⟩) k c)) (hi:ev F ix=lit (.int ki v)) (hv:v=(i:Int)) (h1:i<k):OpV P (.indexAddr T x ix) ty F H (lit (.pointer (some ⟨b,i,none⟩))):=by
 subst hv;exact BI hx hi h1 (zmo i)
theorem uB {x ix:Operand}{T e:TypeId}{by_:Nat}{z:List SV}{g:Bool} [hT:TSl P T e] [hE:TY P e 1 by_ z g]{ki:IntKind}{ds:List Nat}{v:Int}(i:Nat)
  (hx:ev F x=dg ds) (hi:ev F ix=lit (.int ki v)) (hv:v=(i:Int)) (h1:i<ds.length):OpV P (.indexAddr T x ix) ty F H (pt [lit (.int .u32 (ds.getD i 0:Nat))]):=by
 subst hv;exact sh hx hi h1
theorem vn {T e:TypeId} [hS:TSl P T e]{g:Bool} [hT:TY P e 1 4 [lit (.int .u32 0)] g]{d:Nat}{x y:Operand}{v:Int}(k:Nat)
  (hx:ev F x=lit (.int .i64 v)) (hy:ev F y=lit (.int .i64 v)) (hv:v=(k:Int)) (hk:k≤1000000000)
  (h:∀b,WPL P C n ops rest K (upd F d (lit (.slice (some ⟨b,0,none⟩) k k))) ((b,e,bC (List.replicate k 0))::H)) (hd:Nat.blt d n=true:=by exact rfl) :
  WPL P C n ops (⟨some d, .makeSlice T x y,ty,pos,aft,none⟩::rest) K F H:=by
 subst hv;exact WPL.make (k:=k) hx hy om om hd fun b=>by rw [zg];exact h b
theorem lr {l:List Oper}{b:Nat}{T:TypeId}{ds:List Nat}{H':LH}{k c:Nat}(d:Nat) (hv:F d=lit (.slice (some ⟨b,0,none⟩) k c)) (hdel:aq b T (bC ds) H H') (hk:ds.length=k) (hc:k≤c) (hc':c≤1000000000)
  (h:WPL P C n ops l K (upd F d (dg ds)) H'):WPL P C n ops l K F H:=by
 subst hk;exact WPL.pub hdel hv (fun m arr hm ha=>F4 hc om m arr hm ha) h
theorem A0 {a:Int}(s:Nat):a.fdiv (2^s)=a/(2^s:Int):=by
 rw [xH _ (Int.le_of_lt (Int.pow_pos om))]
theorem Su (a:Int):a.fdiv (2^(min (Int.toNat 32) (IntKind.bits .u64)))=a/4294967296:=A0 32
theorem So (a:Int):a.fdiv (2^(min (Int.toNat 63) (IntKind.bits .u64)))=a/9223372036854775808:=A0 63
theorem Sx (a:Int):a.fdiv (2^(min (Int.toNat 16) (IntKind.bits .u32)))=a/65536:=A0 16
theorem Tm (a:Int):a.fdiv (2^(min (Int.toNat 8) (IntKind.bits .u32)))=a/256:=A0 8
theorem Sv (a:Int):a.fdiv (2^(min (Int.toNat 31) (IntKind.bits .u32)))=a/2147483648:=A0 31
theorem Qi {a:Int}(h0:0≤a) (h1:a≤4294967295):IntKind.u64.wrap (a*2^(min (Int.toNat 32) (IntKind.bits .u64)))=a*4294967296:=by
 show IntKind.u64.wrap (a*4294967296)=a*4294967296
 simp only [IntKind.wrap,IntKind.bits,IntKind.signed];simp;omega
theorem kY (w:Nat) (x:Nat) (h:x<2^w):(BitVec.ofInt w (x:Int)).toNat=x:=by
 rw [BitVec.ofInt_natCast,qg,eN h]
theorem zQ (k:IntKind) (hk:k.signed=false) (x:Nat) (h:x<2^k.bits):k.wrap (x:Int)=x:=by
 simp only [IntKind.wrap,hk,aZ,bE,aO];exact Int.emod_eq_of_lt om (by exact_mod_cast h)
theorem Re (x b:Nat) (hb:b<4294967296):x*4294967296 ||| b=x*4294967296+b:=by
 have:=xG (i:=32) hb x;rw [aE];exact this.symm
theorem Fa {a b:Int}(x y:Nat) (ha:a=(x:Int)*4294967296) (hb:b=(y:Int)) (hx:x<4294967296) (hy:y<4294967296) :
  IntKind.u64.wrap ((BitVec.ofInt (IntKind.bits .u64) a ||| BitVec.ofInt (IntKind.bits .u64) b).toNat:Int)=((x*4294967296+y:Nat):Int):=by
 subst hb;have e:a=((x*4294967296:Nat):Int):=by rw [ha];omega
 rw [e,tt];simp only [IntKind.bits];rw [kY 64 _ om,kY 64 _ om,Re x y hy];exact zQ .u64 rfl _ (by simp only [IntKind.bits];omega)
theorem Lx {a b:Int}(x y:Nat) (ha:a=(y:Int)) (hb:b=(x:Int)*4294967296) (hx:x<4294967296) (hy:y<4294967296) :
  IntKind.u64.wrap ((BitVec.ofInt (IntKind.bits .u64) a ||| BitVec.ofInt (IntKind.bits .u64) b).toNat:Int)=((y+x*4294967296:Nat):Int):=by
 have:=Fa x y hb ha hx hy;rw [BitVec.or_comm,this,gM]
theorem rI {a:Int}(x:Nat) (ha:a=(x:Int)) (hx:x<18446744073709551616) :
  IntKind.u64.wrap ((BitVec.ofInt (IntKind.bits .u64) a &&& BitVec.ofInt (IntKind.bits .u64) 4294967295).toNat:Int)=((x%4294967296:Nat):Int):=by
 subst ha;rw [BitVec.toNat_and];simp only [IntKind.bits];rw [kY 64 _ om,show((4294967295:Int))=((4294967295:Nat):Int)from rfl,kY 64 _ om];rw [show(4294967295:Nat)=2^32-1 from rfl,Nat.and_two_pow_sub_one_eq_mod];exact zQ .u64 rfl _ (by simp only [IntKind.bits];omega)
theorem QL {T e:TypeId} [hT:TSl P T e] (a:Option Addr) (k c:Nat) (w:World):(Op.equal T (.slice a k c) (.slice none 0 0)).run P w = .ok (a.isNone) w:=by
 unfold Op.equal Op.maxDepth;rw [show(10000:Nat)=9999+1 from rfl,Op.equalIn];cases a <;> simp [underlying,hT.h]
theorem OD {T T' e:TypeId} [hT:TSl P T e]{x:Operand}{ds:List Nat}(hx:ev F x=dg ds) :
  OpV P (.binOp .eql T x (.const (.slice none 0 0)) T') ty F H (ex fun b:Bool=>lit (.bool (b&&decide (ds=[])))) :=
 OpV.pure fun m w o a ho _ _ _ h=>by
  have h0:=h x (by simp [Op.operands]);rw [hx,wK]at h0;obtain⟨ad,cap,h0,_,_,hca⟩:=ft h0;have hc:a.eval (.const (.slice none 0 0)) = .slice none 0 0:=rfl;refine⟨.bool ad.isNone,by simp [execOp,ho,h0,hc,Go.binOp,Go.eqGuard,QL],?_⟩;unfold ex;refine⟨ad.isNone,ap.2 ?_⟩;rcases hca with hn|⟨b,off,rfl,_⟩
  ·have:ds=[]:=by simpa using hn
   simp [this]
  ·simp
def uJ (m:Mem) (b:Nat) (o:Obj):Mem:=fun x=>if x=b then some o else m x
theorem Fp {m:Mem}{w:World}(hm:dD m w){o:Obj}:dD (uJ m w.heap.size o) (w.drew.alloc o)∧Rel [] m w (uJ m w.heap.size o) (w.drew.alloc o):=by
 have hold:∀b,b<w.heap.size→(w.drew.alloc o).heap[b]? = w.heap[b]?:=fun b hb=>@heap_alloc_old w.drew o b hb
 have hlt:∀b o,m b=some o→b<w.heap.size:=fun b o hb=>(dt.1 (hm b o hb)).1
 have hle:m.le (uJ m w.heap.size o):=fun b x hx=>by unfold uJ;rw [if_neg (by have:=hlt b x hx;omega)];exact hx
 refine⟨⟨fun b x hx=>?_,Mem.le_trans hm.base hle⟩,⟨hle,fun b hb _=>?_,rfl,rfl,⟨rfl,np _⟩,?_,fun b hb _=>hold b hb⟩⟩
 ·unfold uJ at hx;split at hx
  ·rename_i e;subst e;cases hx;exact heap_alloc_new w.drew o
  ·rw [hold b (hlt b x hx)];exact hm b x hx
 ·unfold uJ;rw [if_neg om]
 ·have:(w.drew.alloc o).heap.size=w.drew.heap.size+1:=World.size_alloc ..;rw [this];exact np _
theorem zC {t u e e2 ty:TypeId}(ht:P.underlying t=some (.slice e)) (hu:P.underlying u=some (.slice e2)) (args:Array Value) (w:World) :
  (Builtin.append_ #[t,u] ty args).run P w=(Builtin.append_ #[t,t] ty args).run P w:=by
 unfold Builtin.append_;simp only [List.getElem?_toArray,ff,gg];cases args[0]? with
 |none=>rfl
 |some s =>
  cases args[1]? with
  |none=>rfl
  |some x=>cases s <;> simp [underlying,ht,hu]
theorem OK {T T2 e e2:TypeId} [hS:TSl P T e] [hS2:TSl P T2 e2]{g:Bool}{z:List SV} [hT:TY P e 1 4 z g]{x y:Operand}{b:Nat}{T':TypeId}{ds:List Nat}
  (hx:ev F x=lit (.slice (some ⟨b,0,none⟩) 0 0)) (hy:ev F y=dg ds) (_hm:(b,T',[])∈H) (hl:ds.length≤1000000000) :
  OpV P (.call ⟨.builtin .append,#[x,y],#[T,T2]⟩) ty F H (dg ds):=by
 refine OpV.of0 ?_;intro m w o a ho hty h1 h2 h3 K Q hK;have e0:=evA h3 (x:=x) (by simp [Op.operands,Call.operands]);rw [hx,ap]at e0;have e1:=evA h3 (x:=y) (by simp [Op.operands,Call.operands]);rw [hy,wK]at e1;obtain⟨ad,cap,e1,hc1,hc2,hca⟩:=ft e1;obtain⟨i,v,hi,hsz,hby,hz,_,hfl,hvs⟩:=hT.run_bytes;have hT2:=zC (P:=P) (ty:=o.type) hS.h hS2.h
 have hexec:execOp a.eval o=(do let v←Builtin.append_ #[T,T2] o.type #[a.eval x,a.eval y];pure (.value v)):=by
  simp [execOp,ho,resolve,invoke,builtin]
 unfold Oper.wp;rw [hexec,e0,e1];by_cases hnil:ds=[]
 ·subst hnil
  have hrun:(Builtin.append_ #[T,T] o.type #[.slice (some ⟨b,0,none⟩) 0 0, .slice ad ([]:List Nat).length cap]).run P w = .ok (.slice (some ⟨b,0,none⟩) 0 0) w:=by
   cases ad <;> simp [Builtin.append_,underlying,hS.h,hT.run_size,Builtin.lenOf,Builtin.firstCells,loadCells,loadCellsFrom,storeCells]
  simp only [Sem.run_bind,hT2,hrun,Result.andThen_ok,Sem.run_pure];refine hK _ m w ?_ h1 (Rel.refl _ _ _);rw [wK];exact jq (by simp) (by simp [maxLen]) (.inl rfl)
 ·obtain⟨c,off,rfl,arr,T0,fz,hb,hall⟩:=hca.resolve_left (by simpa using hnil);simp only [cK]at hall;have hlen:=hall.length;simp only [cK]at hlen
  have hpos:0<ds.length:=by cases ds with
   |nil=>exact absurd rfl hnil
   |cons _ _=>simp
  have hnews:∀j u,((arr.toList.drop off).take ds.length)[j]? = some u→w.cell? ((⟨c,off,none⟩:Addr).add j)=some u:=fun j u hj=>by
   rw [cE,eB w c _ arr _ _ (h1 _ _ hb)];rw [eE]at hj;split at hj
   ·rw [eD]at hj;simpa using hj
   ·cases hj
  have hrun:=run_append_grow (P:=P) w T o.type e i v hS.h hi hz ⟨b,0,none⟩ 0 0 [] (by simp) (fun j u h=>by simp at h) ⟨c,off,none⟩ ds.length cap ((arr.toList.drop off).take ds.length)
   (by rw [hlen,hsz,cB]) hnews om om (growslice_fits om (by rw [hby];omega))
  rw [aB]at hrun;simp only [Sem.run_bind,hT2,hrun,Result.andThen_ok,Sem.run_pure];obtain⟨q1,q2⟩:=Fp h1 (o := .cells ([].toArray++((arr.toList.drop off).take ds.length).toArray++Builtin.zeroCells v.cells (grownCap w ds.length 0 e-ds.length)) e);refine hK _ _ _ ?_ q1 q2;rw [wK];refine jq (grownCap_ge w _ _ _) (grownCap_le_maxLen w _ _ _ (by simp only [maxLen];omega)) (.inr ⟨w.heap.size,0,rfl,_,e,(0,0),by unfold uJ;rw [if_pos rfl],?_⟩);simp only [cK,bD]
  have:(([].toArray++((arr.toList.drop off).take ds.length).toArray++Builtin.zeroCells v.cells (grownCap w ds.length 0 e-ds.length)):Array Value).toList.take ds.length=(arr.toList.drop off).take ds.length:=by
   simp only [fF,a8];rw [lJ om];exact dz om
  rw [this];exact hall.mono q2.le
theorem yT {l:List Value}(hl:l≠[]):∀(k j:Nat),j<k*l.length→(List.replicate k l).flatten[j]? = l[j%l.length]?
 |0,j,h=>by simp at h
 |k+1,j,h=>by
  have hpos:0<l.length:=fE.2 hl;rw [iJ,bw];by_cases hj:j<l.length
  ·rw [fD hj,eN hj]
  ·rw [lI om,yT hl k (j-l.length) (by rw [e6]at h;omega),←Nat.mod_eq_sub_mod om]
theorem bk.flatten {m:Mem}{z:List SV}{l:List Value}(h:bk m z l):∀k,bk m (List.replicate k z).flatten (List.replicate k l).flatten
 |0=>trivial
 |k+1=>by simp only [iJ,bw];exact h.append (bk.flatten h k)
theorem nk {T e:TypeId}{sz by_:Nat}{z:List SV}{g:Bool} [hS:TSl P T e] [hT:TY P e sz by_ z g]{len:Nat}{l:List (Nat×Operand)}{r:List (Nat×List SV)}{cs:List SV}
  (hp:dO F l r) (hf:lm ((List.range len).map fun i=>(i*sz,sz)) (List.replicate len z).flatten r=some cs) (hsz:Nat.ble (len*sz) 16777216=true) (hpos:Nat.blt 0 sz=true):rM P (.buildSlice T len l.toArray) F e cs (mkS len):=by
 intro w o a ho hm0;obtain⟨v,hz,hall⟩:=hT.run_zero w;obtain⟨i,v',hi,hisz,_,hz',_,_,hvs⟩:=hT.run_bytes;have hvv:v=v':=by simp [zeroValue,typeInfo,hi,hz']at hz;exact hz.symm
 subst hvv;have hsz':=gY hsz;have hpos':=ay.mp hpos
 have hinit:((Array.range (len*sz)).map fun j=>v.cells[j%v.cells.size]!).toList=(List.replicate len v.cells.toList).flatten:=by
  apply qf;intro j;have hl:v.cells.toList.length=sz:=by simpa using hvs
  have hne:v.cells.toList≠[]:=fun e=>by rw [e]at hl;simp at hl;omega
  by_cases hj:j<len*sz
  ·rw [yT hne len j (by rw [hl];exact hj),hl];simp [hj,hvs];have:j%sz<v.cells.size:=by rw [hvs];exact cS _ hpos'
   simp [this]
  ·rw [df (by simp;omega),df (by simp [List.length_flatten,hvs];omega)]
 have hplace:∀(i:Nat) (p:Nat×Nat),((List.range len).map fun i=>(i*sz,sz))[i]? = some p→(fun i=>some (i*sz,sz)) i=some p:=by
  intro i p h;rw [jg,gC]at h;obtain⟨q,h1,h2⟩:=h;have:=bI.1 h1;obtain⟨h3,h4⟩:=this;simp at h4;rw [←h2,h4]
 obtain⟨m0,hm0⟩:=hm0
 have hrunS:∀m:Mem,(∀t, .tmp t∈(Op.buildSlice T len l.toArray).operands→(F t).p m (a.eval (.tmp t)))→∃arr',Instr.fill (fun i=>some (i*sz,sz)) ((Array.range (len*sz)).map fun j=>v.cells[j%v.cells.size]!) (l.map fun p=>(p.1,a.eval p.2))=some arr'∧bk m cs arr'.toList:=fun m hp' =>
  sk (m:=m) (ρ:=a.eval) (fun i=>some (i*sz,sz)) hplace hp (fun p hp2=>evN hp' (by simp only [Op.operands,vA,aj];exact⟨p,hp2,rfl⟩)) _ _ cs (by rw [hinit];exact(hall m).flatten len) hf
 obtain⟨arr',hfill,hall'⟩:=hrunS m0 hm0
 have hrun:(execOp a.eval o).run P w = .ok (.value (.slice (some ⟨w.heap.size,0,none⟩) len len)) (w.alloc (.cells arr' e)):=by
  have hng:¬(len*sz>2^24):=by omega
  simp only [execOp,ho,Instr.buildSlice,Sem.run_bind,underlying,run_program,hS.h,Result.andThen_ok,Sem.run_pure,hT.run_size];rw [if_neg hng];by_cases h0:len*sz=0
  ·have hz0:(Array.range (len*sz)).map (fun j=>v.cells[j%v.cells.size]!)=(Array.range (len*sz)).map (fun j=>(#[]:Array Value)[j%(#[]:Array Value).size]!):=by rw [h0];simp [show Array.range 0 = #[]from rfl]
   rw [hz0]at hfill;simp only [h0,aV,Sem.run_pure,Sem.run_bind,Result.andThen_ok]at hfill⊢;simp only [iH,du,hfill,Sem.run_pure,Result.andThen_ok,newRow,Sem.run_bind,run_newObj,World.alloc_eq]
  ·simp only [h0,aO,Sem.run_bind,hz,Sem.run_pure,Result.andThen_ok,iH,du,hfill,newRow,run_newObj,World.alloc_eq]
 refine⟨arr',hrun,fun m hpm=>?_⟩;obtain⟨arr2,h1,h2⟩:=hrunS m hpm;rw [hfill]at h1;cases h1;exact h2
theorem WPL.bslice {T e:TypeId}{sz by_:Nat}{z:List SV}{g:Bool} [hS:TSl P T e] [hT:TY P e sz by_ z g]{d len:Nat}{l:List (Nat×Operand)}{r:List (Nat×List SV)}{cs:List SV}
  (hp:dO F l r) (hf:lm ((List.range len).map fun i=>(i*sz,sz)) (List.replicate len z).flatten r=some cs) (hsz:Nat.ble (len*sz) 16777216=true) (hpos:Nat.blt 0 sz=true) (hd:Nat.blt d n=true)
  (k:∀b,WPL P C n ops rest K (upd F d (lit (.slice (some ⟨b,0,none⟩) len len))) ((b,e,cs)::H)):WPL P C n ops (⟨some d, .buildSlice T len l.toArray,ty,pos,aft,none⟩::rest) K F H:=by
 intro a w hs Q hq;obtain⟨v,hz,hall⟩:=hT.run_zero w;obtain⟨i,v',hi,hisz,_,hz',_,_,hvs⟩:=hT.run_bytes;have hvv:v=v':=by simp [zeroValue,typeInfo,hi,hz']at hz;exact hz.symm
 subst hvv;have hsz':=gY hsz;have hpos':=ay.mp hpos
 have hinit:((Array.range (len*sz)).map fun j=>v.cells[j%v.cells.size]!).toList=(List.replicate len v.cells.toList).flatten:=by
  apply qf;intro j;have hl:v.cells.toList.length=sz:=by simpa using hvs
  have hne:v.cells.toList≠[]:=fun e=>by rw [e]at hl;simp at hl;omega
  by_cases hj:j<len*sz
  ·rw [yT hne len j (by rw [hl];exact hj),hl];simp [hj,hvs];have:j%sz<v.cells.size:=by rw [hvs];exact cS _ hpos'
   simp [this]
  ·rw [df (by simp;omega),df (by simp [List.length_flatten,hvs];omega)]
 have hplace:∀(i:Nat) (p:Nat×Nat),((List.range len).map fun i=>(i*sz,sz))[i]? = some p→(fun i=>some (i*sz,sz)) i=some p:=by
  intro i p h;rw [jg,gC]at h;obtain⟨q,h1,h2⟩:=h;have:=bI.1 h1;obtain⟨h3,h4⟩:=this;simp at h4;rw [←h2,h4]
 obtain⟨m0,hm0,hp0⟩:=hs.evp
 have hrunS:∀m,(∀x,(ev F x).p m (a.eval x))→∃arr',Instr.fill (fun i=>some (i*sz,sz)) ((Array.range (len*sz)).map fun j=>v.cells[j%v.cells.size]!) (l.map fun p=>(p.1,a.eval p.2))=some arr'∧bk m cs arr'.toList:=fun m hp' =>
  sk (m:=m) (ρ:=a.eval) (fun i=>some (i*sz,sz)) hplace hp (fun p _=>hp' p.2) _ _ cs (by rw [hinit];exact(hall m).flatten len) hf
 obtain⟨arr',hfill,hall'⟩:=hrunS m0 hp0;refine wpList_plain rfl fun K' hK'=>?_
 unfold Oper.wp
 have hrun:(execOp a.eval (⟨some d, .buildSlice T len l.toArray,ty,pos,aft,none⟩:Oper)).run P w = .ok (.value (.slice (some ⟨w.heap.size,0,none⟩) len len)) (w.alloc (.cells arr' e)):=by
  have hng:¬(len*sz>2^24):=by omega
  simp only [execOp,Instr.buildSlice,Sem.run_bind,underlying,run_program,hS.h,Result.andThen_ok,Sem.run_pure,hT.run_size];rw [if_neg hng];by_cases h0:len*sz=0
  ·have hz0:(Array.range (len*sz)).map (fun j=>v.cells[j%v.cells.size]!)=(Array.range (len*sz)).map (fun j=>(#[]:Array Value)[j%(#[]:Array Value).size]!):=by rw [h0];simp [show Array.range 0 = #[]from rfl]
   rw [hz0]at hfill;simp only [h0,aV,Sem.run_pure,Sem.run_bind,Result.andThen_ok]at hfill⊢;simp only [iH,du,hfill,Sem.run_pure,Result.andThen_ok,newRow,Sem.run_bind,run_newObj,World.alloc_eq]
  ·simp only [h0,aO,Sem.run_bind,hz,Sem.run_pure,Result.andThen_ok,iH,du,hfill,newRow,run_newObj,World.alloc_eq]
 rw [hrun];refine hK' _ _ (k _ _ _ (St.push (ay.mp hd) hs fun m hpm=>?_) Q hq);obtain⟨arr2,h1,h2⟩:=hrunS m hpm;rw [hfill]at h1;cases h1;exact h2
theorem BC {T:TypeId} [hT:TSr P T]{x ix:Operand}{s:ByteArray}{ki:IntKind}{v:Int}(N i:Nat) (g:Nat→Nat) (hx:ev F x=lit (.string s)) (hi:ev F ix=lit (.int ki v)) (hv:v=(i:Int)) (hN:i<N)
  (hb:∀j:Fin N,(s[j.val]?).map (·.toNat)=some (g j.val)):OpV P (.index T x ix) ty F H (lit (.int .u8 (g i))) :=
 OpV.pure fun m w o a ho _ _ _ h=>by
  have e0:=h x (by simp [Op.operands]);rw [hx,ap]at e0;have e1:=h ix (by simp [Op.operands]);rw [hi,ap]at e1;subst hv;have:=hb ⟨i,hN⟩;rw [gC]at this;obtain⟨b,h1,h2⟩:=this;simp only at h1 h2;refine⟨.int .u8 (g i),?_,ap.2 rfl⟩;simp [execOp,ho,e0,e1,Instr.index,asIntOf,underlying,hT.h,h1,h2]
theorem Le.int {k:IntKind}{a b:Int}(h:a=b):Le (lit (.int k a)) (lit (.int k b)):=h▸Le.refl _
theorem Le.bool {a b:Bool}(h:a=b):Le (lit (.bool a)) (lit (.bool b)):=h▸Le.refl _
def f5 (n:Nat):Nat:=if n=0 then 0 else n.log2+1
theorem j7 {n k:Nat}:f5 n≤k↔n<2^k:=by
 unfold f5;split
 ·subst_vars;simp [dc]
 ·rename_i h;rw [Nat.succ_le_iff,Nat.log2_lt h]
theorem qO {n k:Nat}:k<f5 n↔2^k≤n:=by
 have:=j7 (n:=n) (k:=k);omega
theorem HY {n k:Nat}(h0:n<2^k) (h1:k=0∨2^(k-1)≤n):f5 n=k:=by
 have a:=j7.2 h0;rcases h1 with h1|h1
 ·omega
 ·have:=qO.2 h1;omega
theorem N6 (low top m:Nat) (hl:low<4294967296^m) (ht:top≠0):f5 (low+4294967296^m*top)=32*m+f5 top:=by
 have hp:(4294967296:Nat)^m=2^(32*m):=by rw [nO]
 rw [hp]at hl⊢
 have hb:1≤f5 top:=by
  have:=(qO (n:=top) (k:=0)).2 (by simp;omega);omega
 have h1:2^(f5 top-1)≤top:=qO.1 om;have h2:top<2^f5 top:=j7.1 (au _);refine HY ?_ (.inr ?_)
 ·rw [cD];have:2^(32*m)*(top+1)≤2^(32*m)*2^f5 top:=eO _ h2;rw [aM,cB]at this;omega
 ·rw [show 32*m+f5 top-1=32*m+(f5 top-1)from by omega,cD];have:=eO (2^(32*m)) h1;omega
theorem u0 (x s:Nat) (h:2^s≤x):f5 x=f5 (x/2^s)+s:=by
 have hp:0<2^s:=dc om;have hq:x/2^s≠0:=by have:=Nat.div_pos h hp;omega
 have hb:1≤f5 (x/2^s):=by have:=(qO (n:=x/2^s) (k:=0)).2 (by rw [jH];exact f9 hq);omega
 have h1:2^(f5 (x/2^s)-1)≤x/2^s:=qO.1 om;have h2:x/2^s<2^f5 (x/2^s):=j7.1 (au _);have hm:=fC x (2^s);have hr:=cS x hp;refine HY ?_ (.inr ?_)
 ·rw [cD,aE];have:2^s*(x/2^s+1)≤2^s*2^f5 (x/2^s):=eO _ h2;rw [aM,cB]at this;omega
 ·rw [show f5 (x/2^s)+s-1=s+(f5 (x/2^s)-1)from by omega,cD];have:=eO (2^s) h1;omega
theorem Qf (a b:Nat):(a:Int).tdiv (b:Int)=((a/b:Nat):Int):=rfl
theorem K0 (a b:Nat):(a:Int).tmod (b:Int)=((a%b:Nat):Int):=rfl
theorem KT (a b:Nat) (h:a≤18446744073709551615):IntKind.u64.wrap ((a:Int).tdiv (b:Int))=((a/b:Nat):Int):=by
 rw [Qf];have:=dw a b;exact zQ .u64 rfl _ (by simp only [IntKind.bits];omega)
theorem Sy (d s:Nat) (hs:s≤64) (h:d*2^s≤18446744073709551615):IntKind.u64.wrap ((d:Int)*2^(min (Int.toNat (s:Int)) (IntKind.bits .u64)))=((d*2^s:Nat):Int):=by
 have e:min (Int.toNat (s:Int)) (IntKind.bits .u64)=s:=by simp only [dN,IntKind.bits];omega
 rw [e];have e2:(d:Int)*2^s=((d*2^s:Nat):Int):=by rw [cX,Int.natCast_pow];rfl
 rw [e2];exact zQ .u64 rfl _ (by simp only [IntKind.bits];omega)
theorem Sn (d s:Nat) (hs:s≤64):(d:Int).fdiv (2^(min (Int.toNat (s:Int)) (IntKind.bits .u64)))=((d/2^s:Nat):Int):=by
 have e:min (Int.toNat (s:Int)) (IntKind.bits .u64)=s:=by simp only [dN,IntKind.bits];omega
 rw [e,A0];rw [show((2:Int)^s)=((2^s:Nat):Int)from by rw [Int.natCast_pow];rfl];rfl
theorem Rg {a b:Int}(x y s:Nat) (ha:a=(x:Int)) (hb:b=((2^s*y:Nat):Int)) (hx:x<2^s) (h:2^s*y+x<4294967296) :
  IntKind.u32.wrap ((BitVec.ofInt (IntKind.bits .u32) a ||| BitVec.ofInt (IntKind.bits .u32) b).toNat:Int)=((2^s*y+x:Nat):Int):=by
 subst ha;subst hb;rw [BitVec.or_comm,tt];simp only [IntKind.bits];rw [kY 32 _ om,kY 32 _ om,←xG hx];exact zQ .u32 rfl _ (by simp only [IntKind.bits];omega)
theorem Lh {x y:Operand}{T T':TypeId}{k:IntKind}{a b r:Int}(hx:ev F x=lit (.int k a)) (hy:ev F y=lit (.int k b)) (hr:(if b<a then b else a)=r) :
  OpV P (.call ⟨.builtin .min,#[x,y],#[T,T']⟩) ty F H (lit (.int k r)) :=
 OpV.pure fun m w o c ho _ _ _ h=>by
  have h0:=h x (by simp [Op.operands,Call.operands]);rw [hx,ap]at h0;have h1:=h y (by simp [Op.operands,Call.operands]);rw [hy,ap]at h1;exact⟨.int k r,by simp [execOp,ho,resolve,invoke,builtin,Builtin.min_,Builtin.min2,h0,h1,hr],ap.2 rfl⟩
theorem F8 {x y:Operand}{T T':TypeId}{k:IntKind}{a b r:Int}(hx:ev F x=lit (.int k a)) (hy:ev F y=lit (.int k b)) (hr:(if a<b then b else a)=r) :
  OpV P (.call ⟨.builtin .max,#[x,y],#[T,T']⟩) ty F H (lit (.int k r)) :=
 OpV.pure fun m w o c ho _ _ _ h=>by
  have h0:=h x (by simp [Op.operands,Call.operands]);rw [hx,ap]at h0;have h1:=h y (by simp [Op.operands,Call.operands]);rw [hy,ap]at h1;exact⟨.int k r,by simp [execOp,ho,resolve,invoke,builtin,Builtin.max_,Builtin.max2,h0,h1,hr],ap.2 rfl⟩
end
instance coIface (t:TypeId) (v:Value):CO (lit (.iface t v)) [lit (.iface t v)]:=lp fun m u h=>by rw [ap]at h;subst h;exact⟨rfl,rfl⟩
class GV (g:Nat) (v:outParam Value):Prop where
 h:∃(T:TypeId) (fz:Nat×Nat),Base.mem g=some (.cells #[v] T fz)
@[irreducible] def ifc (t:TypeId) (s:SV):SV:=⟨fun m v=>∃u,v = .iface t u∧s.p m u,fun h ⟨u,e,k⟩=>⟨u,e,s.mono h k⟩⟩
instance (t:TypeId) (s:SV):CO (ifc t s) [ifc t s]:=lp fun m u h=>by unfold ifc at h;obtain⟨v,rfl,_⟩:=h;exact⟨rfl,rfl⟩
def vc (P:Program) (T:TypeId):Bool:=match P.underlying T with
 |some (.interface _)=>false
 |some _=>true
 |none=>false
def C7 (P:Program) (S:TypeId) (f:Nat):Option (Nat×Bool×Nat):=match P.underlying S with
 |some (.struct a)=>(a[f]?).bind fun fl=>(P.underlying fl.type).bind fun d=>(P.info? fl.type).map fun i=>(fl.offset,vZ d,i.size)
 |_=>none
section
variable {P:Program}{F:Fr}{H:LH}{ty:TypeId}
theorem sL {T:TypeId}(hT:vc P T=true) (v:Value) (w:World):(Instr.makeInterface T v).run P w = .ok (.iface T v) w:=by
 unfold vc at hT;cases hu:P.underlying T with
 |none=>rw [hu]at hT;cases hT
 |some d=>rw [hu]at hT;cases d <;> first|(cases hT;done)|simp [Instr.makeInterface,underlying,hu]
theorem zI {T:TypeId}{x:Operand}{v:Value}(hT:vc P T=true) (hx:ev F x=lit v):OpV P (.makeInterface T x) ty F H (lit (.iface T v)) :=
 OpV.pure fun m w o a ho _ _ _ h=>by
  have h0:=h x (by simp [Op.operands]);rw [hx,ap]at h0;exact⟨_,by simp [execOp,ho,h0,sL hT],ap.2 rfl⟩
theorem gw {T:TypeId}{x:Operand}{s:SV}(hT:vc P T=true) (hx:ev F x=s):OpV P (.makeInterface T x) ty F H (ifc T s) :=
 OpV.pure fun m w o a ho _ _ _ h=>by
  have h0:=h x (by simp [Op.operands]);rw [hx]at h0;exact⟨.iface T (a.eval x),by simp [execOp,ho,sL hT],by unfold ifc;exact⟨_,rfl,h0⟩⟩
theorem sf {T:TypeId}{x:Operand}{s res:SV}{name:String}{f:FuncId}{l:List Operand}{tys:Array TypeId}{svs:List SV}(hm:∀v w,(Go.method (P.types.size+Made.depth) T v name).run P w = .ok (f,v) w)
  (hc:Pu P f svs res) (hx:ev F x=ifc T s) (ha:s::l.map (ev F)=svs):OpV P (.call ⟨.invoke x name,l.toArray,tys⟩) ty F H res:=by
 refine OpV.of0 ?_;intro m w o a ho hty h1 h2 h3 K Q hK;have h0:=evA h3 (x:=x) (by simp [Op.operands,Call.operands]);rw [hx]at h0;unfold ifc at h0;obtain⟨u,hu,hs⟩:=h0;have hargs:=qI (m:=m) (a:=a) l fun x hx=>evA h3 (by simp [Op.operands,Call.operands,hx])
 have hall:dC m svs (u::l.map a.eval):=ha▸⟨hs,hargs⟩
 have hcall:=hc.2 m w _ h1 hall;unfold Oper.wp
 have hrun:(execOp a.eval o).run P w = .ok (.enter f (u::l.map a.eval).toArray) w:=by
  have he:execOp a.eval o=callMethod (a.eval x) name (l.map a.eval).toArray:=by
   simp [execOp,ho,resolve,invoke];rw [dz (by simp)]
  rw [he,hu];simp only [callMethod,Sem.run_bind,run_program,Result.andThen_ok,hm u w,i3 hc.1];simp
 rw [hrun];refine Calls.mono hcall ?_;rintro _ w' ⟨v,m',rfl,hp,hm',hr⟩;exact hK v m' w' hp hm' hr
theorem IQ {S:TypeId}{fs:List (Nat×Nat)} [TSt P S fs]{x:Operand}{f off:Nat}{cs:List SV}{s:SV}(hx:ev F x=ag cs) (_hf:fs[f]? = some (off,1)) (hk:C7 P S f=some (off,false,1)) (hc:cs[off]? = some s):OpV P (.field S x f) ty F H s :=
 OpV.pure fun m w o a ho _ _ _ h=>by
  have h0:=h x (by simp [Op.operands]);rw [hx]at h0;unfold ag at h0;obtain⟨arr,h0,hall⟩:=h0;obtain⟨v,hv,hp,_⟩:=hall.get hc;have hv':arr[off]? = some v:=by simpa using hv
  refine⟨v,?_,hp⟩;unfold C7 at hk;cases hu:P.underlying S with
  |none=>rw [hu]at hk;cases hk
  |some d =>
   rw [hu]at hk;cases d with
   |struct A =>
    simp only [xF,gC,cP]at hk;obtain⟨fl,hfl,d,hd,i,hi,e1,e2,e3⟩:=hk
    have hg:(isAgg fl.type).run P w = .ok false w:=by
     cases d <;> first|(cases e2;done)|simp [isAgg,underlying,hd]
    simp [execOp,ho,h0,Instr.field,underlying,hu,hfl,asAgg,part,hg,e1,hv']
   |_=>cases hk
theorem Lk {T:TypeId}{by_:Nat}{z:List SV}{g:Nat}{v:Value} [hT:TY P T 1 by_ z false] [hg:GV g v]:OpV P (.load T (.global g)) ty F H (lit v) :=
 OpV.pure fun m w o a ho _ hm _ h=>by
  obtain⟨T',fz,hb⟩:=hg.h;have hw:=hm _ _ (hm.base _ _ hb);have hc:w.cell? ⟨g,0,none⟩=some v:=by rw [eB w g 0 _ _ _ hw];rfl
  have e0:a.eval (.global g) = .pointer (some ⟨g,0,none⟩):=rfl;refine⟨v,?_,ap.2 rfl⟩;have:=km (P:=P) hT hc;simp only [execOp,ho,e0,Instr.loadAt,asAddr,Sem.run_bind,Sem.run_pure,Result.andThen_ok,this];simp [Instr.sureAddr,this]
theorem Ov {T T':TypeId}{x:Operand}(hT:P.isIface T=true) (hx:ev F x=lit .nilIface):OpV P (.binOp .eql T x (.const .nilIface) T') ty F H (lit (.bool true)) :=
 eH hx rfl (fun w=>run_eql_nil_nil_at w T hT) (fun w=>by simp [Go.eqGuard])
theorem Or {T T':TypeId}{x:Operand}(hT:P.isIface T=true) (hx:ev F x=lit .nilIface):OpV P (.binOp .neq T x (.const .nilIface) T') ty F H (lit (.bool false)) :=
 eH hx rfl (fun w=>run_neq_nil_nil_at w T hT) (fun w=>by simp [Go.eqGuard])
theorem Ow {T T' u:TypeId}{v:Value}{x:Operand}(hT:P.isIface T=true) (hx:ev F x=lit (.iface u v)):OpV P (.binOp .eql T x (.const .nilIface) T') ty F H (lit (.bool false)) :=
 eH hx rfl (fun w=>run_eql_iface_nil w T hT u v) (fun w=>by simp [Go.eqGuard])
theorem Ot {T T' u:TypeId}{v:Value}{x:Operand}(hT:P.isIface T=true) (hx:ev F x=lit (.iface u v)):OpV P (.binOp .neq T x (.const .nilIface) T') ty F H (lit (.bool true)) :=
 eH hx rfl (fun w=>run_neq_iface_nil w T hT u v) (fun w=>by simp [Go.eqGuard])
end
section
variable {P:Program}{C:Ctx}{n:Nat}{F:Fr}{H:LH}{ops:Array Oper}{K:Fr→LH→Prop}{Q:Exit→Fr→LH→Prop}
def WPA (P:Program) (C:Ctx) (n:Nat) (ops:Array Oper) (fuel:Nat) (listed:List Bool) (K:Fr→LH→Prop) (F:Fr) (H:LH):Prop :=
 ∀a w,St C n F H a w→∀Q:Exit→Act→World→Prop,WQ C n K Q→wpAny P .any ops Q fuel listed.toArray a w
def GA (ops:Array Oper) (listed:List Bool) (i:Nat):Bool:=(Region.ready .any ops listed.toArray).contains i
def WPI (P:Program) (C:Ctx) (n:Nat) (ops:Array Oper) (fuel:Nat) (listed:List Bool) (K:Fr→LH→Prop) (F:Fr) (H:LH):Nat→List Oper→Prop
 |_,[]=>True
 |i,o::r=>(GA ops listed i=true→WPL P C n ops [o] (WPA P C n ops fuel (listed.set i true) K) F H)∧WPI P C n ops fuel listed K F H (i+1) r
theorem JP {o:Oper}{a:Act}{w:World}{next:Act→World→Prop}{Q Q':Exit→Act→World→Prop}(hp:∀c a w,Q' (.panic c) a w→Q (.panic c) a w) (ho:∀a w,Q' .outgrown a w→Q .outgrown a w) (h:o.wp P a w next Q'):o.wp P a w next Q:=by
 unfold Oper.wp at *;generalize(execOp a.eval o).run P w=r at *;cases r with
 |ok n w' =>
  cases n <;> simp only [Oper.upon]at h⊢<;>
   first
    |exact h
    |exact Calls.mono h (fun e w'' he=>by cases e <;> first|exact he|exact hp _ _ _ he|exact he.imp fun a h=>h.imp fun w h=>ho a w h)
 |halt x w'=>cases x <;> simp only [Oper.upon]at h⊢<;> first|exact hp _ _ _ h|exact h
theorem WPI.nil {fuel i:Nat}{listed:List Bool}:WPI P C n ops fuel listed K F H i []:=trivial
theorem WPI.no {fuel i:Nat}{listed:List Bool}{o:Oper}{r:List Oper}(h:WPI P C n ops fuel listed K F H (i+1) r) (hr:GA ops listed i=false:=by decide +kernel):WPI P C n ops fuel listed K F H i (o::r) :=
 ⟨fun h=>(by rw [hr]at h;cases h),h⟩
theorem WPI.yes {fuel i:Nat}{listed:List Bool}{o:Oper}{r:List Oper}(h1:WPL P C n ops [o] (WPA P C n ops fuel (listed.set i true) K) F H) (h:WPI P C n ops fuel listed K F H (i+1) r):WPI P C n ops fuel listed K F H i (o::r) :=
 ⟨fun _=>h1,h⟩
theorem WPI.both {fuel i:Nat}{listed:List Bool}{o:Oper}{r:List Oper}(h:WPL P C n ops [o] (WPA P C n ops fuel (listed.set i true) K) F H∧WPI P C n ops fuel listed K F H (i+1) r):WPI P C n ops fuel listed K F H i (o::r) := .yes h.1 h.2
theorem WPI.get {fuel:Nat}{listed:List Bool}:∀{l:List Oper}{i j:Nat}{o:Oper},WPI P C n ops fuel listed K F H i l→l[j]? = some o→GA ops listed (i+j)=true→WPL P C n ops [o] (WPA P C n ops fuel (listed.set (i+j) true) K) F H
 | [],_,_,_,_,h,_=>by simp at h
 |o::r,i,0,o',h,ho,hr=>by
  simp only [ff,bM]at ho;subst ho;exact h.1 hr
 |o::r,i,j+1,o',h,ho,hr=>by
  have:=WPI.get (j:=j) h.2 (by simpa using ho) (by rw [show i+1+j=i+(j+1)from by omega];exact hr);rw [show i+1+j=i+(j+1)from by omega]at this;exact this
theorem WPA.step {fuel:Nat}{listed:List Bool}{l:List Oper}(h:WPI P C n l.toArray fuel listed K F H 0 l) (hne:(Region.ready .any l.toArray listed.toArray).isEmpty=false:=by decide +kernel):WPA P C n l.toArray (fuel+1) listed K F H:=by
 intro a w hs Q hq;refine⟨fun hr=>(by rw [hr]at hne;cases hne),fun i hi=>?_⟩;obtain⟨_,o,ho,_⟩:=mem_ready.1 hi;have ho':l[i]? = some o:=by simpa using ho
 have h1:=WPI.get (j:=i) h ho' (by rw [aB];unfold GA;simpa using hi);rw [aB]at h1
 have h2:=h1 a w hs (fun e a w=>match e with
  | .normal=>wpAny P .any l.toArray Q fuel (listed.toArray.setIfInBounds i true) a w
  |e=>Q e a w) ⟨fun a' w' F' H' hs' hk=>by
   have:=hk a' w' hs' Q hq;rw [List.setIfInBounds_toArray];exact this,fun ch a' w' hp=>hq.pan ch a' w' hp⟩
 unfold wpOp;simp only [ho];unfold wpList at h2;split
 ·rename_i hw;rw [if_pos hw]at h2;rcases h2 with h2|h2
  ·exact .inl (JP (fun _ _ _ h=>h) (fun _ _ h=>h) h2)
  ·exact .inr ⟨h2.1,h2.2⟩
 ·rename_i hw;rw [if_neg hw]at h2;exact h2
theorem WPA.done {fuel:Nat}{listed:List Bool}(h:K F H) (hr:(Region.ready .any ops listed.toArray).isEmpty=true:=by decide +kernel):WPA P C n ops fuel listed K F H:=by
 have hr':Region.ready .any ops listed.toArray=[]:=List.isEmpty_iff.1 hr;intro a w hs Q hq;have:=hq.norm a w F H hs h;cases fuel with
 |zero=>exact⟨hr',this⟩
 |succ fuel=>exact⟨fun _=>this,fun i hi=>by rw [hr']at hi;cases hi⟩
theorem WdA {id:Nat}{l:List Oper}(h:WPA P C n l.toArray l.length (List.replicate l.length false) (fun F H=>Q .normal F H) F H) (hm:P.follows .mixedOrders=true:=by kernel_rfl):WP P C n (.region id l.toArray true) Q F H:=by
 intro a w hs;refine wp_region_any hm ?_
 have hs':St C n F H a {w with drawn:=w.drawn+1}:=by
  obtain⟨hdef,hn,m,h1,h2,h3,h4,h5⟩:=hs;exact⟨hdef,hn,m,⟨h1.at',h1.base⟩,⟨h2.1,h2.2⟩,h3.drw,h4,h5⟩
 have:=h a _ hs' (oE C n Q) .lift;simpa using this
end
@[irreducible] def fnv (f:FuncId) (first caps:List SV):SV :=
 ⟨fun m v=>∃a b:Array Value,v = .func (.func f) a b∧dC m first a.toList∧dC m caps b.toList,fun h ⟨a,b,e,x,y⟩=>⟨a,b,e,x.mono h,y.mono h⟩⟩
class FV (s:SV) (f:outParam FuncId) (first caps:outParam (List SV)):Prop where
 h:∀m v,s.p m v→∃a b:Array Value,v = .func (.func f) a b∧dC m first a.toList∧dC m caps b.toList
instance (f:FuncId) (first caps:List SV):FV (fnv f first caps) f first caps:=⟨fun m v h=>by unfold fnv at h;exact h⟩
instance (f:FuncId):FV (lit (.func (.func f) #[] #[])) f [] []:=⟨fun m v h=>by rw [ap]at h;exact⟨#[],#[],h,trivial,trivial⟩⟩
instance (f:FuncId) (first caps:List SV):CO (fnv f first caps) [fnv f first caps]:=lp fun m v h=>by unfold fnv at h;obtain⟨a,b,rfl,_⟩:=h;exact⟨rfl,rfl⟩
instance (f:Fn) (a b:Array Value):CO (lit (.func f a b)) [lit (.func f a b)]:=lp fun m v h=>by rw [ap]at h;subst h;exact⟨rfl,rfl⟩
theorem dC.append {m:Mem}:∀{cs ds:List SV}{vs us:List Value},dC m cs vs→dC m ds us→dC m (cs++ds) (vs++us)
 | [],_,[],_,_,k=>k
 |_::_,_,_::_,_,h,k=>⟨h.1,h.2.append k⟩
 | [],_,_::_,_,h,_=>h.elim
 |_::_,_,[],_,h,_=>h.elim
inductive Spl:LH→LH→LH→Prop
 |nil (R:LH):Spl R [] R
 |cons {b:Nat}{T:TypeId}{cs:List SV}{H H1 Hin R:LH}(h:aq b T cs H H1) (k:Spl H1 Hin R):Spl H ((b,T,cs)::Hin) R
theorem aq.perm {b:Nat}{T:TypeId}{cs:List SV}{H H':LH}(h:aq b T cs H H'):H.Perm ((b,T,cs)::H'):=by
 induction h with
 |here=>exact j5 _
 |there e _ ih=>exact(ih.cons e).trans (List.Perm.swap _ _ _)
theorem Spl.perm {H Hin R:LH}(h:Spl H Hin R):H.Perm (Hin++R):=by
 induction h with
 |nil=>exact j5 _
 |cons h _ ih=>exact h.perm.trans (ih.cons _)
def PuH (P:Program) (f:FuncId) (args:List SV) (Hin:LH) (R X:SV→LH→Prop):Prop :=
 kT P f=true∧∀(m:Mem) (w:World) (vs:List Value),dD m w→HOk m w Hin→dC m args vs→
  Calls P f vs.toArray w fun e w'=>∃m' H',dD m' w'∧HOk m' w' H'∧Rel (keys Hin) m w m' w'∧(∀e∈H',e.1∈keys Hin∨w.heap.size≤e.1)∧
   ((∃v res,e = .returned v∧res.p m' v∧R res H')∨∃v pv,e = .panicked [{v:=v,recovered:=false}]∧pv.p m' v∧X pv H')
def E5 (P:Program) (rs:Array ResultVar) (R:SV→LH→Prop):Exit→Fr→LH→Prop
 | .normal,F,H| .ret,F,H=>∃res H',ou P rs.toList res F H∧H'.Sublist H∧R res H'
 |_,_,_=>False
abbrev noX:SV→LH→Prop:=fun _ _=>False
section
variable {P:Program}{C:Ctx}{n:Nat}{F:Fr}{H:LH}{ops:Array Oper}{K:Fr→LH→Prop}{rest:List Oper}{ty:TypeId}{pos:String}{aft:Array Edge}
theorem HOk.sub' {m:Mem}{w:World}{H':LH}(h:HOk m w H) (k:H'.Sublist H):HOk m w H':=⟨(k.map _).nodup h.1,fun e he=>h.2 e (k.subset he)⟩
theorem PuH.intro {f:FuncId}{fn:Func}{c:Code}{args:List SV}{Hin:LH}{R X:SV→LH→Prop}(hf:P.funcs[f]? = some fn) (hb:fn.body=some c) (hbod:kT P f=true)
  (h:∀C:Ctx,C.pan=X→WP P C fn.ntmps c (E5 P fn.results R) (ini args) Hin):PuH P f args Hin R X:=by
 refine⟨hbod,fun m w vs hm hH ha=>?_⟩;refine calls_of_wp hf hb ?_
 have hst:St ⟨keys Hin,m,w,X,[]⟩ fn.ntmps (ini args) Hin ⟨vs.toArray++Array.replicate (fn.ntmps-vs.toArray.size) undef,[]⟩ w:=by
  refine⟨rfl,by simp only [rR,rQ];omega,m,hm,hH,Rel.refl _ _ _,fun e he => .inl (yx he),fun t=>?_⟩;have:=yK (us:=List.replicate (fn.ntmps-vs.toArray.size) undef) ha t;rw [show vs.toArray++Array.replicate (fn.ntmps-vs.toArray.size) undef=(vs++List.replicate (fn.ntmps-vs.toArray.size) undef).toArray from by simp];exact this
 refine wp_mono (h ⟨keys Hin,m,w,X,[]⟩ rfl _ w hst) ?_;rintro e a' w' (⟨F',H',⟨hdef,_,m',hm',hH',hr',h4',hp'⟩,hq⟩|⟨ch,rfl,hdef,m',v,pv,H',hch,hm',hH',hr',h4',hpv,hx⟩)
 ·have fin:(∃res H2,ou P fn.results.toList res F' H'∧H2.Sublist H'∧R res H2)→
    a'.defers=[]∧∃v,(results fn a'.tmps).run P w' = .ok v w'∧∃m' H',dD m' w'∧HOk m' w' H'∧Rel (keys Hin) m w m' w'∧(∀e∈H',e.1∈keys Hin∨w.heap.size≤e.1)∧
     ((∃v' res,Ending.returned v = .returned v'∧res.p m' v'∧R res H')∨∃v' pv,Ending.returned v = .panicked [{v:=v',recovered:=false}]∧pv.p m' v'∧X pv H'):=by
   rintro ⟨res,H2,he,hsub,hR⟩;obtain⟨v,hv,hpv⟩:=ul rfl he hm' hH' hp';exact⟨hdef,v,hv,m',H2,hm',hH'.sub' hsub,hr',fun e he=>h4' e (hsub.subset he), .inl ⟨v,res,rfl,hpv,hR⟩⟩
  cases e with
  |normal=>exact fin hq
  |ret=>exact fin hq
  |exit id=>exact hq.elim
  |goto l=>exact hq.elim
  |panic ch=>exact hq.elim
  |outgrown=>exact hq.elim
 ·subst hch;exact⟨hdef,m',H',hm',hH',hr',h4', .inr ⟨v,pv,rfl,hpv,hx⟩⟩
theorem PuH.mono {f:FuncId}{args:List SV}{Hin:LH}{R X R' X':SV→LH→Prop}(h:PuH P f args Hin R X) (hR:∀s H,R s H→R' s H) (hX:∀s H,X s H→X' s H):PuH P f args Hin R' X' :=
 ⟨h.1,fun m w vs h1 h2 h3=>(h.2 m w vs h1 h2 h3).mono fun _ _ ⟨m',H',a,b,c,d,k⟩=>⟨m',H',a,b,c,d,k.imp (fun⟨v,r,x,y,z⟩=>⟨v,r,x,y,hR _ _ z⟩) fun⟨v,r,x,y,z⟩=>⟨v,r,x,y,hX _ _ z⟩⟩⟩
theorem PuH.toPu {f:FuncId}{args:List SV}{res:SV}(h:PuH P f args [] (fun r _=>r=res) noX):Pu P f args res :=
 ⟨h.1,fun m w vs h1 h3=>(h.2 m w vs h1 ⟨by simp,fun e he=>by cases he⟩ h3).mono fun _ _ ⟨m',H',a,b,c,d,k⟩=>by
  rcases k with⟨v,r,rfl,y,rfl⟩|⟨_,_,_,_,z⟩
  ·exact⟨v,m',rfl,y,a,c⟩
  ·exact z.elim⟩
theorem A6 {x:Operand}{a:Act}{l:List Operand}{tys:Array TypeId}{d:Option Nat}{f:FuncId}{fa ca:Array Value}{g:Option (Nat×Bool)}(hb:kT P f=true) (hx:a.eval x = .func (.func f) fa ca) (w:World) :
  (execOp a.eval (⟨d, .call ⟨.value x,l.toArray,tys⟩,ty,pos,aft,g⟩:Oper)).run P w = .ok (.enter f (fa.toList++l.map a.eval++ca.toList).toArray) w:=by
 have e1:(fa++(l.map a.eval).toArray++ca)=(fa.toList++l.map a.eval++ca.toList).toArray:=by
  apply Array.ext';simp
 simp only [execOp,resolve,hx,Sem.run_bind,Deferred.ofValue,Sem.run_pure,Result.andThen_ok,invoke,iH,e1,i3 hb]
theorem WPL.callHG {d:Nat}{x:Operand}{s:SV}{f:FuncId}{first caps:List SV}{l:List Operand}{tys:Array TypeId}{svs:List SV}{Hin Rs:LH}{R X:SV→LH→Prop}{g:Option (Nat×Bool)}(hx:ev F x=s) [hfv:FV s f first caps] (hc:PuH P f svs Hin R X)
  (hs:Spl H Hin Rs) (ha:first++l.map (ev F)++caps=svs) (hd:Nat.blt d n=true) (hg:∀a w,St C n F H a w→Region.wanted (⟨some d, .call ⟨.value x,l.toArray,tys⟩,ty,pos,aft,g⟩:Oper) (yielded ops a.tmps)=true)
  (k:∀res H',R res H'→WPL P C n ops rest K (upd F d res) (H'++Rs)) (kx:∀pv H',X pv H'→C.pan pv (H'++Rs)):WPL P C n ops (⟨some d, .call ⟨.value x,l.toArray,tys⟩,ty,pos,aft,g⟩::rest) K F H:=by
 intro a w hst Q hq;have hw:=hg a w hst;obtain⟨hdef,hn,m,h1,h2,h3,h4,h5⟩:=hst
 have hp:∀x,(ev F x).p m (a.eval x):=fun x=>by
  cases x with
  |tmp t=>exact h5 t
  |const v=>unfold ev lit;rfl
  |global g=>unfold ev lit;rfl
  |func f=>unfold ev lit;rfl
 have hargs:=qI (m:=m) (a:=a) l fun x _=>hp x
 have e0:=hp x;rw [hx]at e0;obtain⟨fa,ca,hv,hfa,hca⟩:=hfv.h _ _ e0;have hall:dC m svs (fa.toList++l.map a.eval++ca.toList):=ha▸(hfa.append hargs).append hca
 have hperm:=hs.perm;have h2':=h2.perm hperm;have hHin:HOk m w Hin:=⟨by have:=h2'.1;rw [aH]at this;exact(jh.1 this).1,fun e he=>h2'.2 e (by simp [he])⟩
 have hcall:=hc.2 m w _ h1 hHin hall;refine wpList_step fun K' hK'=>?_
 rw [if_pos hw];unfold Oper.wp;rw [A6 hc.1 hv];refine Calls.mono hcall ?_;rintro _ w' ⟨m',H',hm',hH',hr,hnew,hres⟩
 have hnk:∀e∈Rs,e.1∉keys Hin:=fun e he hk=>by
  obtain⟨e',he',hke⟩:=aj.1 hk;have:=h2'.1;rw [aH]at this;exact(jh.1 this).2.2 _ (aj.2 ⟨e',he',rfl⟩) _ (aj.2 ⟨e,he,rfl⟩) hke
 have hRs:∀e∈Rs,m' e.1=none∧jt m' w' e.1 e.2.1 e.2.2:=fun e he=>by
  obtain⟨g1,g2⟩:=h2'.2 e (by simp [he]);have hlt:=g2.lt;obtain⟨arr,g3,g4⟩:=g2;exact⟨(hr.old _ hlt (hnk e he)).trans g1,arr,(hr.block _ hlt (hnk e he)).trans g3,g4.mono hr.le⟩
 have hHn:HOk m' w' (H'++Rs):=by
  refine⟨?_,fun e he=>?_⟩
  ·rw [aH,jh];refine⟨hH'.1,by have:=h2'.1;rw [aH]at this;exact(jh.1 this).2.1,fun x hx y hy hxy=>?_⟩;obtain⟨e1,he1,rfl⟩:=aj.1 hx;obtain⟨e2,he2,rfl⟩:=aj.1 hy;rcases hnew e1 he1 with h|h
   ·exact hnk e2 he2 (hxy▸h)
   ·have:=(h2'.2 e2 (by simp [he2])).2.lt;omega
  ·rcases az.1 he with h|h
   ·exact hH'.2 e h
   ·exact hRs e h
 have hrel:Rel C.ks C.m C.w m' w':=h3.trans hr fun b hb hk=>by
  obtain⟨e',he',rfl⟩:=aj.1 hk;rcases h4 e' (hperm.mem_iff.2 (by simp [he']))with h|h
  ·exact h
  ·exact absurd hb (iK.2 h)
 have hown:∀e∈H'++Rs,e.1∈C.ks∨C.w.heap.size≤e.1:=fun e he=>by
  rcases az.1 he with h|h
  ·rcases hnew e h with h|h
   ·obtain⟨e',he',hke⟩:=aj.1 h;have:=h4 e' (hperm.mem_iff.2 (by simp [he']));rw [hke]at this;exact this
   ·exact .inr (aU h3.size h)
  ·exact h4 e (hperm.mem_iff.2 (by simp [h]))
 rcases hres with⟨v,res,rfl,hv',hR⟩|⟨v,pv,rfl,hv',hX⟩
 ·refine hK' _ _ (k res H' hR _ _ ?_ Q hq);refine⟨hdef,by simpa [Act.put] using hn,m',hm',hHn,hrel,hown,fun t=>?_⟩;rw [gT (cQ (ay.mp hd) hn)];unfold Ab.upd;by_cases ht:t=d
  ·subst ht;rw [if_pos rfl,cY];exact hv'
  ·rw [if_neg ht]
   have:Nat.beq t d=false:=by
    cases hb:Nat.beq t d with
    |false=>rfl
    |true=>exact absurd (bA hb) ht
   rw [this];exact(F t).mono hr.le (h5 t)
 ·exact hq.pan _ _ _ ⟨hdef,m',v,pv,H'++Rs,rfl,hm',hHn,hrel,hown,hv',kx pv H' hX⟩
theorem WPL.callH {d:Nat}{x:Operand}{s:SV}{f:FuncId}{first caps:List SV}{l:List Operand}{tys:Array TypeId}{svs:List SV}{Hin Rs:LH}{R X:SV→LH→Prop}(hx:ev F x=s) [hfv:FV s f first caps] (hc:PuH P f svs Hin R X)
  (hs:Spl H Hin Rs) (ha:first++l.map (ev F)++caps=svs) (hd:Nat.blt d n=true)
  (k:∀res H',R res H'→WPL P C n ops rest K (upd F d res) (H'++Rs)) (kx:∀pv H',X pv H'→C.pan pv (H'++Rs)):WPL P C n ops (⟨some d, .call ⟨.value x,l.toArray,tys⟩,ty,pos,aft,none⟩::rest) K F H :=
 .callHG hx hc hs ha hd (fun _ _ _=>rfl) k kx
theorem WPL.panic {x:Operand}{t:TypeId}{v:Value}(hx:ev F x=lit (.iface t v)) (kx:C.pan (lit (.iface t v)) H){d:Option Nat}:WPL P C n ops (⟨d, .panic x,ty,pos,aft,none⟩::rest) K F H:=by
 intro a w hst Q hq;obtain⟨hdef,hn,m,h1,h2,h3,h4,h5⟩:=hst
 have hp:∀x,(ev F x).p m (a.eval x):=fun x=>by
  cases x with
  |tmp t=>exact h5 t
  |const v=>unfold ev lit;rfl
  |global g=>unfold ev lit;rfl
  |func f=>unfold ev lit;rfl
 have e0:=hp x;rw [hx,ap]at e0;refine wpList_plain rfl fun K' hK'=>?_
 unfold Oper.wp
 have hrun:(execOp a.eval (⟨d, .panic x,ty,pos,aft,none⟩:Oper)).run P w = .halt (.panic (.iface t v)) w:=by
  simp [execOp,e0,Instr.panic]
 rw [hrun];exact hq.pan _ _ _ ⟨hdef,m,_,lit (.iface t v),H,rfl,h1,h2,h3,h4,ap.2 rfl,kx⟩
theorem wD {f:FuncId}{l1 l2:List Operand}{first caps:List SV}(h1:l1.map (ev F)=first) (h2:l2.map (ev F)=caps):OpV P (.makeFunc (.func f) l1.toArray l2.toArray) ty F H (fnv f first caps) :=
 OpV.pure fun m w o a ho _ _ _ h=>by
  have g1:=qI (m:=m) (a:=a) l1 fun x hx=>h x (by simp [Op.operands,hx])
  have g2:=qI (m:=m) (a:=a) l2 fun x hx=>h x (by simp [Op.operands,hx])
  rw [h1]at g1;rw [h2]at g2;refine⟨.func (.func f) (l1.map a.eval).toArray (l2.map a.eval).toArray,?_,by unfold fnv;exact⟨_,_,rfl,by simpa using g1,by simpa using g2⟩⟩;simp [execOp,ho,Instr.makeFunc]
end
abbrev str (l:List UInt8):SV:=lit (.string ⟨l.toArray⟩)
theorem JF (a b:List UInt8):(⟨a.toArray⟩++⟨b.toArray⟩:ByteArray)=⟨(a++b).toArray⟩:=by apply ByteArray.ext;simp
theorem sH (a:List UInt8):(⟨a.toArray⟩:ByteArray).size=a.length:=by simp [ByteArray.size]
theorem S2 (a:List UInt8) (i:Nat) (h:i<a.length):(⟨a.toArray⟩:ByteArray)[i]? = some (a.getD i 0):=by
 have:i<(⟨a.toArray⟩:ByteArray).size:=by rw [sH];exact h
 rw [show(⟨a.toArray⟩:ByteArray)[i]? = some ((⟨a.toArray⟩:ByteArray)[i]'this)from getElem?_pos (⟨a.toArray⟩:ByteArray) i this];congr 1
 show a.toArray[i]'_=_
 simp [List.getD,h]
theorem G4 (a:List UInt8) (i j:Nat):(⟨a.toArray⟩:ByteArray).extract i j=⟨((a.take j).drop i).toArray⟩:=by
 apply ByteArray.ext;rw [ByteArray.data_extract];apply Array.ext';simp [n7]
section
variable {P:Program}{F:Fr}{H:LH}{ty:TypeId}{T T':TypeId}{x y:Operand}{a b:List UInt8}
theorem Oi (hx:ev F x=str a) (hy:ev F y=str b) (hl:a.length+b.length≤9223372036854775807):OpV P (.binOp .add T x y T') ty F H (str (a++b)) :=
 eH hx hy (fun w=>by
  have h0:¬(((⟨a.toArray⟩:ByteArray).size+(⟨b.toArray⟩:ByteArray).size:Nat):Int)>IntKind.i64.max:=by
   rw [sH,sH,show IntKind.i64.max=9223372036854775807 from rfl];omega
  simp only [Go.binOp,Op.stringOp,if_neg h0,JF,Sem.run_pure]) (fun w=>by simp [Go.eqGuard])
theorem Nc (a b:List UInt8):((⟨a.toArray⟩:ByteArray).toList==(⟨b.toArray⟩:ByteArray).toList)=decide (a=b):=by
 rw [ByteArray.toList_eq,ByteArray.toList_eq];by_cases h:a=b
 ·subst h;simp
 ·simp [h]
theorem bN {r:Bool}(hx:ev F x=str a) (hy:ev F y=str b) (hr:decide (a=b)=r):OpV P (.binOp .eql T x y T') ty F H (lit (.bool r)) :=
 eH hx hy (fun w=>by simp only [Go.binOp,Op.stringOp,Nc,hr,Sem.run_pure]) (fun w=>by simp [Go.eqGuard])
theorem Og {r:Bool}(hx:ev F x=str a) (hy:ev F y=str b) (hr:decide (a=b)=r):OpV P (.binOp .neq T x y T') ty F H (lit (.bool (!r))) :=
 eH hx hy (fun w=>by simp only [Go.binOp,Op.stringOp,Nc,hr,Sem.run_pure]) (fun w=>by simp [Go.eqGuard])
theorem Oh [hT:TSr P T] (hx:ev F x=str a):OpV P (.call ⟨.builtin .len,#[x],#[T]⟩) ty F H (lit (.int .i64 a.length)) :=
 OpV.pure fun m w o c ho _ _ _ h=>by
  have h0:=h x (by simp [Op.operands,Call.operands]);rw [hx,ap]at h0;refine⟨_,?_,ap.2 rfl⟩
  have e1:(Builtin.len_ #[T] o.type #[.string ⟨a.toArray⟩]).run P w = .ok (.int .i64 a.length) w:=by
   simp [Builtin.len_,underlying,hT.h,goInt,sH]
  simp [execOp,ho,resolve,invoke,builtin,h0,e1]
theorem uA [hT:TSr P T]{k:IntKind}{i:Nat}(hx:ev F x=str a) (hi:ev F y=lit (.int k i)) (h1:i<a.length):OpV P (.index T x y) ty F H (lit (.int .u8 ((a.getD i 0).toNat:Nat))) :=
 OpV.pure fun m w o c ho _ _ _ h=>by
  have h0:=h x (by simp [Op.operands]);rw [hx,ap]at h0;have h2:=h y (by simp [Op.operands]);rw [hi,ap]at h2;refine⟨_,?_,ap.2 rfl⟩;simp [execOp,ho,h0,h2,Instr.index,asIntOf,underlying,hT.h,S2 a i h1]
theorem R0 [hT:TSr P T]{lo hi:Option Operand}{i j:Nat}(hx:ev F x=str a) (hlo:∀y,lo=some y→∃ki v,ev F y=lit (.int ki v)∧v=(i:Int)) (hlo':lo=none→i=0) (hhi:∀y,hi=some y→∃ki v,ev F y=lit (.int ki v)∧v=(j:Int)) (hhi':hi=none→j=a.length)
  (hij:i≤j) (hj:j≤a.length):OpV P (.slice T x lo hi none) ty F H (str ((a.take j).drop i)) :=
 OpV.pure fun m w o c ho _ _ _ h=>by
  have h0:=h x (by cases lo <;> cases hi <;> simp [Op.operands]);rw [hx,ap]at h0
  have bl:∀(y:Operand) (l u:Nat) (ki:IntKind) (code:BoundsCode),c.eval y = .int ki l→l≤u→(Instr.sliceBound (c.eval y) u code).run P w = .ok l w:=by
   intro y l u ki code hy hle;have h1:(l:Int)≤(u:Int):=by omega
   simp [Instr.sliceBound,hy,asIntOf,h1]
  have hb:(Instr.sliceBounds false a.length a.length (lo.map c.eval) (hi.map c.eval) none).run P w = .ok (i,j,a.length) w:=by
   have vl:∀y,lo=some y→∃ki,c.eval y = .int ki i:=fun y hy=>by
    obtain⟨ki,v,hk,rfl⟩:=hlo y hy;have:=h y (by subst hy;cases hi <;> simp [Op.operands]);rw [hk,ap]at this;exact⟨ki,this⟩
   have vh:∀y,hi=some y→∃ki,c.eval y = .int ki j:=fun y hy=>by
    obtain⟨ki,v,hk,rfl⟩:=hhi y hy;have:=h y (by subst hy;cases lo <;> simp [Op.operands]);rw [hk,ap]at this;exact⟨ki,this⟩
   cases lo with
   |none =>
    have hi0:=hlo' rfl;subst hi0;cases hi with
    |none=>have:=hhi' rfl;subst this;simp [Instr.sliceBounds]
    |some y=>obtain⟨ki,hy⟩:=vh y rfl;simp [Instr.sliceBounds,bl y j a.length ki _ hy hj]
   |some x' =>
    obtain⟨kl,hxl⟩:=vl x' rfl;cases hi with
    |none=>have:=hhi' rfl;subst this;simp [Instr.sliceBounds,bl x' i _ kl _ hxl hij]
    |some y=>obtain⟨ki,hy⟩:=vh y rfl;simp [Instr.sliceBounds,bl y j a.length ki _ hy hj,bl x' i j kl _ hxl hij]
  refine⟨_,?_,ap.2 rfl⟩;simp [execOp,ho,Instr.sliceAt,Instr.slice,underlying,hT.h,h0,sH,hb,G4]
end
section
variable {P:Program}{F:Fr}{H:LH}{ty:TypeId}
theorem Lm {x ix:Operand}{T e:TypeId}{sz by_:Nat}{z:List SV}{g:Bool} [hT:TSl P T e] [hE:TY P e sz by_ z g]{ki:IntKind}{b off k c o':Nat}{i:Int}
  (hx:ev F x=lit (.slice (some ⟨b,off,none⟩) k c)) (hi:ev F ix=lit (.int ki i)) (h0:0≤i) (h1:i<k) (ho:off+i.toNat*sz=o'):OpV P (.indexAddr T x ix) ty F H (lit (.pointer (some ⟨b,o',none⟩))) :=
 BI (i:=i.toNat) hx (by rw [hi,Int.toNat_of_nonneg h0]) om ho
end
section
variable {P:Program}{C:Ctx}{n:Nat}{F:Fr}{H:LH}{Q:Exit→Fr→LH→Prop}
def WPR (P:Program) (C:Ctx) (n:Nat) (c:Code) (Q:Exit→Fr→LH→Prop) (k:Nat) (F:Fr) (H:LH):Prop :=
 ∀a w,St C n F H a w→Code.rounds P c (oE C n Q) k a w
theorem WP.unroll {c:Code}(k:Nat) (h:WPR P C n c Q k F H):WP P C n (.loop c) Q F H:=fun a w hs=>wp_loop_rounds k (h a w hs)
theorem WPR.succ {c:Code}{k:Nat}(h:WP P C n c (j8 (fun F' H'=>WPR P C n c Q k F' H') Q) F H):WPR P C n c Q (k+1) F H:=fun a w hs=>by
 rw [rounds_succ];refine wp_mono (h a w hs) ?_;rintro e a' w' (⟨F',H',hs',hq⟩|⟨ch,rfl,hp⟩)
 ·cases e with
  |normal=>exact hq a' w' hs'
  |_=>exact .inl ⟨F',H',hs',hq⟩
 ·exact .inr ⟨ch,rfl,hp⟩
end
theorem sI {x:Int}(h0 : -9223372036854775808≤x) (h1:x≤9223372036854775807):IntKind.i64.wrap x=x:=by
 simp only [IntKind.wrap,IntKind.bits,IntKind.signed,aX];by_cases h:(9223372036854775808:Int)≤x%18446744073709551616
 ·simp [h];omega
 ·simp [h];omega
theorem Ep {x:Int}(h0:0≤x) (h1:x≤18446744073709551615):IntKind.u64.wrap x=x:=by
 simp only [IntKind.wrap,IntKind.bits,IntKind.signed];simp;omega
theorem Es {x:Int}(h0:0≤x) (h1:x≤4294967295):IntKind.u32.wrap x=x:=by
 simp only [IntKind.wrap,IntKind.bits,IntKind.signed];simp;omega
theorem wu8 {x:Int}(h0:0≤x) (h1:x≤255):IntKind.u8.wrap x=x:=by
 simp only [IntKind.wrap,IntKind.bits,IntKind.signed];simp;omega
theorem zP (x:Int):IntKind.u32.wrap x=x%4294967296:=by simp [IntKind.wrap,IntKind.bits,IntKind.signed]
theorem zO (x:Int):IntKind.u64.wrap x=x%18446744073709551616:=by simp [IntKind.wrap,IntKind.bits,IntKind.signed]
theorem I4 (x:Int):IntKind.u8.wrap x=x%256:=by simp [IntKind.wrap,IntKind.bits,IntKind.signed]
theorem JR {x r:Int}(h:x=r) (h0 : -9223372036854775808≤r) (h1:r≤9223372036854775807):IntKind.i64.wrap x=r:=by subst h;exact sI h0 h1
section
variable {P:Program}{C:Ctx}{n:Nat}{F:Fr}{H:LH}{ops:Array Oper}{K:Fr→LH→Prop}{rest:List Oper}{Q:Exit→Fr→LH→Prop}
 {ty:TypeId}{pos:String}{aft:Array Edge}{d:Nat}
theorem EY (a b:Nat) (h:a≤9223372036854775807):IntKind.i64.wrap ((a:Int).tdiv (b:Int))=((a/b:Nat):Int):=by
 rw [Qf];have:=dw a b;generalize a/b=q at *;exact sI om om
theorem SC {x b:Int}(h0:0≤x) (h1:x≤9223372036854775807) (hb:0<b):IntKind.i64.wrap (x.tdiv b)=x/b:=by
 rw [Int.tdiv_eq_ediv_of_nonneg h0];have h2:=Int.ediv_le_self b h0;have h3:=Int.ediv_nonneg h0 (Int.le_of_lt hb);exact sI om om
theorem SA {x b:Int}(h0:0≤x):x.tmod b=x%b:=Int.tmod_eq_emod_of_nonneg h0
section
variable {x ix:Operand}{T e:TypeId}{by_:Nat}{z:List SV}{g:Bool} [hS:TSl P T e] [hE:TY P e 1 by_ z g]{ki:IntKind}{ds:List Nat}{i:Nat}{b k c:Nat}
include hS hE
theorem Lp (hx:ev F x=dg ds) (hi:ev F ix=lit (.int ki ((i:Nat)+1))) (h1:i+1<ds.length):OpV P (.indexAddr T x ix) ty F H (pt [lit (.int .u32 (ds.getD (i+1) 0:Nat))]):=uB (i+1) hx hi om h1
theorem Lq (hx:ev F x=dg ds) (hi:ev F ix=lit (.int ki ((i:Nat)-1))) (h0:1≤i) (h1:i-1<ds.length):OpV P (.indexAddr T x ix) ty F H (pt [lit (.int .u32 (ds.getD (i-1) 0:Nat))]):=uB (i-1) hx hi om h1
theorem IP (hx:ev F x=dg ds) (hi:ev F ix=lit (.int ki ((i:Nat)-2))) (h0:2≤i) (h1:i-2<ds.length):OpV P (.indexAddr T x ix) ty F H (pt [lit (.int .u32 (ds.getD (i-2) 0:Nat))]):=uB (i-2) hx hi om h1
theorem Ln (hx:ev F x=lit (.slice (some ⟨b,0,none⟩) k c)) (hi:ev F ix=lit (.int ki ((i:Nat)+1))) (h1:i+1<k):OpV P (.indexAddr T x ix) ty F H (lit (.pointer (some ⟨b,i+1,none⟩))):=yn (i+1) hx hi om h1
theorem Lo (hx:ev F x=lit (.slice (some ⟨b,0,none⟩) k c)) (hi:ev F ix=lit (.int ki ((i:Nat)-1))) (h0:1≤i) (h1:i-1<k):OpV P (.indexAddr T x ix) ty F H (lit (.pointer (some ⟨b,i-1,none⟩))):=yn (i-1) hx hi om h1
theorem IN (hx:ev F x=lit (.slice (some ⟨b,0,none⟩) k c)) (hi:ev F ix=lit (.int ki ((i:Nat)-2))) (h0:2≤i) (h1:i-2<k):OpV P (.indexAddr T x ix) ty F H (lit (.pointer (some ⟨b,i-2,none⟩))):=yn (i-2) hx hi om h1
end
theorem OL {T T':TypeId}{x y:Operand}{n:Nat}(hx:ev F x=lit (.int .i64 (n:Nat))) (hy:ev F y=lit (.int .i64 0)) (hn:n≤9223372036854775807):OpV P (.binOp .add T x y T') ty F H (lit (.int .i64 n)) :=
 Lu hx hy (by rw [Int.add_zero];exact sI om om)
theorem Ok {x:Operand}{cs:List SV}(hx:ev F x=pt cs):OpV P (.nilCheck x) ty F H (pt cs) :=
 OpV.pure fun m w o a ho _ _ _ h=>by
  have h0:=h x (by simp [Op.operands]);rw [hx]at h0;have h1:=h0;unfold pt at h1;obtain⟨b,o0,h1,_⟩:=h1;exact⟨_,by simp [execOp,ho,h1],h1▸h0⟩
theorem Ol {x:Operand}{b:Addr}(hx:ev F x=lit (.pointer (some b))):OpV P (.nilCheck x) ty F H (lit (.pointer (some b))) :=
 OpV.pure fun m w o a ho _ _ _ h=>by
  have h0:=h x (by simp [Op.operands]);rw [hx,ap]at h0;exact⟨_,by simp [execOp,ho,h0],ap.2 rfl⟩
theorem La {c x y:Operand}{sx:SV}(hc:ev F c=lit (.bool true)) (hx:ev F x=sx):OpV P (.pick c x y) ty F H sx:=BG hc hx rfl
theorem Lb {c x y:Operand}{sy:SV}(hc:ev F c=lit (.bool false)) (hy:ev F y=sy):OpV P (.pick c x y) ty F H sy:=BG hc rfl hy
theorem OC {T T':TypeId}{x y:Operand}{k:IntKind}{a b:Int}{r:Bool}(hx:ev F x=lit (.int k a)) (hy:ev F y=lit (.int k b)) (h:decide (a=b)=r):OpV P (.binOp .eql T x y T') ty F H (lit (.bool r)):=h▸Rd hx hy
theorem Om {T T':TypeId}{x y:Operand}{k:IntKind}{a b:Int}{r:Bool}(hx:ev F x=lit (.int k a)) (hy:ev F y=lit (.int k b)) (h:decide (a≠b)=r):OpV P (.binOp .neq T x y T') ty F H (lit (.bool r)):=h▸R7 hx hy
theorem Oo {T T':TypeId}{x y:Operand}{k:IntKind}{a b:Int}{r:Bool}(hx:ev F x=lit (.int k a)) (hy:ev F y=lit (.int k b)) (h:decide (a<b)=r):OpV P (.binOp .lss T x y T') ty F H (lit (.bool r)):=h▸R9 hx hy
theorem Oq {T T':TypeId}{x y:Operand}{k:IntKind}{a b:Int}{r:Bool}(hx:ev F x=lit (.int k a)) (hy:ev F y=lit (.int k b)) (h:decide (a≤b)=r):OpV P (.binOp .leq T x y T') ty F H (lit (.bool r)):=h▸Ra hx hy
theorem OA {T T':TypeId}{x y:Operand}{k:IntKind}{a b:Int}{r:Bool}(hx:ev F x=lit (.int k a)) (hy:ev F y=lit (.int k b)) (h:decide (b<a)=r):OpV P (.binOp .gtr T x y T') ty F H (lit (.bool r)):=h▸Rb hx hy
theorem OB {T T':TypeId}{x y:Operand}{k:IntKind}{a b:Int}{r:Bool}(hx:ev F x=lit (.int k a)) (hy:ev F y=lit (.int k b)) (h:decide (b≤a)=r):OpV P (.binOp .geq T x y T') ty F H (lit (.bool r)):=h▸Rc hx hy
theorem IT {T:TypeId}{fs:List (Nat×Nat)}{sz by_:Nat}{z:List SV}{g:Bool} [hS:TSt P T fs] [hT:TY P T sz by_ z g]{l:List (Nat×Operand)}{r:List (Nat×List SV)}{cs0 cs:List SV}
  (hp:dO F l r) (hf:lm fs z r=some cs0) (hcs:cs0=cs):OpV P (.build T l.toArray) ty F H (ag cs):=Lt hp (hcs▸hf)
theorem Ov0 {op : Op} {sv : SV} (h : OpV P op ty F H sv := by first
      |(apply On;(first|exact Eq.refl (lit _)|exact Eq.refl (dg _)|exact Eq.refl (ag _)|exact Eq.refl (pt _)|exact Eq.refl (sl _ _)|exact Eq.refl (nsl _ _)|exact Eq.refl (tup _)|exact Eq.refl top|exact rfl))
      |(apply IU;(first|exact Eq.refl (lit _)|exact Eq.refl (dg _)|exact Eq.refl (ag _)|exact Eq.refl (pt _)|exact Eq.refl (sl _ _)|exact Eq.refl (nsl _ _)|exact Eq.refl (tup _)|exact Eq.refl top|exact rfl))
      |(apply OL;(exact rfl);(exact rfl);omega)
      |(apply Ok;(exact rfl))
      |(apply Ol;(exact rfl))
      |(apply Lu;(exact rfl);(exact rfl);(first|(simp only [Int.reduceAdd,Int.reduceSub,Int.reduceMul];exact sI om om)|exact sI om om|exact Ep om om|exact Es om om|exact wu8 om om|exact zO _|exact zP _|exact I4 _|exact rfl))
      |(apply BD;(exact rfl);(exact rfl);(first|(simp only [Int.reduceAdd,Int.reduceSub,Int.reduceMul];exact sI om om)|exact sI om om|exact Ep om om|exact Es om om|exact wu8 om om|exact zO _|exact zP _|exact I4 _|exact rfl))
      |(apply R8;(exact rfl);(exact rfl);(first|(simp only [Int.reduceAdd,Int.reduceSub,Int.reduceMul];exact sI om om)|exact sI om om|exact Ep om om|exact Es om om|exact wu8 om om|exact zO _|exact zP _|exact I4 _|exact rfl))
      |(apply R5;(exact rfl);(exact rfl);omega;(first|exact KT _ 32 om|exact KT _ 10 om|exact KT _ _ om|exact EY _ 32 om|exact EY _ 10 om|exact EY _ _ om|exact SC om om om|(first|(simp only [Int.reduceAdd,Int.reduceSub,Int.reduceMul];exact sI om om)|exact sI om om|exact Ep om om|exact Es om om|exact wu8 om om|exact zO _|exact zP _|exact I4 _|exact rfl)))
      |(apply R4;(exact rfl);(exact rfl);omega;(first|exact K0 _ 32|exact K0 _ 10|exact K0 _ _|exact SA om|exact rfl))
      |(apply F8;(exact rfl);(exact rfl);(first|exact if_pos om|exact if_neg om))
      |(apply Lh;(exact rfl);(exact rfl);(first|exact if_pos om|exact if_neg om))
      |(apply OC;(exact rfl);(exact rfl);first|(apply a9;omega)|(apply aa;omega)|exact rfl)
      |(apply Om;(exact rfl);(exact rfl);first|(apply a9;omega)|(apply aa;omega)|exact rfl)
      |(apply Oo;(exact rfl);(exact rfl);first|(apply a9;omega)|(apply aa;omega)|exact rfl)
      |(apply Oq;(exact rfl);(exact rfl);first|(apply a9;omega)|(apply aa;omega)|exact rfl)
      |(apply OA;(exact rfl);(exact rfl);first|(apply a9;omega)|(apply aa;omega)|exact rfl)
      |(apply OB;(exact rfl);(exact rfl);first|(apply a9;omega)|(apply aa;omega)|exact rfl)
      |(apply La;(exact rfl);(first|exact Eq.refl (lit _)|exact Eq.refl (dg _)|exact Eq.refl (ag _)|exact Eq.refl (pt _)|exact Eq.refl (sl _ _)|exact Eq.refl (nsl _ _)|exact Eq.refl (tup _)|exact Eq.refl top|exact rfl))
      |(apply Lb;(exact rfl);(first|exact Eq.refl (lit _)|exact Eq.refl (dg _)|exact Eq.refl (ag _)|exact Eq.refl (pt _)|exact Eq.refl (sl _ _)|exact Eq.refl (nsl _ _)|exact Eq.refl (tup _)|exact Eq.refl top|exact rfl))
      |(apply Lc;(exact rfl);(exact rfl);(exact rfl))
      |(apply OE;(exact rfl);(first|(simp only [Int.reduceAdd,Int.reduceSub,Int.reduceMul];exact sI om om)|exact sI om om|exact Ep om om|exact Es om om|exact wu8 om om|exact zO _|exact zP _|exact I4 _|exact rfl))
      |(apply IJ;(exact rfl))
      |(apply IK;(exact rfl);(first|(simp only [Int.reduceAdd,Int.reduceSub,Int.reduceMul];exact sI om om)|exact sI om om|exact Ep om om|exact Es om om|exact wu8 om om|exact zO _|exact zP _|exact I4 _|exact rfl))
      |(apply R3;(exact rfl);(exact rfl);omega;(first|exact Qi om om|exact rfl))
      |(apply R2;(exact rfl);(exact rfl);omega;(first|exact Su _|exact So _|exact Sx _|exact Tm _|exact Sv _|exact rfl))
      |(apply OH;(exact rfl);(exact rfl))
      |(apply OG;(exact rfl);(exact rfl))
      |(apply GS;(exact rfl))
      |(apply BH;(exact rfl))
      |(apply GQ;(exact rfl))
      |(apply GP;(exact rfl))
      |(apply IS;(exact rfl);(exact rfl);(first|exact aB _|exact cj _|exact rfl))
      |(apply IM;(exact rfl);(first|exact Ms|exact(Mc Ms)|exact(Mc (Mc Ms))|exact(Mc (Mc (Mc Ms)))|exact(Mc (Mc (Mc (Mc Ms))))|exact(Mc (Mc (Mc (Mc (Mc Ms)))))|exact(Mc (Mc (Mc (Mc (Mc (Mc Ms))))))|exact(Mc (Mc (Mc (Mc (Mc (Mc (Mc Ms)))))))|exact(Mc (Mc (Mc (Mc (Mc (Mc (Mc (Mc Ms))))))))|exact(Mc (Mc (Mc (Mc (Mc (Mc (Mc (Mc (Mc Ms)))))))))|exact(Mc (Mc (Mc (Mc (Mc (Mc (Mc (Mc (Mc (Mc Ms))))))))))|exact(Mc (Mc (Mc (Mc (Mc (Mc (Mc (Mc (Mc (Mc (Mc Ms))))))))))));omega)
      |(apply eG;(exact rfl);(first|exact Ms|exact(Mc Ms)|exact(Mc (Mc Ms))|exact(Mc (Mc (Mc Ms)))|exact(Mc (Mc (Mc (Mc Ms))))|exact(Mc (Mc (Mc (Mc (Mc Ms)))))|exact(Mc (Mc (Mc (Mc (Mc (Mc Ms))))))|exact(Mc (Mc (Mc (Mc (Mc (Mc (Mc Ms)))))))|exact(Mc (Mc (Mc (Mc (Mc (Mc (Mc (Mc Ms))))))))|exact(Mc (Mc (Mc (Mc (Mc (Mc (Mc (Mc (Mc Ms)))))))))|exact(Mc (Mc (Mc (Mc (Mc (Mc (Mc (Mc (Mc (Mc Ms))))))))))|exact(Mc (Mc (Mc (Mc (Mc (Mc (Mc (Mc (Mc (Mc (Mc Ms))))))))))));(exact rfl))
      |(apply jS;(exact rfl);(first|exact Ms|exact(Mc Ms)|exact(Mc (Mc Ms))|exact(Mc (Mc (Mc Ms)))|exact(Mc (Mc (Mc (Mc Ms))))|exact(Mc (Mc (Mc (Mc (Mc Ms)))))|exact(Mc (Mc (Mc (Mc (Mc (Mc Ms))))))|exact(Mc (Mc (Mc (Mc (Mc (Mc (Mc Ms)))))))|exact(Mc (Mc (Mc (Mc (Mc (Mc (Mc (Mc Ms))))))))|exact(Mc (Mc (Mc (Mc (Mc (Mc (Mc (Mc (Mc Ms)))))))))|exact(Mc (Mc (Mc (Mc (Mc (Mc (Mc (Mc (Mc (Mc Ms))))))))))|exact(Mc (Mc (Mc (Mc (Mc (Mc (Mc (Mc (Mc (Mc (Mc Ms))))))))))));(first|(simp only [eM,bD,jG,gL,jF,iA,aB,cj,Nat.reduceAdd];done)|(simp only [eM,bD,jG,gL,jF,iA,aB,cj,Nat.reduceAdd];exact rfl)|exact rfl);(exact rfl))
      |(apply IR;(exact rfl);(exact rfl);(first|(simp only [eM,bD,jG,gL,jF,iA,aB,cj,Nat.reduceAdd];done)|(simp only [eM,bD,jG,gL,jF,iA,aB,cj,Nat.reduceAdd];exact rfl)|exact rfl))
      |(apply Lj;(exact rfl))
      |(apply IL;(exact rfl);(first|(simp only [eM,bD,jG,gL,jF,iA,aB,cj,Nat.reduceAdd];done)|(simp only [eM,bD,jG,gL,jF,iA,aB,cj,Nat.reduceAdd];exact rfl)|exact rfl);(exact rfl))
      |(apply IT;(repeat(first|exact dO.nil|(apply dO.cons;(first|exact Eq.refl (lit _)|exact Eq.refl (dg _)|exact Eq.refl (ag _)|exact Eq.refl (pt _)|exact Eq.refl (sl _ _)|exact Eq.refl (nsl _ _)|exact Eq.refl (tup _)|exact Eq.refl top|exact rfl);infer_instance)));(exact rfl);(first|(simp only [spl,bw,j4,iJ,lH,ab,a8,gK,j0,Nat.reduceMul,Nat.reduceAdd,bQ,aY,aB,cj];done)|(simp only [spl,bw,j4,iJ,lH,ab,a8,gK,j0,Nat.reduceMul,Nat.reduceAdd,bQ,aY,aB,cj];exact rfl)|exact rfl))
      |(apply F9;(exact rfl);(exact rfl))
      |(apply sh;(exact rfl);(exact rfl);omega)
      |(apply Lp;(exact rfl);(exact rfl);omega)
      |(apply Lq;(exact rfl);(exact rfl);omega;omega)
      |(apply IP;(exact rfl);(exact rfl);omega;omega)
      |(apply Ln;(exact rfl);(exact rfl);omega)
      |(apply Lo;(exact rfl);(exact rfl);omega;omega)
      |(apply IN;(exact rfl);(exact rfl);omega;omega)
      |(apply Ls;(exact rfl);(exact rfl);omega;omega)
      |(apply BI;(exact rfl);(exact rfl);omega;(first|exact zmo _|exact rfl))
      |(apply GU;(exact rfl);(exact rfl);omega)
      |(apply Lm;(exact rfl);(exact rfl);omega;omega;(first|(simp only [Int.reduceAdd,Int.reduceToNat,tr,Int.toNat_one,Nat.reduceMul,Nat.reduceAdd,aB,bQ,aY];done)|(simp only [Int.reduceAdd,Int.reduceToNat,tr,Int.toNat_one,Nat.reduceMul,Nat.reduceAdd,aB,bQ,aY];exact rfl)|exact rfl))
      |(apply OK;(exact rfl);(exact rfl);(first|exact Ms|exact(Mc Ms)|exact(Mc (Mc Ms))|exact(Mc (Mc (Mc Ms)))|exact(Mc (Mc (Mc (Mc Ms))))|exact(Mc (Mc (Mc (Mc (Mc Ms)))))|exact(Mc (Mc (Mc (Mc (Mc (Mc Ms))))))|exact(Mc (Mc (Mc (Mc (Mc (Mc (Mc Ms)))))))|exact(Mc (Mc (Mc (Mc (Mc (Mc (Mc (Mc Ms))))))))|exact(Mc (Mc (Mc (Mc (Mc (Mc (Mc (Mc (Mc Ms)))))))))|exact(Mc (Mc (Mc (Mc (Mc (Mc (Mc (Mc (Mc (Mc Ms))))))))))|exact(Mc (Mc (Mc (Mc (Mc (Mc (Mc (Mc (Mc (Mc (Mc Ms))))))))))));omega)
      |(apply OD;(exact rfl))
      |(apply Df;(exact rfl))
      |(apply Dc;(exact rfl))
      |(apply De;(exact rfl))
      |(apply Db;(exact rfl))
      |(apply Lk)
      |(apply Ov;kernel_rfl;(exact rfl))
      |(apply Or;kernel_rfl;(exact rfl))
      |(apply Ow;kernel_rfl;(exact rfl))
      |(apply Ot;kernel_rfl;(exact rfl))
      |(apply Oi;(exact rfl);(exact rfl);omega)
      |(apply Oh;(exact rfl))
      |(apply bN;(exact rfl);(exact rfl);(first|exact a9 (by assumption)|exact aa (by assumption)|exact(rfl:_=true)|exact(rfl:_=false)))
      |(apply Og;(exact rfl);(exact rfl);(first|exact a9 (by assumption)|exact aa (by assumption)|exact(rfl:_=true)|exact(rfl:_=false)))
      |(apply uA;(exact rfl);(exact rfl);omega)
      |(apply wD;(exact rfl);(exact rfl))
      |(apply zI;kernel_rfl;(exact rfl))
      |(apply gw;kernel_rfl;(first|exact Eq.refl (lit _)|exact Eq.refl (dg _)|exact Eq.refl (ag _)|exact Eq.refl (pt _)|exact Eq.refl (sl _ _)|exact Eq.refl (nsl _ _)|exact Eq.refl (tup _)|exact Eq.refl top|exact rfl))
      |(apply IQ;(exact rfl);(exact rfl);kernel_rfl;(exact rfl))):OpV P op ty F H sv:=h
def Vdp (P:Program) (ops:Array Oper) (n:Nat) (H:LH) (r:List NO') (K:List NW→Fr→Prop) (F:Fr) (i d:Nat) (op:Op) (ty:TypeId) (pos:String) (aft:Array Edge):Prop:=Dk P ops n H ((i,⟨some d,op,ty,pos,aft,none⟩)::r) K F
def Vdg (P:Program) (ops:Array Oper) (n:Nat) (H:LH) (r:List NO') (K:List NW→Fr→Prop) (F:Fr) (i d:Nat) (op:Op) (ty:TypeId) (pos:String) (aft:Array Edge) (j:Nat) (t:Bool):Prop:=Dk P ops n H ((i,⟨some d,op,ty,pos,aft,some (j,t)⟩)::r) K F
def Vdr (P:Program) (C:Ctx) (n:Nat) (id:Nat) (l:List Oper) (Q:Exit→Fr→LH→Prop) (F:Fr) (H:LH):Prop:=WP P C n (.region id l.toArray true) Q F H
theorem Sdr {id:Nat}{l:List Oper}(h:Vdr P C n id l Q F H):WP P C n (.region id l.toArray true) Q F H:=h
theorem Sdp {i:Nat}{op:Op}{r:List NO'}{K:List NW→Fr→Prop}(h:Vdp P ops n H r K F i d op ty pos aft):Dk P ops n H ((i,⟨some d,op,ty,pos,aft,none⟩)::r) K F:=h
theorem Sdg {i:Nat}{op:Op}{r:List NO'}{K:List NW→Fr→Prop}{j:Nat}{t:Bool}(h:Vdg P ops n H r K F i d op ty pos aft j t):Dk P ops n H ((i,⟨some d,op,ty,pos,aft,some (j,t)⟩)::r) K F:=h
theorem WdN {id:Nat}{l:List Oper}(k:Nat) (h:Dk P l.toArray n H (qU 0 k l) (dK P C n k l (l.drop k) Q H) F) (hm:P.follows .mixedOrders=true:=by kernel_rfl) (hchk:qJ l.toArray k=true:=by kernel_rfl):WP P C n (.region id l.toArray true) Q F H:=WP.drawN k hm hchk h
theorem Tc {i:Nat}{op:Op}{T:TypeId}{z:List SV}{mk:Nat→Value}{r:List NO'}{K:List NW→Fr→Prop}(hT:rM P op F T z mk) (k:Dk P ops n H r (fun N F'=>K (⟨i,d,T,z,mk⟩::N) F') F) (hnx:Fy op=false:=by exact rfl) (hd:Nat.blt d n=true:=by exact rfl):Dk P ops n H ((i,⟨some d,op,ty,pos,aft,none⟩)::r) K F:=Dk.new hT hnx hd k
theorem Wdl {i:Nat}{T e:TypeId}{sz by_:Nat}{z:List SV}{g:Bool} [hS:TSl P T e] [hT:TY P e sz by_ z g]{len:Nat}{l:List (Nat×Operand)}{r:List (Nat×List SV)}{cs0 cs:List SV}{rr:List NO'}{K:List NW→Fr→Prop}
  (k:Dk P ops n H rr (fun N F'=>K (⟨i,d,e,cs,mkS len⟩::N) F') F)
  (hp:dO F l r:=by(repeat(first|exact dO.nil|(apply dO.cons;(first|exact Eq.refl (lit _)|exact Eq.refl (dg _)|exact Eq.refl (ag _)|exact Eq.refl (pt _)|exact Eq.refl (sl _ _)|exact Eq.refl (nsl _ _)|exact Eq.refl (tup _)|exact Eq.refl top|exact rfl);infer_instance))))
  (hf:lm ((List.range len).map fun i=>(i*sz,sz)) (List.replicate len z).flatten r=some cs0:=by exact rfl) (hcs:cs0=cs:=by(first|(simp only [spl,bw,j4,iJ,lH,ab,a8,gK,j0,Nat.reduceMul,Nat.reduceAdd,bQ,aY,aB,cj];done)|(simp only [spl,bw,j4,iJ,lH,ab,a8,gK,j0,Nat.reduceMul,Nat.reduceAdd,bQ,aY,aB,cj];exact rfl)|exact rfl)) (hsz:Nat.ble (len*sz) 16777216=true:=by exact rfl) (hpos:Nat.blt 0 sz=true:=by exact rfl) (hd:Nat.blt d n=true:=by exact rfl) :
  Vdp P ops n H rr K F i d (.buildSlice T len l.toArray) ty pos aft:=Dk.new (nk hp (hcs▸hf) hsz hpos) rfl hd k
theorem Wdr {id:Nat}{l:List Oper}(h:Dk P l.toArray n H (IA 0 l) (dK P C n (wj l) l (zV l) Q H) F) (hm:P.follows .mixedOrders=true:=by kernel_rfl) (hchk:qJ l.toArray (wj l)=true:=by kernel_rfl):Vdr P C n id l Q F H:=WP.drawK hm hchk h
theorem WdV {id:Nat}{l:List Oper}(h:WPA P C n l.toArray l.length (List.replicate l.length false) (fun F H=>Q .normal F H) F H) (_hs:(Nat.ble l.length 6 && !qJ l.toArray (wj l))=true:=by decide +kernel) (hm:P.follows .mixedOrders=true:=by kernel_rfl):Vdr P C n id l Q F H:=WdA h hm
theorem TP {x:Operand}{t:TypeId}{v:Value}{dd:Option Nat}(kx:C.pan (lit (.iface t v)) H) (hx:ev F x=lit (.iface t v):=by exact rfl):WPL P C n ops (⟨dd, .panic x,ty,pos,aft,none⟩::rest) K F H := .panic hx kx
theorem ct {rs:Array ResultVar}{R:SV→LH→Prop}(res:SV) (H':LH) (h:ou P rs.toList res F H) (hs:H'.Sublist H) (hR:R res H'):E5 P rs R .ret F H:=⟨res,H',h,hs,hR⟩
theorem gB {rs:Array ResultVar}{R:SV→LH→Prop}(res:SV) (H':LH) (h:ou P rs.toList res F H) (hs:H'.Sublist H) (hR:R res H'):E5 P rs R .normal F H:=⟨res,H',h,hs,hR⟩
theorem Wdv {i:Nat}{op:Op}{sv:SV}{r:List NO'}{K:List NW→Fr→Prop}(k:Dk P ops n H r K (upd F d sv)) (hop:OpV P op ty F H sv:=by exact Ov0)
  (hd:Nat.blt d n=true:=by exact rfl):Vdp P ops n H r K F i d op ty pos aft:=Dk.val hop hd k
theorem Wdo {i:Nat}{op:Op}{sv:SV}{r:List NO'}{K:List NW→Fr→Prop}(hop:OpV P op ty F H sv) (k:Dk P ops n H r K (upd F d sv))
  (hd:Nat.blt d n=true:=by exact rfl):Dk P ops n H ((i,⟨some d,op,ty,pos,aft,none⟩)::r) K F:=Dk.val hop hd k
theorem Wdc {i:Nat}{f:FuncId}{l:List Operand}{tys:Array TypeId}{svs:List SV}{res:SV}{r:List NO'}{K:List NW→Fr→Prop}(hc:Pu P f svs res) (k:Dk P ops n H r K (upd F d res))
  (ha:l.map (ev F)=svs:=by exact rfl) (hd:Nat.blt d n=true:=by exact rfl):Dk P ops n H ((i,⟨some d, .call ⟨.value (.func f),l.toArray,tys⟩,ty,pos,aft,none⟩)::r) K F:=Dk.val (qw hc ha) hd k
theorem Wda {i:Nat}{T:TypeId}{sz by_:Nat}{z:List SV}{g:Bool} [hT:TY P T sz by_ z g]{r:List NO'}{K:List NW→Fr→Prop}
  (k:Dk P ops n H r (fun N F'=>K (⟨i,d,T,z,mkP⟩::N) F') F) (hd:Nat.blt d n=true:=by exact rfl):Vdp P ops n H r K F i d (.alloc T) ty pos aft:=Dk.new LI rfl hd k
theorem TQ {i:Nat}{op:Op}{sv:SV}{r:List NO'}{K:List NW→Fr→Prop}{j:Nat}{t:Bool}{oj:Oper}{dj:Nat}(k:Dk P ops n H r K (upd F d sv))
  (hj:ops[j]? = some oj:=by exact rfl) (hdj:oj.dst=some dj:=by exact rfl) (hf:F dj=lit (.bool t):=by exact rfl) (hop:OpV P op ty F H sv:=by exact Ov0)
  (hdn:Nat.blt dj n=true:=by exact rfl) (hd:Nat.blt d n=true:=by exact rfl):Vdg P ops n H r K F i d op ty pos aft j t:=Dk.valG hj hdj hf hdn hop hd k
theorem fJ {i:Nat}{op:Op}{sv:SV}{r:List NO'}{K:List NW→Fr→Prop}{j:Nat}{t:Bool}{oj:Oper}{dj:Nat}(hop:OpV P op ty F H sv) (k:Dk P ops n H r K (upd F d sv))
  (hj:ops[j]? = some oj:=by exact rfl) (hdj:oj.dst=some dj:=by exact rfl) (hf:F dj=lit (.bool t):=by exact rfl)
  (hdn:Nat.blt dj n=true:=by exact rfl) (hd:Nat.blt d n=true:=by exact rfl):Dk P ops n H ((i,⟨some d,op,ty,pos,aft,some (j,t)⟩)::r) K F:=Dk.valG hj hdj hf hdn hop hd k
theorem TR {i:Nat}{op:Op}{r:List NO'}{K:List NW→Fr→Prop}{j:Nat}{t t':Bool}{oj:Oper}{dj:Nat}(k:Dk P ops n H r K (upd F d (lit undef)))
  (hj:ops[j]? = some oj:=by exact rfl) (hdj:oj.dst=some dj:=by exact rfl) (hf:F dj=lit (.bool t'):=by exact rfl) (hne:(t'==t)=false:=by exact rfl)
  (hdn:Nat.blt dj n=true:=by exact rfl) (hd:Nat.blt d n=true:=by exact rfl):Vdg P ops n H r K F i d op ty pos aft j t:=Dk.skipG hj hdj hf hne hdn hd k
theorem Td {i:Nat}{op:Op}{r:List NO'}{K:List NW→Fr→Prop}{j:Nat}{t:Bool}{oj:Oper}{dj:Nat}(k:Dk P ops n H r K (upd F d (lit undef)))
  (hj:ops[j]? = some oj:=by exact rfl) (hdj:oj.dst=some dj:=by exact rfl) (hf:F dj=lit undef:=by exact rfl)
  (hdn:Nat.blt dj n=true:=by exact rfl) (hd:Nat.blt d n=true:=by exact rfl):Vdg P ops n H r K F i d op ty pos aft j t:=Dk.skipU hj hdj hf hdn hd k
def Vp (P:Program) (C:Ctx) (n:Nat) (ops:Array Oper) (rest:List Oper) (K:Fr→LH→Prop) (F:Fr) (H:LH) (d:Nat) (op:Op) (ty:TypeId) (pos:String) (aft:Array Edge):Prop:=WPL P C n ops (⟨some d,op,ty,pos,aft,none⟩::rest) K F H
def Vg (P:Program) (C:Ctx) (n:Nat) (ops:Array Oper) (rest:List Oper) (K:Fr→LH→Prop) (F:Fr) (H:LH) (d:Nat) (op:Op) (ty:TypeId) (pos:String) (aft:Array Edge) (j:Nat) (t:Bool):Prop:=WPL P C n ops (⟨some d,op,ty,pos,aft,some (j,t)⟩::rest) K F H
def Vs (P:Program) (C:Ctx) (n:Nat) (ops:Array Oper) (rest:List Oper) (K:Fr→LH→Prop) (F:Fr) (H:LH) (T:TypeId) (x v:Operand) (ty:TypeId) (pos:String) (aft:Array Edge):Prop:=WPL P C n ops (⟨none, .store T x v,ty,pos,aft,none⟩::rest) K F H
def Va (P:Program) (C:Ctx) (n:Nat) (ops:Array Oper) (rest:List Oper) (K:Fr→LH→Prop) (F:Fr) (H:LH) (d:Nat) (T:TypeId) (ty:TypeId) (pos:String) (aft:Array Edge):Prop:=WPL P C n ops (⟨some d, .alloc T,ty,pos,aft,none⟩::rest) K F H
def Vb (P:Program) (C:Ctx) (n:Nat) (ops:Array Oper) (rest:List Oper) (K:Fr→LH→Prop) (F:Fr) (H:LH) (d:Nat) (T:TypeId) (x:Operand) (ty:TypeId) (pos:String) (aft:Array Edge):Prop:=WPL P C n ops (⟨some d, .box T x,ty,pos,aft,none⟩::rest) K F H
def Vl (P:Program) (C:Ctx) (n:Nat) (ops:Array Oper) (rest:List Oper) (K:Fr→LH→Prop) (F:Fr) (H:LH) (d:Nat) (T:TypeId) (len:Nat) (l:List (Nat×Operand)) (ty:TypeId) (pos:String) (aft:Array Edge):Prop:=WPL P C n ops (⟨some d, .buildSlice T len l.toArray,ty,pos,aft,none⟩::rest) K F H
theorem Sl {T:TypeId}{len:Nat}{l:List (Nat×Operand)}(h:Vl P C n ops rest K F H d T len l ty pos aft):WPL P C n ops (⟨some d, .buildSlice T len l.toArray,ty,pos,aft,none⟩::rest) K F H:=h
theorem Sp {op:Op}(h:Vp P C n ops rest K F H d op ty pos aft):WPL P C n ops (⟨some d,op,ty,pos,aft,none⟩::rest) K F H:=h
theorem Sg {op:Op}{j:Nat}{t:Bool}(h:Vg P C n ops rest K F H d op ty pos aft j t):WPL P C n ops (⟨some d,op,ty,pos,aft,some (j,t)⟩::rest) K F H:=h
theorem Ss {T:TypeId}{x v:Operand}(h:Vs P C n ops rest K F H T x v ty pos aft):WPL P C n ops (⟨none, .store T x v,ty,pos,aft,none⟩::rest) K F H:=h
theorem Sa {T:TypeId}(h:Va P C n ops rest K F H d T ty pos aft):WPL P C n ops (⟨some d, .alloc T,ty,pos,aft,none⟩::rest) K F H:=h
theorem Sb {T:TypeId}{x:Operand}(h:Vb P C n ops rest K F H d T x ty pos aft):WPL P C n ops (⟨some d, .box T x,ty,pos,aft,none⟩::rest) K F H:=h
theorem Wv {op:Op}{sv:SV}(k:WPL P C n ops rest K (upd F d sv) H) (hop:OpV P op ty F H sv:=by exact Ov0)
  (hd:Nat.blt d n=true:=by exact rfl):Vp P C n ops rest K F H d op ty pos aft:=WPL.val hop hd k
theorem Wo {op:Op}{sv:SV}(hop:OpV P op ty F H sv) (k:WPL P C n ops rest K (upd F d sv) H) (hd:Nat.blt d n=true:=by exact rfl):WPL P C n ops (⟨some d,op,ty,pos,aft,none⟩::rest) K F H:=WPL.val hop hd k
theorem Wg {op:Op}{sv:SV}{j:Nat}{t:Bool}{oj:Oper}{dj:Nat}(k:WPL P C n ops rest K (upd F d sv) H)
  (hj:ops[j]? = some oj:=by exact rfl) (hdj:oj.dst=some dj:=by exact rfl) (hf:F dj=lit (.bool t):=by exact rfl) (hop:OpV P op ty F H sv:=by exact Ov0)
  (hdn:Nat.blt dj n=true:=by exact rfl) (hd:Nat.blt d n=true:=by exact rfl):Vg P C n ops rest K F H d op ty pos aft j t :=
 WPL.valG hj hdj hf hdn hop hd k
theorem Wog {op:Op}{sv:SV}{j:Nat}{t:Bool}{oj:Oper}{dj:Nat}(hop:OpV P op ty F H sv) (k:WPL P C n ops rest K (upd F d sv) H)
  (hj:ops[j]? = some oj:=by exact rfl) (hdj:oj.dst=some dj:=by exact rfl) (hf:F dj=lit (.bool t):=by exact rfl)
  (hdn:Nat.blt dj n=true:=by exact rfl) (hd:Nat.blt d n=true:=by exact rfl):WPL P C n ops (⟨some d,op,ty,pos,aft,some (j,t)⟩::rest) K F H :=
 WPL.valG hj hdj hf hdn hop hd k
theorem Wk {op:Op}{j:Nat}{t t':Bool}{oj:Oper}{dj:Nat}(k:WPL P C n ops rest K (upd F d (lit undef)) H)
  (hj:ops[j]? = some oj:=by exact rfl) (hdj:oj.dst=some dj:=by exact rfl) (hf:F dj=lit (.bool t'):=by exact rfl) (hne:(t'==t)=false:=by exact rfl)
  (hdn:Nat.blt dj n=true:=by exact rfl) (hd:Nat.blt d n=true:=by exact rfl):Vg P C n ops rest K F H d op ty pos aft j t :=
 WPL.skipG hj hdj hf hdn hne hd k
theorem Wku {op:Op}{j:Nat}{t:Bool}{oj:Oper}{dj:Nat}(k:WPL P C n ops rest K (upd F d (lit undef)) H)
  (hj:ops[j]? = some oj:=by exact rfl) (hdj:oj.dst=some dj:=by exact rfl) (hf:F dj=lit undef:=by exact rfl)
  (hd:Nat.blt d n=true:=by exact rfl):Vg P C n ops rest K F H d op ty pos aft j t:=WPL.skipU hj hdj hf hd k
theorem Wa {T:TypeId}{sz by_:Nat}{z:List SV}{g:Bool} [hT:TY P T sz by_ z g]
  (k:∀b,WPL P C n ops rest K (upd F d (lit (.pointer (some ⟨b,0,none⟩)))) ((b,T,z)::H)) (hd:Nat.blt d n=true:=by exact rfl):Va P C n ops rest K F H d T ty pos aft:=WPL.alloc hd k
theorem Wb {T:TypeId}{x:Operand}{sv:SV}{cs:List SV}(k:∀b,WPL P C n ops rest K (upd F d (lit (.pointer (some ⟨b,0,none⟩)))) ((b,T,cs)::H))
  (hx:ev F x=sv:=by(first|exact Eq.refl (lit _)|exact Eq.refl (dg _)|exact Eq.refl (ag _)|exact Eq.refl (pt _)|exact Eq.refl (sl _ _)|exact Eq.refl (nsl _ _)|exact Eq.refl (tup _)|exact Eq.refl top|exact rfl)) (hco:CO sv cs:=by infer_instance) (hd:Nat.blt d n=true:=by exact rfl):Vb P C n ops rest K F H d T x ty pos aft :=
 WPL.box hx hd k
theorem Ws {T T':TypeId}{sz by_:Nat}{z:List SV}{g:Bool} [hT:TY P T sz by_ z g]{x v:Operand}{b o:Nat}{sv:SV}{cs cs' ds:List SV}{H':LH}
  (k:WPL P C n ops rest K F H')
  (hx:ev F x=lit (.pointer (some ⟨b,o,none⟩)):=by exact rfl) (hv:ev F v=sv:=by(first|exact Eq.refl (lit _)|exact Eq.refl (dg _)|exact Eq.refl (ag _)|exact Eq.refl (pt _)|exact Eq.refl (sl _ _)|exact Eq.refl (nsl _ _)|exact Eq.refl (tup _)|exact Eq.refl top|exact rfl)) (hco:CO sv ds:=by infer_instance)
  (_hm:(b,T',cs)∈H:=by(first|exact Ms|exact(Mc Ms)|exact(Mc (Mc Ms))|exact(Mc (Mc (Mc Ms)))|exact(Mc (Mc (Mc (Mc Ms))))|exact(Mc (Mc (Mc (Mc (Mc Ms)))))|exact(Mc (Mc (Mc (Mc (Mc (Mc Ms))))))|exact(Mc (Mc (Mc (Mc (Mc (Mc (Mc Ms)))))))|exact(Mc (Mc (Mc (Mc (Mc (Mc (Mc (Mc Ms))))))))|exact(Mc (Mc (Mc (Mc (Mc (Mc (Mc (Mc (Mc Ms)))))))))|exact(Mc (Mc (Mc (Mc (Mc (Mc (Mc (Mc (Mc (Mc Ms))))))))))|exact(Mc (Mc (Mc (Mc (Mc (Mc (Mc (Mc (Mc (Mc (Mc Ms))))))))))))) (hsp:spl cs o ds=cs':=by(first|(simp only [lm,spl,ff,gg,aF,bq,Nat.reduceAdd,aB,gK,j0,Nat.reduceBEq,Nat.beq_self_eq_true,jE,iB];done)|(simp only [spl,gK,j0,Nat.reduceAdd,aB];exact rfl)))
  (hu:br b T' cs cs' H H':=by(first|exact(br.here _)|exact(br.there _ (br.here _))|exact(br.there _ (br.there _ (br.here _)))|exact(br.there _ (br.there _ (br.there _ (br.here _))))|exact(br.there _ (br.there _ (br.there _ (br.there _ (br.here _)))))|exact(br.there _ (br.there _ (br.there _ (br.there _ (br.there _ (br.here _))))))|exact(br.there _ (br.there _ (br.there _ (br.there _ (br.there _ (br.there _ (br.here _)))))))|exact(br.there _ (br.there _ (br.there _ (br.there _ (br.there _ (br.there _ (br.there _ (br.here _))))))))|exact(br.there _ (br.there _ (br.there _ (br.there _ (br.there _ (br.there _ (br.there _ (br.there _ (br.here _)))))))))|exact(br.there _ (br.there _ (br.there _ (br.there _ (br.there _ (br.there _ (br.there _ (br.there _ (br.there _ (br.here _))))))))))|exact(br.there _ (br.there _ (br.there _ (br.there _ (br.there _ (br.there _ (br.there _ (br.there _ (br.there _ (br.there _ (br.here _)))))))))))|exact(br.there _ (br.there _ (br.there _ (br.there _ (br.there _ (br.there _ (br.there _ (br.there _ (br.there _ (br.there _ (br.there _ (br.here _)))))))))))))) (hlen:Nat.beq ds.length sz=true:=by exact rfl)
  (hle:Nat.ble (o+sz) cs.length=true:=by exact rfl):Vs P C n ops rest K F H T x v ty pos aft:=WPL.store hx hv hlen hu hsp hle k
theorem Wl {T e:TypeId}{sz by_:Nat}{z:List SV}{g:Bool} [hS:TSl P T e] [hT:TY P e sz by_ z g]{len:Nat}{l:List (Nat×Operand)}{r:List (Nat×List SV)}{cs0 cs:List SV}
  (k:∀b,WPL P C n ops rest K (upd F d (lit (.slice (some ⟨b,0,none⟩) len len))) ((b,e,cs)::H))
  (hp:dO F l r:=by(repeat(first|exact dO.nil|(apply dO.cons;(first|exact Eq.refl (lit _)|exact Eq.refl (dg _)|exact Eq.refl (ag _)|exact Eq.refl (pt _)|exact Eq.refl (sl _ _)|exact Eq.refl (nsl _ _)|exact Eq.refl (tup _)|exact Eq.refl top|exact rfl);infer_instance))))
  (hf:lm ((List.range len).map fun i=>(i*sz,sz)) (List.replicate len z).flatten r=some cs0:=by exact rfl) (hcs:cs0=cs:=by(first|(simp only [spl,bw,j4,iJ,lH,ab,a8,gK,j0,Nat.reduceMul,Nat.reduceAdd,bQ,aY,aB,cj];done)|(simp only [spl,bw,j4,iJ,lH,ab,a8,gK,j0,Nat.reduceMul,Nat.reduceAdd,bQ,aY,aB,cj];exact rfl)|exact rfl)) (hsz:Nat.ble (len*sz) 16777216=true:=by exact rfl) (hpos:Nat.blt 0 sz=true:=by exact rfl) (hd:Nat.blt d n=true:=by exact rfl) :
  Vl P C n ops rest K F H d T len l ty pos aft:=WPL.bslice hp (hcs▸hf) hsz hpos hd k
theorem Wc {f:FuncId}{l:List Operand}{tys:Array TypeId}{svs:List SV}{res:SV}(hc:Pu P f svs res) (k:WPL P C n ops rest K (upd F d res) H)
  (ha:l.map (ev F)=svs:=by exact rfl) (hd:Nat.blt d n=true:=by exact rfl):WPL P C n ops (⟨some d, .call ⟨.value (.func f),l.toArray,tys⟩,ty,pos,aft,none⟩::rest) K F H:=WPL.val (qw hc ha) hd k
theorem Wcx {f:FuncId}{l:List Operand}{tys:Array TypeId}{res:SV}(hc:Pu P f (l.map (ev F)) res) (k:WPL P C n ops rest K (upd F d res) H)
  (hd:Nat.blt d n=true:=by exact rfl):WPL P C n ops (⟨some d, .call ⟨.value (.func f),l.toArray,tys⟩,ty,pos,aft,none⟩::rest) K F H:=WPL.val (qw hc rfl) hd k
theorem ol {i:Nat}{f:FuncId}{l:List Operand}{tys:Array TypeId}{res:SV}{r:List NO'}{K:List NW→Fr→Prop}(hc:Pu P f (l.map (ev F)) res) (k:Dk P ops n H r K (upd F d res))
  (hd:Nat.blt d n=true:=by exact rfl):Dk P ops n H ((i,⟨some d, .call ⟨.value (.func f),l.toArray,tys⟩,ty,pos,aft,none⟩)::r) K F:=Dk.val (qw hc rfl) hd k
theorem iE {f:FuncId}{l:List Operand}{tys:Array TypeId}{res:SV}{j:Nat}{t:Bool}{oj:Oper}{dj:Nat}(hc:Pu P f (l.map (ev F)) res) (k:WPL P C n ops rest K (upd F d res) H)
  (hj:ops[j]? = some oj:=by exact rfl) (hdj:oj.dst=some dj:=by exact rfl) (hf:F dj=lit (.bool t):=by exact rfl)
  (hdn:Nat.blt dj n=true:=by exact rfl) (hd:Nat.blt d n=true:=by exact rfl):WPL P C n ops (⟨some d, .call ⟨.value (.func f),l.toArray,tys⟩,ty,pos,aft,some (j,t)⟩::rest) K F H :=
 Wog (qw hc rfl) k hj hdj hf hdn hd
theorem l6 {i:Nat}{f:FuncId}{l:List Operand}{tys:Array TypeId}{res:SV}{r:List NO'}{K:List NW→Fr→Prop}{j:Nat}{t:Bool}{oj:Oper}{dj:Nat}(hc:Pu P f (l.map (ev F)) res) (k:Dk P ops n H r K (upd F d res))
  (hj:ops[j]? = some oj:=by exact rfl) (hdj:oj.dst=some dj:=by exact rfl) (hf:F dj=lit (.bool t):=by exact rfl)
  (hdn:Nat.blt dj n=true:=by exact rfl) (hd:Nat.blt d n=true:=by exact rfl):Dk P ops n H ((i,⟨some d, .call ⟨.value (.func f),l.toArray,tys⟩,ty,pos,aft,some (j,t)⟩)::r) K F :=
 fJ (qw hc rfl) k hj hdj hf hdn hd
theorem WP.seq' {x y:Code}(h:WP P C n x (j8 (WP P C n y Q) Q) F H):WP P C n (.seq x y) Q F H:=WP.join _ h fun _ _ h=>h
theorem WP.via {c:Code}{R:Fr→LH→Prop}(J:Fr→LH→Prop) (h:WP P C n c (j8 J Q) F H) (k:∀F H,J F H→R F H):WP P C n c (j8 R Q) F H :=
 h.mono fun e F H hq=>by cases e <;> first|exact k _ _ hq|exact hq
theorem WPL.via {l:List Oper}{R:Fr→LH→Prop}(J:Fr→LH→Prop) (h:WPL P C n ops l (fun F H=>j8 J Q .normal F H) F H) (k:∀F H,J F H→R F H):WPL P C n ops l (fun F H=>j8 R Q .normal F H) F H:=by
 intro a w hs Q' hq;exact h a w hs Q' ⟨fun a' w' F' H' hs' hj=>hq.norm a' w' F' H' hs' (k _ _ hj),hq.pan⟩
theorem WP.viaB {c:Code}{R:Fr→LH→Prop}{i:Nat}(J:Fr→LH→Prop) (h:WP P C n c (rG i (j8 J Q)) F H) (k:∀F H,J F H→R F H):WP P C n c (rG i (j8 R Q)) F H :=
 h.mono fun e F H hq=>by
  cases e with
  |normal=>exact k _ _ hq
  |exit j =>
   simp only [rG]at hq⊢;cases hb:Nat.beq j i with
   |true=>rw [hb]at hq;exact k _ _ hq
   |false=>rw [hb]at hq;exact hq
  |_=>exact hq
theorem xW {J:Fr→LH→Prop}(h:J F H):j8 J Q .normal F H:=h
theorem Qe {J:Fr→LH→Prop}(h:Q .ret F H):j8 J Q .ret F H:=h
theorem Qd {J:Fr→LH→Prop}{i:Nat}(h:Q (.exit i) F H):j8 J Q (.exit i) F H:=h
theorem SY {i:Nat}(h:Q .normal F H):rG i Q .normal F H:=h
theorem SW {i:Nat}(h:Q .ret F H):rG i Q .ret F H:=h
theorem SU {i:Nat}(h:Q .normal F H):rG i Q (.exit i) F H:=by simp only [rG,cY,iB];exact h
theorem SX {i j:Nat}(h:Q (.exit j) F H) (hne:Nat.beq j i=false:=by exact rfl):rG i Q (.exit j) F H:=by simp only [rG,hne,kK];exact h
theorem cV {rs:Array ResultVar}{res:SV}(h:ou P rs.toList res F H):FP P rs res .ret F H:=h
theorem jK {rs:Array ResultVar}{res:SV}(h:ou P rs.toList res F H):FP P rs res .normal F H:=h
theorem WPc {c:Operand}{x y:Code}{t:Bool}(h1:t=true→WP P C n x Q F H) (h2:t=false→WP P C n y Q F H) (hc:ev F c=lit (.bool t):=by exact rfl):WP P C n (.cond c x y) Q F H:=WP.cond hc h1 h2
theorem WPd {c:Operand}{x y:Code}{p:Prop} [Decidable p] (h1:p→WP P C n x Q F H) (h2:¬p→WP P C n y Q F H) (hc:ev F c=lit (.bool (decide p)):=by exact rfl):WP P C n (.cond c x y) Q F H:=WP.condD hc h1 h2
theorem WPt {c:Operand}{x y:Code}(hc:ev F c=lit (.bool true)) (h1:WP P C n x Q F H):WP P C n (.cond c x y) Q F H:=WP.cond hc (fun _=>h1) (fun h=>by cases h)
theorem WPf {c:Operand}{x y:Code}(hc:ev F c=lit (.bool false)) (h2:WP P C n y Q F H):WP P C n (.cond c x y) Q F H:=WP.cond hc (fun h=>by cases h) (fun _=>h2)
end
attribute [irreducible] WPR WPA WPI E5 PuH Dk Vl Vp Vg Vs Va Vb Vdp Vdg Vdr
structure pN (q:Prop):Prop where
 out:q
section
variable {p q:Prop}
theorem A1 (k:pN q) (h:pN q→p:=by intro k;(first|refine xW ?_|refine Qd ?_|refine Qe ?_|refine SY ?_|refine SU ?_|refine SW ?_|refine SX ?_|refine WP.seq' ?_|refine WP.block ?_|refine WP.reg ?_|refine scR ?_|refine scN ?_|refine scX ?_|refine WP.scope ?_|refine WP.label ?_|refine WP.skip ?_|refine WP.exit ?_|refine WP.ret ?_|refine WPL.nil ?_|(refine Ss ?_;refine Ws ?_)|(refine Sa ?_;refine Wa fun _=>?_)|(refine Sb ?_;refine Wb fun _=>?_)|(refine Sl ?_;refine Wl fun _=>?_)|(refine Sp ?_;refine Wv ?_)|(refine Sg ?_;first|refine Wg ?_|refine Wk ?_|refine Wku ?_)|(refine WPt rfl ?_)|(refine WPf rfl ?_)|(refine Sdr ?_;first|refine WdV ?_|refine Wdr ?_)|(refine Sdp ?_;first|refine Wda ?_|refine Wdl ?_|refine Wdv ?_)|(refine Sdg ?_;first|refine TQ ?_|refine TR ?_|refine Td ?_)|refine WPR.succ ?_|refine WPA.step ?_|refine WPA.done ?_|refine WPI.no ?_|refine WPI.both ?_|refine Dk.nil ?_|refine dK0 ?_|(refine dK1 fun _=>?_)|(refine dK2 fun _ _=>?_)|(refine dK3 fun _ _ _=>?_)|(refine dK4 fun _ _ _ _=>?_));(first|exact k.out|(rename_i a;revert a;exact k.out)|(rename_i a b;revert a b;exact k.out)|(rename_i a b c;revert a b c;exact k.out)|(rename_i a b c d;revert a b c d;exact k.out))):p:=h k
theorem AS (k:pN q) (h:pN q→p:=by intro k;(first|refine xW ?_|refine Qd ?_|refine Qe ?_|refine SY ?_|refine SU ?_|refine SW ?_|refine SX ?_|refine WP.seq' ?_|refine WP.block ?_|refine WP.reg ?_|refine scR ?_|refine scN ?_|refine scX ?_|refine WP.scope ?_|refine WP.label ?_|refine WP.skip ?_|refine WP.exit ?_|refine WP.ret ?_|refine WPL.nil ?_|(refine WPt rfl ?_)|(refine WPf rfl ?_));(first|exact k.out|(rename_i a;revert a;exact k.out)|(rename_i a b;revert a b;exact k.out)|(rename_i a b c;revert a b c;exact k.out)|(rename_i a b c d;revert a b c d;exact k.out))):p:=h k
theorem O1 (k:pN q) (h:pN q→p:=by intro k;(first|(refine Ss ?_;refine Ws ?_)|(refine Sa ?_;refine Wa fun _=>?_)|(refine Sb ?_;refine Wb fun _=>?_)|(refine Sl ?_;refine Wl fun _=>?_)|(refine Sp ?_;refine Wv ?_)|(refine Sg ?_;first|refine Wg ?_|refine Wk ?_|refine Wku ?_));(first|exact k.out|(rename_i a;revert a;exact k.out)|(rename_i a b;revert a b;exact k.out)|(rename_i a b c;revert a b c;exact k.out)|(rename_i a b c d;revert a b c d;exact k.out))):p:=h k
end
section
variable {P:Program}{F F':Fr}{H:LH}
theorem W4 {X p q:Prop}(c:X) (k:pN q) (h:X→pN q→p:=by intro c k;(first|refine Wcx c ?_|refine ol c ?_|refine iE c ?_|refine l6 c ?_);exact k.out):p:=h c k
theorem lfA (h:LeF F F':=by repeat(first|exact LeF.nil _|refine LeF.cons (Le.refl _) ?_|refine LeF.cons (Le.int om) ?_)):LeF F F':=h
theorem mmA {e:Nat×TypeId×List SV}(h:e∈H:=by repeat(first|exact Ms|apply xM)):e∈H:=h
theorem RVa {a:Nat}{T T':TypeId}{sz by_:Nat}{z cs cs':List SV} [hT:TY P T sz by_ z true]{b o:Nat}(ha:F a=lit (.pointer (some ⟨b,o,none⟩)):=by exact rfl) (hm:(b,T',cs)∈H:=by repeat(first|exact Ms|apply xM)) (hc:(cs.drop o).take sz=cs':=by(try simp only [eM,bD,jG,gL,jF,iA,aB,cj,Nat.reduceAdd]) <;> exact rfl) (hl:Nat.beq cs'.length sz=true:=by exact rfl):RV P F H (.cell a T) (ag cs'):=RV.cellA ha hm hc hl
theorem E1 {rs:Array ResultVar}{res:SV}{t:Nat}{ex:Exit}(hx:ex = .normal∨ex = .ret:=by first|exact .inl rfl|exact .inr rfl) (hr:rs.toList=[.tmp t]:=by exact rfl) (h:Le (F t) res:=by exact Le.refl _):FP P rs res ex F H:=by
 have e:ou P rs.toList res F H:=by rw [hr];exact bJ (RV.tmp rfl) h
 rcases hx with rfl|rfl
 ·exact jK e
 ·exact cV e
end
section
variable {P:Program}
theorem Lr {s:SV}:Le s s:=Le.refl s
theorem Pi {f:FuncId}{fn:Func}{c:Code}{args:List SV}{res:SV}(hf:P.funcs[f]?=some fn) (h:∀C:Ctx,WP P C fn.ntmps c (FP P fn.results res) (ini args) []) (hb:fn.body=some c:=by exact rfl) (hbod:kT P f=true:=by kernel_rfl):Pu P f args res:=Pu.intro hf hb hbod h
theorem G1 {p:Prop}(h:p:=by((first|refine cV ?_|refine jK ?_);refine bJ RVa (Le.refl _))):p:=h
theorem G2 {p:Prop}(h:p:=by((first|refine cV ?_|refine jK ?_);exact eJ (RV.tmp rfl) (RV.tmp rfl) (Le.refl _))):p:=h
theorem G3 {p:Prop}(h:p:=by((first|refine cV ?_|refine jK ?_);exact eJ RVa (RV.tmp rfl) (Le.refl _))):p:=h
theorem Z1 {p:Prop}(h:p:=by((repeat(refine A1 ⟨?_⟩;intros));exact E1)):p:=h
theorem Z2 {p:Prop}(h:p:=by((repeat(refine A1 ⟨?_⟩;intros));exact G1)):p:=h
theorem Y1 {X p:Prop}(c:X) (h:X→p:=by(intro c;(repeat(first|(refine A1 ⟨?_⟩;intros)|refine W4 c ⟨?_⟩));exact E1)):p:=h c
theorem Y2 {X Y p:Prop}(c:X) (d:Y) (h:X→Y→p:=by(intro c d;(repeat(first|(refine A1 ⟨?_⟩;intros)|refine W4 c ⟨?_⟩|refine W4 d ⟨?_⟩));exact E1)):p:=h c d
theorem Y3 {X Y Z p:Prop}(c:X) (d:Y) (e:Z) (h:X→Y→Z→p:=by(intro c d e;(repeat(first|(refine A1 ⟨?_⟩;intros)|refine W4 c ⟨?_⟩|refine W4 d ⟨?_⟩|refine W4 e ⟨?_⟩));exact E1)):p:=h c d e
theorem X1 {X p:Prop}(c:X) (h:X→p:=by(intro c;(repeat(first|(refine A1 ⟨?_⟩;intros)|refine W4 c ⟨?_⟩));exact G1)):p:=h c
theorem X2 {X Y p:Prop}(c:X) (d:Y) (h:X→Y→p:=by(intro c d;(repeat(first|(refine A1 ⟨?_⟩;intros)|refine W4 c ⟨?_⟩|refine W4 d ⟨?_⟩));exact G1)):p:=h c d
end
section
variable {p q:Prop}
theorem A2 (k:pN q) (h:pN q→p:=by(intro k;(repeat(refine A1 ⟨?_⟩;intros));repeat(first|exact k.out|(rename_i x;revert x)))):p:=h k
theorem D1 {X:Prop}(c:X) (k:pN q) (h:X→pN q→p:=by(intro c k;(repeat(first|(refine A1 ⟨?_⟩;intros)|refine W4 c ⟨?_⟩));repeat(first|exact k.out|(rename_i x;revert x)))):p:=h c k
theorem D2 {X Y:Prop}(c:X)(d:Y) (k:pN q) (h:X→Y→pN q→p:=by(intro c d k;(repeat(first|(refine A1 ⟨?_⟩;intros)|refine W4 c ⟨?_⟩|refine W4 d ⟨?_⟩));repeat(first|exact k.out|(rename_i x;revert x)))):p:=h c d k
theorem D3 {X Y Z:Prop}(c:X)(d:Y)(e:Z) (k:pN q) (h:X→Y→Z→pN q→p:=by(intro c d e k;(repeat(first|(refine A1 ⟨?_⟩;intros)|refine W4 c ⟨?_⟩|refine W4 d ⟨?_⟩|refine W4 e ⟨?_⟩));repeat(first|exact k.out|(rename_i x;revert x)))):p:=h c d e k
theorem D4 {X Y Z U:Prop}(c:X)(d:Y)(e:Z)(f:U) (k:pN q) (h:X→Y→Z→U→pN q→p:=by(intro c d e f k;(repeat(first|(refine A1 ⟨?_⟩;intros)|refine W4 c ⟨?_⟩|refine W4 d ⟨?_⟩|refine W4 e ⟨?_⟩|refine W4 f ⟨?_⟩));repeat(first|exact k.out|(rename_i x;revert x)))):p:=h c d e f k
theorem D5 {X Y Z U V:Prop}(c:X)(d:Y)(e:Z)(f:U)(g:V) (k:pN q) (h:X→Y→Z→U→V→pN q→p:=by(intro c d e f g k;(repeat(first|(refine A1 ⟨?_⟩;intros)|refine W4 c ⟨?_⟩|refine W4 d ⟨?_⟩|refine W4 e ⟨?_⟩|refine W4 f ⟨?_⟩|refine W4 g ⟨?_⟩));repeat(first|exact k.out|(rename_i x;revert x)))):p:=h c d e f g k
theorem Sq {α:Type _}{l m:List α}(h:l.Sublist m:=by repeat(first|exact Sr|refine Sc ?_)):l.Sublist m:=h
theorem Sw {α:Type _}{l m:List α}(h:l.Sublist m:=by repeat(first|exact Sr|refine List.Sublist.cons_cons _ ?_|refine Sc ?_)):l.Sublist m:=h
end
end Go.Ab
