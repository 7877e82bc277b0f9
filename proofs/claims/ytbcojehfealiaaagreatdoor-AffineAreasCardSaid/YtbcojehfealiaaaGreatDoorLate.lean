/- Drawn regions in which some reads may come behind a store: x, y = a, b. -/
import Derived.Test.YtbcojehfealiaaaGreatDoorTy
set_option linter.all false
namespace Go.Ab
open Go.Proofs
variable [Base]
section
variable {P:Program}{C:Ctx}{n:Nat}{F F':Fr}{H:LH}{ops:Array Oper}{Q:Exit→Fr→LH→Prop}
def er (ops:Array Oper) (k q j:Nat):Bool:=(List.range q).any fun s => !aQ ops (k+s) j
def bE (ops:Array Oper) (i:Nat):Option Nat:=match ops[i]? with
 |some o=>o.dst
 |none=>none
def br (ops:Array Oper) (i d:Nat):Bool:=match ops[i]? with
 |some o=>(o.looksAt ops).contains d
 |none=>false
def uV (ops:Array Oper) (i:Nat):Bool:=match ops[i]? with
 |some o=>o.guard.isNone&&o.dst.isSome
 |none=>false
def o7 (ops:Array Oper) (j j':Nat):Bool:=match bE ops j' with
 |some d => !br ops j d&&(Nat.beq j j' || !(bE ops j==some d))
 |none=>true
def kP (ops:Array Oper) (k q:Nat):Bool :=
 Nat.ble (k+q) ops.size &&
 ((List.range ops.size).all fun i=>gw ops i) &&
 ((List.range k).all fun i=>(List.range i).all fun j=>aQ ops i j||jf ops i j) &&
 ((List.range ops.size).all fun i=>Nat.blt i k||(List.range i).all fun j=>aQ ops i j||(Nat.blt j k&&Nat.blt i (k+q))) &&
 ((List.range k).all fun j => !er ops k q j||(uV ops j&&((List.range q).all fun s=>jf ops j (k+s))&&((List.range k).all fun j' => !er ops k q j'||(Nat.blt j' j&&(aQ ops j j' || !(br ops j ((bE ops j').getD 0)))&&(!(bE ops j==bE ops j')))||(Nat.ble j j'&&o7 ops j j'))))
def bD (r:List NO') (t:Nat):Bool:=r.any fun x=>x.2.dst==some t
def kS (r:List NO') (F:Fr):Fr:=fun t=>if bD r t=true then top else F t
inductive LOk (P:Program) (ops:Array Oper) (k q n:Nat) (H:LH) (F:Fr):List NO'→Prop
 |nil:LOk P ops k q n H F []
 |skip {i:Nat}{o:Oper}{r:List NO'}(hl:er ops k q i=false) (h:LOk P ops k q n H F r):LOk P ops k q n H F ((i,o)::r)
 |cons {i d:Nat}{o:Oper}{sv:SV}{r:List NO'}(hd:o.dst=some d) (hdn:Nat.blt d n=true) (hop:OpV P o.op o.type F H sv) (hsv:F d=sv) (h:LOk P ops k q n H F r):LOk P ops k q n H F ((i,o)::r)
theorem LOk.mem {k q:Nat}{r:List NO'}(h:LOk P ops k q n H F r):∀x∈r,er ops k q x.1=true→∃d,x.2.dst=some d∧Nat.blt d n=true∧OpV P x.2.op x.2.type F H (F d):=by
 induction h with
 |nil=>intro x hx;cases hx
 |skip hl _ ih =>
  intro x hx hlx;rcases List.mem_cons.1 hx with rfl|hx
  ·rw [hl]at hlx;cases hlx
  ·exact ih x hx hlx
 |cons hd hdn hop hsv _ ih =>
  intro x hx hlx;rcases List.mem_cons.1 hx with rfl|hx
  ·exact⟨_,hd,hdn,hsv▸hop⟩
  ·exact ih x hx hlx
def dB (o:Oper) (F:Fr) (sv:SV):Fr:=match o.dst with
 |some d=>upd F d sv
 |none=>F
def TS (P:Program) (C:Ctx) (n:Nat) (ops:Array Oper) (i:Nat) (o:Oper) (Fe:Fr) (H:LH) (sv:SV) (H':LH):Prop :=
 ∀F,(∀t,t∈o.looksAt ops→Fe t=F t)→∀a w,St C n F H a w→∀(Q':Exit→Act→World→Prop) (K':Act→World→Prop),(∀a' w',St C n (dB o F sv) H' a' w'→K' a' w')→wpOp P ops Q' i K' a w
def TSR (P:Program) (C:Ctx) (n:Nat) (ops:Array Oper) (i:Nat) (o:Oper) (Fe:Fr) (H:LH) (Post:SV→LH→Prop):Prop :=
 ∀F,(∀t,t∈o.looksAt ops→Fe t=F t)→∀a w,St C n F H a w→∀(Q':Exit→Act→World→Prop) (K':Act→World→Prop),(∀sv H',Post sv H'→∀a' w',St C n (dB o F sv) H' a' w'→K' a' w')→wpOp P ops Q' i K' a w
theorem TS.toR {i:Nat}{o:Oper}{Fe:Fr}{sv:SV}{H':LH}(h:TS P C n ops i o Fe H sv H'):TSR P C n ops i o Fe H (fun s H2=>s=sv∧H2=H') :=
 fun F hF a w hst Q' K' hK=>h F hF a w hst Q' K' fun a' w' h'=>hK sv H' ⟨rfl,rfl⟩ a' w' h'
def Stg (P:Program) (C:Ctx) (n:Nat) (ops:Array Oper) (k q:Nat) (late:List NO') (K:Fr→LH→Prop):Nat→List Oper→Fr→LH→Prop
 |_,[],F,H=>LOk P ops k q n H F late∧K F H
 |i,o::r,F,H=>LOk P ops k q n H F late∧∃Post:SV→LH→Prop,TSR P C n ops i o F H Post∧∀sv H',Post sv H'→Stg P C n ops k q late K (i+1) r (dB o F sv) H'
theorem FC:kS [] F=F:=by funext t;simp [kS,bD]
theorem bN {r:List NO'}{t:Nat}:bD r t=true↔∃x∈r,x.2.dst=some t:=by simp [bD]
theorem FB {r:List NO'}{d:Nat}{sv:SV}(h:bD r d=false):upd (kS r F) d sv=kS r (upd F d sv):=by
 funext t
 by_cases ht:t=d
 ·subst ht;rw [aF];unfold kS;rw [h];simp [aF]
 ·rw [av ht];unfold kS;rw [av ht]
theorem CI {l1 l2:List NO'}{i d:Nat}{o:Oper}(hd:o.dst=some d) (h:bD (l1++l2) d=false):upd (kS (l1++(i,o)::l2) F) d (F d)=kS (l1++l2) F:=by
 funext t
 by_cases ht:t=d
 ·subst ht;rw [aF];unfold kS;rw [h];rfl
 ·rw [av ht];unfold kS
  have:bD (l1++(i,o)::l2) t=bD (l1++l2) t:=by
   unfold bD;rw [List.any_append,List.any_append,List.any_cons];have:(o.dst==some t)=false:=by rw [hd];simpa using fun e=>ht e.symm
   simp only [this,Bool.false_or]
  rw [this]
theorem TS.val {i d:Nat}{o:Oper}{sv:SV}(ho:ops[i]? = some o) (hd:o.dst=some d) (hdn:Nat.blt d n=true) (h:DS P ops n H o F sv):TS P C n ops i o F H sv H:=by
 intro F1 hF a w hst Q' K' hK;have h':=h.frame hF;obtain⟨hdef,hn,m,h1,h2,h3,h4,h5⟩:=hst;refine h'.wp ho hd hn h1 h2 h5 fun v m' w' hv hm' hH' r=>hK _ _ ?_
 unfold dB;rw [hd];exact St.put (Nat.blt_eq.mp hdn) hdef hn h2 h3 h4 h5 hv hm' hH' r
theorem dz {o:Oper}{F1:Fr}{x:Operand}(hx:x∈o.op.operands) (h:∀t,t∈o.looksAt ops→F t=F1 t):ev F1 x=ev F x:=by
 cases x with
 |tmp t=>exact(h t (jH hx)).symm
 |const v=>rfl
 |global g=>rfl
 |func f=>rfl
theorem TS.store {i:Nat}{T T':TypeId}{sz by_:Nat}{z:List SV}{g:Bool} [hT:TY P T sz by_ z g]{x v:Operand}{b o:Nat}{sv s0:SV}{cs cs' ds:List SV}{H':LH}{ty:TypeId}{pos:String}{aft:Array Edge}
  (ho:ops[i]? = some ⟨none, .store T x v,ty,pos,aft,none⟩) (hx:ev F x=lit (.pointer (some ⟨b,o,none⟩))) (hv:ev F v=sv) [hco:CO sv ds] (hlen:Nat.beq ds.length sz=true)
  (hu:ay b T' cs cs' H H') (hsp:spl cs o ds=cs') (hle:Nat.ble (o+sz) cs.length=true):TS P C n ops i ⟨none, .store T x v,ty,pos,aft,none⟩ F H s0 H':=by
 intro F1 hF a w hst Q' K' hK;rw [←dz (o:=⟨none, .store T x v,ty,pos,aft,none⟩) (x:=x) (by simp [Op.operands]) hF]at hx;rw [←dz (o:=⟨none, .store T x v,ty,pos,aft,none⟩) (x:=v) (by simp [Op.operands]) hF]at hv;obtain⟨hdef,hn,m,h1,h2,h3,h4,h5⟩:=hst
 have hp:∀x,(ev F1 x).p m (a.eval x):=fun x=>by
  cases x with
  |tmp t=>exact h5 t
  |const v=>unfold ev lit;rfl
  |global g=>unfold ev lit;rfl
  |func f=>unfold ev lit;rfl
 have e0:=hp x;rw [hx,aq]at e0;have e1:=hp v;rw [hv]at e1;have hds:=hco.h m _ e1;obtain⟨_,arr,hb,hall⟩:=h2.2 _ hu.mem;have hsz:=Nat.eq_of_beq_eq_true hlen;have hlv:=hds.length;have hle':=Nat.le_of_ble_eq_true hle;have hla:=hall.length;simp only [Array.length_toList]at hlv hla;obtain⟨w',arr',hr,g1,g2,g3,g4,g5,g6,g7⟩:=fA (P:=P) (b:=b) (T:=T') (o:=o) (a.eval v).cells.toList 0 w arr hb (by simp only [Array.length_toList];omega) hds.flat;unfold wpOp;rw [ho];simp only [Region.wanted,if_true];left;unfold Oper.wp
 have hrun:(execOp a.eval (⟨none, .store T x v,ty,pos,aft,none⟩:Oper)).run P w = .ok .skip w':=by
  simp only [execOp,Instr.storeAt,e0,Instr.sureAddr,Sem.run_bind,Sem.run_pure,Result.andThen_ok,storeVar,hT.run_size,hlv,hsz];simp [hr]
 rw [hrun];have hfin:=g7 m cs ds hall hds;rw [Nat.add_zero,hsp]at hfin;obtain⟨q1,q2,q3,q4⟩:=ik h1 h2 h3 h4 hu g1 g2 g3 g4 g5 g6 hfin;exact hK _ _ ⟨hdef,hn,m,q1,q2,q3,q4,h5⟩
theorem iX {k q:Nat}(h:kP ops k q=true):k+q≤ops.size∧(∀i,i<ops.size→gw ops i=true)∧(∀i,i<k→∀j,j<i→aQ ops i j=true∨jf ops i j=true)∧
  (∀i,i<ops.size→k≤i→∀j,j<i→aQ ops i j=true∨(j<k∧i<k+q))∧
  ∀j,j<k→er ops k q j=true→uV ops j=true∧(∀s,s<q→jf ops j (k+s)=true)∧
   ∀j',j'<k→er ops k q j'=true→(j'<j∧(aQ ops j j'=true∨br ops j ((bE ops j').getD 0)=false)∧bE ops j≠bE ops j')∨(j≤j'∧o7 ops j j'=true):=by
 simp only [kP,Bool.and_eq_true,List.all_eq_true,List.mem_range,Bool.or_eq_true,Bool.not_eq_true',Nat.blt_eq]at h;obtain⟨⟨⟨⟨h1,hb⟩,h2⟩,h3⟩,h4⟩:=h;refine⟨Nat.le_of_ble_eq_true h1,hb,fun i hi j hj=>h2 i hi j hj,fun i hi hk j hj=>?_,fun j hj hl=>?_⟩
 ·rcases h3 i hi with h|h
  ·omega
  ·exact h j hj
 ·rcases h4 j hj with h|h
  ·rw [hl]at h;cases h
  ·refine⟨h.1.1,h.1.2,fun j' hj' hl'=>?_⟩;rcases h.2 j' hj' with(h|⟨⟨a,b⟩,c⟩)|⟨a,b⟩
   ·rw [hl']at h;cases h
   ·exact .inl ⟨a,b,by simpa using c⟩
   ·exact .inr ⟨Nat.le_of_ble_eq_true a,b⟩
theorem uE {Q':Exit→Act→World→Prop}{t0:Nat}(hback:∀i,i<ops.size→gw ops i=true) (htail:∀i,i<ops.size→t0≤i→∀j,j<i→aQ ops i j=true) :
  ∀(fuel t:Nat) (listed:Array Bool) (a:Act) (w:World),t0≤t→listed.size=ops.size→ee ops listed→ops.size-t≤fuel→(∀j,j<t→listed.getD j true=true)→(∀j,t≤j→j<ops.size→listed.getD j true=false)→
   wpList P ops Q' (ops.toList.drop t) a w→wpAny P .any ops Q' fuel listed a w:=by
 intro fuel;induction fuel with
 |zero =>
  intro t listed a w hkt hs hcl hfu h1 h2 h;have ht:ops.size≤t:=by omega
  refine⟨?_,?_⟩
  ·cases hr:Region.ready .any ops listed with
   |nil=>rfl
   |cons x xs =>
    have hx:x∈Region.ready .any ops listed:=by rw [hr];simp
    obtain⟨h0,o,ho,_⟩:=mem_ready.1 hx;have:=(Array.getElem?_eq_some_iff.1 ho).1;rw [h1 x om]at h0;cases h0
  ·rw [List.drop_eq_nil_of_le (by simpa using ht)]at h;exact h
 |succ fuel ih =>
  intro t listed a w hkt hs hcl hfu h1 h2 h
  have only:∀i∈Region.ready .any ops listed,i=t∧t<ops.size:=fun i hi=>by
   obtain⟨h0,o,ho,_⟩:=mem_ready.1 hi;have hlt:=(Array.getElem?_eq_some_iff.1 ho).1
   have hge:t≤i:=by
    rcases Nat.lt_or_ge i t with h|h
    ·rw [h1 i h]at h0;cases h0
    ·exact h
   rcases Nat.lt_or_ge t i with hlt'|hle
   ·have:=aB hcl hi (htail i hlt om t hlt');have:=bi hs (by omega:t<ops.size) this;rw [h2 t (Nat.le_refl _) om]at this;cases this
   ·exact⟨om,om⟩
  refine⟨fun hr=>?_,fun i hi=>?_⟩
  ·rcases Nat.lt_or_ge t ops.size with hlt|hge
   ·exfalso
    have hmem:t∈Region.ready .any ops listed:=by
     rw [mem_ready];refine⟨h2 t (Nat.le_refl _) hlt,ops[t],by simp [hlt],fun e he hb=>?_⟩;have hlt':=dU (hback t hlt) (by simp [hlt]:ops[t]? = some ops[t]) e he hb;have:=h1 e.on hlt';have hsz:e.on<listed.size:=by omega
     simp [hsz]at this⊢;exact this
    rw [hr]at hmem;cases hmem
   ·rw [List.drop_eq_nil_of_le (by simpa using hge)]at h;exact h
  ·obtain⟨rfl,hlt⟩:=only i hi;have ho:ops[i]? = some ops[i]:=by simp [hlt]
   have hd:ops.toList.drop i=ops[i]::ops.toList.drop (i+1):=by
    rw [List.drop_eq_getElem_cons (by simpa using hlt)];simp
   rw [hd]at h
   have hstep:wpOp P ops Q' i (fun a w=>wpList P ops Q' (ops.toList.drop (i+1)) a w) a w:=by
    unfold wpOp;rw [ho];exact h
   refine wpOp_mono (fun a' w' h'=>ih (i+1) (listed.setIfInBounds i true) a' w' om (by simpa using hs) (hcl.step hi) om (fun j hj=>?_) (fun j hj hjs=>?_) h') hstep
   ·by_cases hji:i=j
    ·subst hji;simp [hs,hlt]
    ·rw [getD_set_ne true hji];exact h1 j om
   ·rw [getD_set_ne true om];exact h2 j om hjs
theorem vB {k i:Nat}{listed:Array Bool}(h:k≤i):left ops k (listed.setIfInBounds i true)=left ops k listed:=by
 unfold left;refine List.filter_congr fun x hx=>?_
 have:=(fQ (o:=x.2)).1 hx;rw [getD_set_ne true om]
theorem Stg.lok {k q:Nat}{late:List NO'}{K:Fr→LH→Prop}{i:Nat}:∀{l:List Oper},Stg P C n ops k q late K i l F H→LOk P ops k q n H F late
 | [],h=>h.1
 |_::_,h=>h.1
theorem It {Q':Exit→Act→World→Prop}{k q:Nat}{late:List NO'}{K:Fr→LH→Prop}(hchk:kP ops k q=true) (hlate:∀x:NO',x.1<k→ops[x.1]? = some x.2→er ops k q x.1=true→x∈late)
  (fin:∀a w F H,K F H→St C n F H a w→wpList P ops Q' (ops.toList.drop (k+q)) a w) :
  ∀(fuel s:Nat) (listed:Array Bool) (a:Act) (w:World) (Fe:Fr) (H:LH),s≤q→(left ops k listed).length+(ops.size-(k+s))≤fuel→listed.size=ops.size→ee ops listed→
   (∀x∈left ops k listed,er ops k q x.1=true)→(∀j,k≤j→j<k+s→listed.getD j true=true)→(∀j,k+s≤j→j<ops.size→listed.getD j true=false)→
   Stg P C n ops k q late K (k+s) ((ops.toList.drop (k+s)).take (q-s)) Fe H→St C n (kS (left ops k listed) Fe) H a w→wpAny P .any ops Q' fuel listed a w:=by
 obtain⟨hk,hback,hpre,htail,hl⟩:=iX hchk
 have done:∀(fuel:Nat) (listed:Array Bool) (a:Act) (w:World) (Fe:Fr) (H:LH),ops.size-(k+q)≤fuel→listed.size=ops.size→ee ops listed→left ops k listed=[]→
   (∀j,k≤j→j<k+q→listed.getD j true=true)→(∀j,k+q≤j→j<ops.size→listed.getD j true=false)→
   Stg P C n ops k q late K (k+q) ((ops.toList.drop (k+q)).take (q-q)) Fe H→St C n (kS (left ops k listed) Fe) H a w→wpAny P .any ops Q' fuel listed a w:=by
  intro fuel listed a w Fe H hfu hs hcl hnil h1 h2 hst hw;rw [Nat.sub_self,List.take_zero]at hst;rw [hnil,FC]at hw;refine uE hback (t0:=k+q) (fun i hi hki j hj=>?_) fuel (k+q) listed a w (Nat.le_refl _) hs hcl hfu (fun j hj=>?_) h2 (fin a w Fe H hst.2 hw)
  ·rcases htail i hi om j hj with h|h
   ·exact h
   ·omega
  ·rcases Nat.lt_or_ge j k with hjk|hjk
   ·cases hb:listed.getD j true with
    |true=>rfl
    |false =>
     have:(j,ops[j]' om)∈left ops k listed:=aC.2 ⟨hjk,by simp,hb⟩;rw [hnil]at this;cases this
   ·exact h1 j hjk hj
 intro fuel;induction fuel with
 |zero =>
  intro s listed a w Fe H hsq hfu hs hcl hlt h1 h2 hst hw;obtain rfl:s=q:=by omega
  exact done 0 listed a w Fe H om hs hcl (List.eq_nil_of_length_eq_zero om) h1 h2 hst hw
 |succ fuel ih =>
  intro s listed a w Fe H hsq hfu hs hcl hlt h1 h2 hst hw;by_cases hfin:left ops k listed=[]∧s=q
  ·obtain⟨hnil,rfl⟩:=hfin;exact done (fuel+1) listed a w Fe H (by rw [hnil]at hfu;simpa using hfu) hs hcl hnil h1 h2 hst hw
  have low:∀i (hi:i<ops.size),i≤k+s→(∀j,j<i→j<k→listed.getD j true=true)→listed.getD i true=false→i∈Region.ready .any ops listed:=fun i hi his hj hun=>by
   rw [mem_ready];refine⟨hun,ops[i],by simp [hi],fun e he hb=>?_⟩;have hlt':=dU (hback i hi) (by simp [hi]:ops[i]? = some ops[i]) e he hb
   have:listed.getD e.on true=true:=by
    rcases Nat.lt_or_ge e.on k with h|h
    ·exact hj e.on hlt' h
    ·exact h1 e.on h om
   have hsz:e.on<listed.size:=by omega
   simp [hsz]at this⊢;exact this
  refine⟨fun hr=>?_,fun i hi=>?_⟩
  ·exfalso;by_cases hnil:left ops k listed=[]
   ·have hsq':s<q:=by
     rcases Nat.lt_or_ge s q with h|h
     ·exact h
     ·exact absurd ⟨hnil,om⟩ hfin
    have:=low (k+s) om (Nat.le_refl _) (fun j _ hjk=>by
     cases hb:listed.getD j true with
     |true=>rfl
     |false =>
      have:(j,ops[j]' om)∈left ops k listed:=aC.2 ⟨hjk,by simp,hb⟩;rw [hnil]at this;cases this) (h2 _ (Nat.le_refl _) om)
    rw [hr]at this;cases this
   ·obtain⟨⟨i,o⟩,l',hcons⟩:=List.exists_cons_of_ne_nil hnil;obtain⟨g1,g2,g3⟩:=aC.1 (by rw [hcons];simp:(i,o)∈left ops k listed);simp only at g1 g2 g3
    have:=low i om om (fun j hj hjk=>by
     cases hb:listed.getD j true with
     |true=>rfl
     |false =>
      have hm2:(j,ops[j]' om)∈left ops k listed:=aC.2 ⟨hjk,by simp,hb⟩;have hsort:=bR (ops:=ops) k listed;rw [hcons]at hsort hm2;rcases List.mem_cons.1 hm2 with h|h
      ·simp only [Prod.mk.injEq]at h;omega
      ·have:=(List.pairwise_cons.1 hsort).1 _ h;simp at this;omega) g3
    rw [hr]at this;cases this
  ·obtain⟨hun,o,ho,_⟩:=mem_ready.1 hi;have hio:=(Array.getElem?_eq_some_iff.1 ho).1;rcases Nat.lt_or_ge i k with hik|hki
   ·have hmem:(i,o)∈left ops k listed:=aC.2 ⟨hik,ho,hun⟩;have hli:=hlt _ hmem;obtain⟨hpl,hap,hpair⟩:=hl i hik hli;obtain⟨d,hd,hdn,hop⟩:=hst.lok.mem _ (hlate (i,o) hik ho hli) hli;simp only at hd hop
    have hg:o.guard=none:=by
     unfold uV at hpl;rw [ho]at hpl;simp only [Bool.and_eq_true,Option.isNone_iff_eq_none]at hpl;exact hpl.1
    obtain⟨l1,l2,hl12⟩:=List.append_of_mem hmem;have hset:=iG hs hio hl12;have hlen:(l1++l2).length+1=(left ops k listed).length:=by rw [hl12];simp;omega
    have hsort:=bR (ops:=ops) k listed
    have hlook:∀t∈o.looksAt ops,bD (left ops k listed) t=false:=fun t ht=>by
     cases hb:bD (left ops k listed) t with
     |false=>rfl
     |true =>
      exfalso;obtain⟨x,hx,hxd⟩:=bN.1 hb;obtain⟨x1,x2,x3⟩:=aC.1 hx;have hlk:br ops i t=true:=by unfold br;rw [ho];simpa using ht
      have hdx:bE ops x.1=some t:=by unfold bE;rw [x2];exact hxd
      rcases hpair x.1 x1 (hlt x hx)with⟨_,h|h,_⟩|⟨_,h⟩
      ·have:=bi hs om (aB hcl hi h);rw [x3]at this;cases this
      ·rw [hdx]at h;simp only [Option.getD_some]at h;rw [hlk]at h;cases h
      ·unfold o7 at h;rw [hdx]at h;simp only [hlk,Bool.not_true,Bool.false_and]at h;cases h
    have hdst:bD (l1++l2) d=false:=by
     cases hb:bD (l1++l2) d with
     |false=>rfl
     |true =>
      exfalso;obtain⟨x,hx,hxd⟩:=bN.1 hb;have hx':x∈left ops k listed:=by rw [hl12];rcases List.mem_append.1 hx with h|h <;> simp [h]
      obtain⟨x1,x2,x3⟩:=aC.1 hx'
      have hne:x.1≠i:=fun e=>by
       rw [hl12,List.pairwise_append]at hsort;rcases List.mem_append.1 hx with h|h
       ·have:=hsort.2.2 x h (i,o) (by simp);simp at this;omega
       ·have:=(List.pairwise_cons.1 hsort.2.1).1 x h;simp at this;omega
      have hdx:bE ops x.1=some d:=by unfold bE;rw [x2];exact hxd
      have hdi:bE ops i=some d:=by unfold bE;rw [ho];exact hd
      rcases hpair x.1 x1 (hlt x hx')with⟨_,_,h⟩|⟨_,h⟩
      ·exact h (by rw [hdx,hdi])
      ·unfold o7 at h;rw [hdx]at h;simp only [hdi,Bool.and_eq_true,Bool.or_eq_true,beq_self_eq_true,Bool.not_true]at h;rcases h.2 with h|h
       ·exact hne (Nat.eq_of_beq_eq_true h).symm
       ·cases h
    have hds:DS P ops n H o (kS (left ops k listed) Fe) (Fe d):=(DS.plain hg hop).frame fun t ht=>by unfold kS;rw [hlook t ht];rfl
    obtain⟨hdef,hn,m,q1,q2,q3,q4,q5⟩:=hw;refine hds.wp ho hd hn q1 q2 q5 fun v m' w' hv hm' hH' r=>?_
    refine ih s _ _ _ Fe H hsq (by rw [hset];omega) (by simpa using hs) (hcl.step hi) (fun x hx=>?_) (fun j hj hjs=>?_) (fun j hj hjs=>?_) hst ?_
    ·rw [hset]at hx;exact hlt x (by rw [hl12];rcases List.mem_append.1 hx with h|h <;> simp [h])
    ·rw [getD_set_ne true om];exact h1 j hj hjs
    ·rw [getD_set_ne true om];exact h2 j hj hjs
    ·rw [hset,←CI (F:=Fe) hd hdst,←hl12];exact St.put (Nat.blt_eq.mp hdn) hdef hn q2 q3 q4 q5 hv hm' hH' r
   ·have hge:k+s≤i:=by
     rcases Nat.lt_or_ge i (k+s)with h|h
     ·rw [h1 i hki h]at hun;cases hun
     ·exact h
    have hieq:i=k+s:=by
     rcases Nat.lt_or_ge (k+s) i with h|h
     ·exfalso;rcases htail i hio hki (k+s) h with he|⟨he,_⟩
      ·have:=bi hs om (aB hcl hi he);rw [h2 (k+s) (Nat.le_refl _) om]at this;cases this
      ·omega
     ·omega
    subst hieq
    have hsq':s<q:=by
     rcases Nat.lt_or_ge s q with h|h
     ·exact h
     ·exfalso;refine hfin ⟨?_,om⟩;cases hlf:left ops k listed with
      |nil=>rfl
      |cons x l' =>
       obtain⟨x1,x2,x3⟩:=aC.1 (by rw [hlf];simp:x∈left ops k listed);rcases htail (k+s) hio hki x.1 om with he|⟨_,he⟩
       ·have:=bi hs om (aB hcl hi he);rw [x3]at this;cases this
       ·omega
    have hdrop:(ops.toList.drop (k+s)).take (q-s)=o::(ops.toList.drop (k+(s+1))).take (q-(s+1)):=by
     rw [List.drop_eq_getElem_cons (by simpa using hio),show q-s=(q-(s+1))+1 from by omega,List.take_succ_cons];congr 1
     have:=(Array.getElem?_eq_some_iff.1 ho).2;simpa using this
    rw [hdrop]at hst;obtain⟨_,Post,hts,hrest⟩:=hst
    have hfree:∀x∈left ops k listed,∀d,x.2.dst=some d→d∉o.looksAt ops∧o.dst≠some d:=fun x hx d hxd=>by
     obtain⟨x1,x2,x3⟩:=aC.1 hx;obtain⟨_,hap,_⟩:=hl x.1 x1 (hlt x hx);obtain⟨a1,a2,a3⟩:=Oper.apart_spec (oK x2 ho (hap s hsq'));exact⟨a1 d hxd,a2 d hxd⟩
    refine hts (kS (left ops k listed) Fe) (fun t ht=>?_) a w hw Q' _ fun sv H' hP a' w' hst'=>?_
    ·have:bD (left ops k listed) t=false:=by
      cases hb:bD (left ops k listed) t with
      |false=>rfl
      |true =>
       obtain⟨x,hx,hxd⟩:=bN.1 hb;exact absurd ht (hfree x hx t hxd).1
     unfold kS;rw [this];rfl
    ·refine ih (s+1) _ _ _ (dB o Fe sv) H' om (by rw [vB hki];omega) (by simpa using hs) (hcl.step hi) (fun x hx=>?_) (fun j hj hjs=>?_) (fun j hj hjs=>?_) (hrest sv H' hP) ?_
     ·rw [vB hki]at hx;exact hlt x hx
     ·by_cases hji:k+s=j
      ·subst hji;simp [hs,hio]
      ·rw [getD_set_ne true hji];exact h1 j hj om
     ·rw [getD_set_ne true om];exact h2 j om hjs
     ·rw [vB hki];unfold dB at hst'⊢;cases hod:o.dst with
      |none=>rw [hod]at hst';exact hst'
      |some d =>
       rw [hod]at hst';simp only at hst'⊢;rwa [FB]at hst';cases hb:bD (left ops k listed) d with
       |false=>rfl
       |true =>
        obtain⟨x,hx,hxd⟩:=bN.1 hb;exact absurd hod (hfree x hx d hxd).2
theorem Dr.same {l:List NO'}{N:List NW}{F F':Fr}(h:Dr P ops n H l N F F'):∀t,bD l t=false→F' t=F t:=by
 induction h with
 |nil=>intro t _;rfl
 |val hd _ _ _ ih =>
  intro t ht;unfold bD at ht ih;rw [List.any_cons]at ht;simp only [Bool.or_eq_false_iff]at ht;rw [ih t ht.2];exact av fun e=>by have:=ht.1;rw [hd,e]at this;simp at this
 |new hd _ _ _ _ _ ih =>
  intro t ht;unfold bD at ht ih;rw [List.any_cons]at ht;simp only [Bool.or_eq_false_iff]at ht;exact ih t ht.2
theorem GG {E:List NW}{nm:Nat→Nat}{F F':Fr}{t:Nat}(h:F t=F' t):cO E nm F t=cO E nm F' t:=by
 induction E with
 |nil=>exact h
 |cons e E ih =>
  simp only [cO];by_cases ht:t=e.d
  ·subst ht;rw [aF,aF]
  ·rw [av ht,av ht];exact ih
theorem uk {Q':Exit→Act→World→Prop}{k q:Nat}{late:List NO'}{K:Fr→LH→Prop}{N0:List NW}(hchk:kP ops k q=true) (hlate:∀x:NO',x.1<k→ops[x.1]? = some x.2→er ops k q x.1=true→x∈late)
  (fin:∀a w F H,K F H→St C n F H a w→wpList P ops Q' (ops.toList.drop (k+q)) a w)
  (hN:∀e∈N0,∃o,ops[e.idx]? = some o∧e.idx<k∧o.dst=some e.d∧gK ops k e.idx=true∧er ops k q e.idx=false)
  (hd0:N0.Pairwise fun a b=>a.d≠b.d) (hstg:∀nm,Stg P C n ops k q late K k ((ops.toList.drop k).take q) (cO N0 nm F') (fU N0 nm++H)) :
  ∀(fuel:Nat) (listed:Array Bool) (a:Act) (w:World) (Nr E:List NW) (nm:Nat→Nat) (F:Fr),(left ops k listed).length+(ops.size-k)≤fuel→listed.size=ops.size→ee ops listed→
   (∀j,k≤j→j<ops.size→listed.getD j true=false)→Dr P ops n H (left ops k listed) Nr F F'→(E++Nr).Perm N0→(∀e∈E,listed.getD e.idx true=true)→St C n (cO E nm F) (fU E nm++H) a w→
   wpAny P .any ops Q' fuel listed a w:=by
 obtain⟨hk,hback,hpre,htail,hl0⟩:=iX hchk
 have over:∀(fuel:Nat) (listed:Array Bool) (a:Act) (w:World) (Nr E:List NW) (nm:Nat→Nat) (F:Fr),(left ops k listed).length+(ops.size-k)≤fuel→listed.size=ops.size→ee ops listed→
   (∀j,k≤j→j<ops.size→listed.getD j true=false)→Dr P ops n H (left ops k listed) Nr F F'→(E++Nr).Perm N0→St C n (cO E nm F) (fU E nm++H) a w→(∀x∈left ops k listed,er ops k q x.1=true)→
   wpAny P .any ops Q' fuel listed a w:=by
  intro fuel listed a w Nr E nm F hfu hs hcl hl hdr hp hst hall
  have hNr:Nr=[]:=by
   cases Nr with
   |nil=>rfl
   |cons e Nr =>
    obtain⟨o,h1,_⟩:=hdr.nw e (by simp);obtain⟨_,_,_,_,_,h2⟩:=hN e (hp.mem_iff.1 (by simp));have:=hall _ h1;rw [h2]at this;cases this
  subst hNr;rw [List.append_nil]at hp;have hpw:E.Pairwise fun a b=>a.d≠b.d:=(hp.pairwise_iff (fun h=>h.symm)).2 hd0
  refine It hchk hlate fin fuel 0 listed a w (cO N0 nm F') (fU N0 nm++H) (Nat.zero_le _) hfu hs hcl hall (fun j h1 h2=>by omega) hl (hstg nm) ?_;refine(hst.perm ((hp.map _).append_right _)).le fun t=>?_
  unfold kS;cases hb:bD (left ops k listed) t with
  |true=>simp only [if_true];intro m v _;unfold top;trivial
  |false =>
   simp only [Bool.false_eq_true,if_false];rw [←lg hp hpw,GG (F:=F') (F':=F) (hdr.same t hb)];exact Le.refl _
 intro fuel;induction fuel with
 |zero =>
  intro listed a w Nr E nm F hfu hs hcl hl hdr hp hEl hst;have hnil:left ops k listed=[]:=List.eq_nil_of_length_eq_zero om;exact over 0 listed a w Nr E nm F hfu hs hcl hl hdr hp hst (by rw [hnil];intro x hx;cases hx)
 |succ fuel ih =>
  intro listed a w Nr E nm F hfu hs hcl hl hdr hp hEl hst;by_cases hall:∀x∈left ops k listed,er ops k q x.1=true
  ·exact over (fuel+1) listed a w Nr E nm F hfu hs hcl hl hdr hp hst hall
  have hnil:left ops k listed≠[]:=fun h=>hall (by rw [h];intro x hx;cases hx)
  obtain⟨x0,hx0,hx0l⟩:∃x∈left ops k listed,er ops k q x.1=false:=by
   refine Classical.byContradiction fun hne=>hall fun x hx=>?_
   cases hb:er ops k q x.1 with
   |true=>rfl
   |false=>exact absurd ⟨x,hx,hb⟩ hne
  have hEN:∀e∈E,e∈N0:=fun e he=>hp.mem_iff.1 (by simp [he])
  refine⟨fun hr=>?_,fun i hi=>?_⟩
  ·exfalso;obtain⟨⟨i,o⟩,l',hcons⟩:=List.exists_cons_of_ne_nil hnil;have hmem:(i,o)∈left ops k listed:=by rw [hcons];simp
   obtain⟨h1,h2,h3⟩:=aC.1 hmem
   have hready:i∈Region.ready .any ops listed:=by
    rw [mem_ready];refine⟨h3,o,h2,fun e he hb=>?_⟩;have hlt:=dU (hback i (by simp only at h1;omega)) h2 e he hb;cases hle:listed.getD e.on false with
    |true=>rfl
    |false =>
     have hsz:e.on<listed.size:=by simp only at h1;omega
     have h4:listed.getD e.on true=false:=by simp [hsz]at hle⊢;exact hle
     have hm2:(e.on,ops[e.on]' om)∈left ops k listed:=aC.2 ⟨by simp only at h1⊢;omega,by simp,h4⟩;have hsort:=bR (ops:=ops) k listed;rw [hcons]at hsort hm2;rcases List.mem_cons.1 hm2 with h|h
     ·simp only [Prod.mk.injEq]at h;omega
     ·have:=(List.pairwise_cons.1 hsort).1 _ h;simp at this;omega
   rw [hr]at hready;cases hready
  ·obtain⟨hun,o,ho,_⟩:=mem_ready.1 hi;have hlt:=(Array.getElem?_eq_some_iff.1 ho).1
   have hik:i<k:=by
    rcases Nat.lt_or_ge i k with h|hki
    ·exact h
    ·exfalso;obtain⟨y1,y2,y3⟩:=aC.1 hx0
     have he:aQ ops i x0.1=true:=by
      rcases Nat.lt_or_ge i (k+q)with h|h
      ·cases hb:aQ ops i x0.1 with
       |true=>rfl
       |false =>
        have:er ops k q x0.1=true:=by
         unfold er;rw [List.any_eq_true];exact⟨i-k,by rw [List.mem_range];omega,by rw [show k+(i-k)=i from by omega,hb];rfl⟩
        rw [hx0l]at this;cases this
      ·rcases htail i hlt hki x0.1 om with he|⟨_,he⟩
       ·exact he
       ·omega
     have:=bi hs om (aB hcl hi he);rw [y3]at this;cases this
   have hmem:(i,o)∈left ops k listed:=aC.2 ⟨hik,ho,hun⟩;obtain⟨l1,l2,hl12⟩:=List.append_of_mem hmem;have hset:=iG hs hlt hl12;have hlen:(l1++l2).length+1=(left ops k listed).length:=by rw [hl12];simp;omega
   have hsort:=bR (ops:=ops) k listed;rw [hl12]at hsort
   have hbefore:∀y∈l1,o.apart ops y.2=true:=fun y hy=>by
    obtain⟨y1,y2,y3⟩:=aC.1 (by rw [hl12];simp [hy]:y∈left ops k listed)
    have hyi:y.1<i:=by
     rw [List.pairwise_append]at hsort;exact hsort.2.2 y hy (i,o) (by simp)
    rcases hpre i hik y.1 hyi with h|h
    ·have:=bi hs om (aB hcl hi h);rw [y3]at this;cases this
    ·exact oK ho y2 h
   have hEi:∀e∈E,e.idx≠i:=fun e he hei=>by
    have:=hEl e he;rw [hei,hun]at this;cases this
   have apartE:∀e∈E,e.d∉o.looksAt ops∧o.dst≠some e.d:=fun e he=>by
    obtain⟨oe,e1,e2,e3,e4,_⟩:=hN e (hEN e he);exact gm e4 e1 e3 ho hik (fun h=>hEi e he h.symm)
   have hEl':∀e∈E,(listed.setIfInBounds i true).getD e.idx true=true:=fun e he=>by
    rw [getD_set_ne true (fun h=>hEi e he h.symm)];exact hEl e he
   rw [hl12]at hdr
   have hl':∀j,k≤j→j<ops.size→(listed.setIfInBounds i true).getD j true=false:=fun j hj hjs=>by
    rw [getD_set_ne true om];exact hl j hj hjs
   obtain⟨d,hd⟩:=hdr.dst (i,o) (by simp);have hfr:∀t∈o.looksAt ops,F t=cO E nm F t:=fun t ht=>(q9 fun e he hed=>(apartE e he).1 (hed▸ht)).symm
   have hdd:∀e∈E,e.d≠d:=fun e he hed=>(apartE e he).2 (by rw [hd,hed])
   rcases hdr.pick (x:=(i,o)) hd hbefore with⟨sv,hdn,hds,hdr'⟩|⟨N1,N2,e,hNr,hei,hed,hguard,hdn,hT,hdr'⟩
   ·have hds':=hds.frame hfr;obtain⟨hdef,hn,m,h1,h2,h3,h4,h5⟩:=hst;refine hds'.wp ho hd hn h1 h2.tail h5 fun v m' w' hv hm' hH' r=>?_
    refine ih _ _ _ Nr E nm (upd F d sv) (by rw [hset];omega) (by simpa using hs) (hcl.step hi) hl' (by rw [hset];exact hdr') hp hEl' ?_;rw [nD hdd];exact St.put (Nat.blt_eq.mp hdn) hdef hn h2 h3 h4 h5 hv hm' (h2.beside hH' r) (r.mono fun b hb=>by unfold keys at *;rw [List.map_append];exact List.mem_append_right _ hb)
   ·have hw:Region.wanted o (yielded ops a.tmps)=true:=by simp only [Region.wanted,(show o.guard=none from hguard)]
    unfold wpOp;simp only [ho,hw,if_true];left;subst hNr;simp only at hei
    have hp':(e::E++(N1++N2)).Perm N0:=by
     refine List.Perm.trans ?_ hp;exact(List.perm_middle (a:=e) (l₁:=E) (l₂:=N1++N2)).symm.trans ((List.perm_middle (a:=e) (l₁:=N1) (l₂:=N2)).symm.append_left E)
    have hT':=hT.congr fun t ht=>hfr t (jH ht)
    have hfacts:∃m:Mem,∀t, .tmp t∈o.op.operands→(cO E nm F t).p m (a.eval (.tmp t)):=by
     obtain⟨_,_,m,_,_,_,_,h5⟩:=hst;exact⟨m,fun t _=>h5 t⟩
    obtain⟨arr,hrun,hall'⟩:=hT' w o a rfl hfacts;unfold Oper.wp;rw [hrun];show wpAny P .any ops Q' fuel (listed.setIfInBounds i true) (a.put o.dst _) _
    rw [hd,←hed];have hpush:=St.push (T:=e.T) (arr:=arr) (v:=e.val w.heap.size) (Nat.blt_eq.mp (hed▸hdn)) hst fun m hm=>hall' m fun t _=>hm (.tmp t)
    refine ih _ _ _ (N1++N2) (e::E) (fun x=>if x=i then w.heap.size else nm x) F (by rw [hset];omega) (by simpa using hs) (hcl.step hi) hl' (by rw [hset];exact hdr') hp' (fun x hx=>?_) ?_
    ·rcases List.mem_cons.1 hx with rfl|hx
     ·rw [hei];simp [hs,hlt]
     ·exact hEl' x hx
    have hnm:∀x∈E,nm x.idx=(fun x=>if x=i then w.heap.size else nm x) x.idx:=fun x hx=>by simp [hEi x hx]
    rw [show cO (e::E) (fun x=>if x=i then w.heap.size else nm x) F=upd (cO E nm F) e.d (lit (e.val w.heap.size))from by
     simp only [cO,hei,if_true];rw [←uC hnm]]
    rw [show fU (e::E) (fun x=>if x=i then w.heap.size else nm x)=(w.heap.size,e.T,e.z)::fU E nm from by
     have:=vP (N:=E) (nm:=nm) (nm':=fun x=>if x=i then w.heap.size else nm x) hnm;unfold fU at this⊢;rw [List.map_cons,←this];simp only [hei,if_true]]
    exact hpush
attribute [local semireducible] WP WPL Dk
theorem WP.drawL {id:Nat}{l:List Oper}(k q:Nat){N:List NW}(hm:P.follows .mixedOrders=true) (hchk:kP l.toArray k q=true)
  (hdr:Dr P l.toArray n H (iz 0 k l) N F F') (hlone:∀e∈N,gK l.toArray k e.idx=true∧er l.toArray k q e.idx=false)
  (h:∀nm:Nat→Nat,Stg P C n l.toArray k q (iz 0 k l) (fun F H=>WPL P C n l.toArray (l.drop (k+q)) (fun F H=>Q .normal F H) F H) k ((l.drop k).take q) (cO N nm F') (fU N nm++H)) :
  WP P C n (.region id l.toArray true) Q F H:=by
 rw [jY]at hdr;intro a w hs;obtain⟨hk,hback,hpre,_⟩:=iX hchk
 have hmem:∀e∈N,∃o,l.toArray[e.idx]? = some o∧e.idx<k∧o.dst=some e.d∧gK l.toArray k e.idx=true∧er l.toArray k q e.idx=false:=fun e he=>by
  obtain⟨o,h1,h2⟩:=hdr.nw e he;have:=(fQ (ops:=l.toArray)).1 (by simpa using h1);exact⟨o,this.2,this.1,h2,hlone e he⟩
 have hsort:(((l.zipIdx.map fun p=>(p.2,p.1)).take k).map (·.1)).Pairwise (· < ·):=by
  rw [List.pairwise_map];refine List.Pairwise.sublist (List.take_sublist _ _) ?_;rw [List.pairwise_iff_getElem];intro i j hi hj hij;simpa using hij
 have hidx:N.Pairwise fun a b=>a.idx<b.idx:=by
  have:=List.Pairwise.sublist hdr.sub hsort;rwa [List.pairwise_map]at this
 refine wp_mono (Q:=g8 C n (fun e F H=>e = .normal∧Q .normal F H)) (wp_region_any hm ?_) (fun e a w h=>h.imp (fun⟨F,H,hs,he,hq⟩=>⟨F,H,hs,he▸hq⟩) fun h=>h);refine uk (C:=C) (n:=n) (H:=H) (F':=F') (N0:=N) (k:=k) (q:=q) (late:=iz 0 k l) (K:=fun F H=>WPL P C n l.toArray (l.drop (k+q)) (fun F H=>Q .normal F H) F H) hchk ?_ ?_ hmem ?_ h l.toArray.size (Array.replicate l.toArray.size false) a {w with drawn:=w.drawn+1} N [] (fun _=>0) F ?_ (by simp) (fun m j hm=>by by_cases hlt:m<l.length <;> simp [hlt]at hm) ?_ ?_ (by simp) (fun e he=>by cases he) ?_
 ·intro x hx ho _;rw [jY];have:=(fQ (ops:=l.toArray) (o:=x.2) (i:=x.1) (k:=k)).2 ⟨hx,ho⟩;simpa using this
 ·intro a' w' F1 H1 hK hst;exact hK a' w' hst _ ⟨fun a2 w2 F2 H2 hs2 hq => .mk hs2 ⟨rfl,hq⟩,fun ch _ _ hp => .inr ⟨ch,rfl,hp⟩⟩
 ·refine List.Pairwise.imp_of_mem (R:=fun a b=>a.idx<b.idx) ?_ hidx;intro x y hx hy hlt hxy;obtain⟨ox,x1,x2,x3,x4,_⟩:=hmem x hx;obtain⟨oy,y1,y2,y3,y4,_⟩:=hmem y hy;exact(gm y4 y1 y3 x1 x2 om).2 (by rw [x3,hxy])
 ·have:(left l.toArray k (Array.replicate l.toArray.size false)).length≤k:=by
   unfold left;refine Nat.le_trans (List.length_filter_le _ _) ?_;simp;omega
  omega
 ·intro j _ hj;have hj':j<l.length:=by simpa using hj
  simp [hj']
 ·have:left l.toArray k (Array.replicate l.toArray.size false)=(l.zipIdx.map fun p=>(p.2,p.1)).take k:=by
   unfold left;rw [List.filter_eq_self.2];intro x hx;obtain⟨h1,h2⟩:=(fQ (ops:=l.toArray)).1 hx;have:=(Array.getElem?_eq_some_iff.1 h2).1;have hj':x.1<l.length:=by simpa using this
   simp [hj']
  rw [this];exact hdr
 ·obtain⟨hdef,hn,m,h1,h2,h3,h4,h5⟩:=hs;exact⟨hdef,hn,m,⟨h1.at',h1.base⟩,⟨h2.1,h2.2⟩,h3.drw,h4,h5⟩
def dL (P:Program) (C:Ctx) (n k q:Nat) (l:List Oper) (Q:Exit→Fr→LH→Prop) (H:LH):List NW→Fr→Prop:=fun N F' =>
 (∀e∈N,gK l.toArray k e.idx=true∧er l.toArray k q e.idx=false)∧
 ∀nm:Nat→Nat,Stg P C n l.toArray k q (iz 0 k l) (fun F H=>WPL P C n l.toArray (l.drop (k+q)) (fun F H=>Q .normal F H) F H) k ((l.drop k).take q) (cO N nm F') (fU N nm++H)
theorem WdL {id:Nat}{l:List Oper}(k q:Nat) (h:Dk P l.toArray n H (iz 0 k l) (dL P C n k q l Q H) F) (hm:P.follows .mixedOrders=true:=by kernel_rfl) (hchk:kP l.toArray k q=true:=by decide +kernel):WP P C n (.region id l.toArray true) Q F H:=by
 obtain⟨N,F',h1,h2⟩:=h;exact WP.drawL k q hm hchk h1 h2.1 h2.2
section
variable {k q:Nat}{l:List Oper}{e1 e2:NW}
theorem dL0 (h:Stg P C n l.toArray k q (iz 0 k l) (fun F H=>WPL P C n l.toArray (l.drop (k+q)) (fun F H=>Q .normal F H) F H) k ((l.drop k).take q) F H):dL P C n k q l Q H [] F:=⟨(fun e he=>by cases he),fun _=>h⟩
theorem dL1 (h:∀b,Stg P C n l.toArray k q (iz 0 k l) (fun F H=>WPL P C n l.toArray (l.drop (k+q)) (fun F H=>Q .normal F H) F H) k ((l.drop k).take q) (upd F e1.d (lit (e1.val b))) ((b,e1.T,e1.z)::H))
  (h1:gK l.toArray k e1.idx=true:=by kernel_rfl) (h2:er l.toArray k q e1.idx=false:=by kernel_rfl):dL P C n k q l Q H [e1] F :=
 ⟨(fun e he=>by obtain rfl:=List.mem_singleton.1 he;exact⟨h1,h2⟩),fun nm=>h (nm e1.idx)⟩
theorem dL2 (h : ∀ b c, Stg P C n l.toArray k q (iz 0 k l) (fun F H => WPL P C n l.toArray (l.drop (k + q)) (fun F H => Q .normal F H) F H) k ((l.drop k).take q) (upd (upd F e2.d (lit (e2.val c))) e1.d (lit (e1.val b))) ((b, e1.T, e1.z) :: (c, e2.T, e2.z) :: H))
    (h1:gK l.toArray k e1.idx=true:=by kernel_rfl) (h2:er l.toArray k q e1.idx=false:=by kernel_rfl) (h3:gK l.toArray k e2.idx=true:=by kernel_rfl) (h4:er l.toArray k q e2.idx=false:=by kernel_rfl):dL P C n k q l Q H [e1,e2] F :=
  ⟨(fun e he=>by
    rcases List.mem_cons.1 he with rfl|he
    · exact⟨h1,h2⟩
    · obtain rfl:=List.mem_singleton.1 he;exact⟨h3,h4⟩),fun nm=>h (nm e1.idx) (nm e2.idx)⟩
variable {late:List NO'}{K:Fr→LH→Prop}{i d:Nat}{ty:TypeId}{pos:String}{aft:Array Edge}
theorem Lsk {o:Oper}{r:List NO'}(h:LOk P ops k q n H F r) (hl:er ops k q i=false:=by decide +kernel):LOk P ops k q n H F ((i,o)::r) := .skip hl h
theorem Lcv {op:Op}{sv:SV}{r:List NO'}(h:LOk P ops k q n H F r) (hop:OpV P op ty F H sv:=by exact Ov0) (hsv:F d=sv:=by exact rfl) (hd:Nat.blt d n=true:=by exact rfl):LOk P ops k q n H F ((i,⟨some d,op,ty,pos,aft,none⟩)::r) := .cons rfl hd hop hsv h
theorem Gv {op:Op}{sv:SV}{r:List Oper}(hl:LOk P ops k q n H F late) (h:Stg P C n ops k q late K (i+1) r (upd F d sv) H) (hop:OpV P op ty F H sv:=by exact Ov0) (ho:ops[i]? = some ⟨some d,op,ty,pos,aft,none⟩:=by exact rfl) (hd:Nat.blt d n=true:=by exact rfl) :
  Stg P C n ops k q late K i (⟨some d,op,ty,pos,aft,none⟩::r) F H:=⟨hl,_,(TS.val ho rfl hd (.plain rfl hop)).toR,fun _ _ ⟨e1,e2⟩=>by subst e1;subst e2;exact h⟩
theorem Gs {T T':TypeId}{sz by_:Nat}{z:List SV}{g:Bool} [hT:TY P T sz by_ z g]{x v:Operand}{b o:Nat}{sv:SV}{cs cs' ds:List SV}{H':LH}{r:List Oper}
  (hx:ev F x=lit (.pointer (some ⟨b,o,none⟩))) (hv:ev F v=sv) [hco:CO sv ds] (hlen:Nat.beq ds.length sz=true) (hu:ay b T' cs cs' H H') (hsp:spl cs o ds=cs') (hle:Nat.ble (o+sz) cs.length=true)
  (hl:LOk P ops k q n H F late) (h:Stg P C n ops k q late K (i+1) r F H') (ho:ops[i]? = some ⟨none, .store T x v,ty,pos,aft,none⟩:=by exact rfl):Stg P C n ops k q late K i (⟨none, .store T x v,ty,pos,aft,none⟩::r) F H :=
 ⟨hl,_,(TS.store (s0:=lit undef) ho hx hv hlen hu hsp hle).toR,fun _ _ ⟨e1,e2⟩=>by subst e1;subst e2;exact h⟩
theorem Gn (hl:LOk P ops k q n H F late) (h:K F H):Stg P C n ops k q late K i [] F H:=⟨hl,h⟩
end
end
end Go.Ab
