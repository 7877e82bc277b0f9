/- Texts laid one behind the other: Mix, StkA, RowB, RowC, RowE. -/
import Derived.Test.YtbcojehfealiaaaGreatDoorLate
import Derived.Test.YtbcojehfealiaaaGreatDoorB13
import Derived.Deep.Upon
set_option linter.all false
namespace Go.Ab
open Go.Proofs
variable [Base]
section
variable {P:Program}{C:Ctx}{n:Nat}{F F' F0 Fe:Fr}{H:LH}{ops:Array Oper}{Q:Exit→Fr→LH→Prop}{rs:List Nat}{Hc:LH}{E:Nat→LH}
def oH (ops:Array Oper) (k t:Nat):Bool:=(List.range k).any fun j=>bE ops j==some t
def fg (ops:Array Oper) (listed:Array Bool) (t:Nat):Bool:=(List.range ops.size).any fun j=>listed.getD j false&&bE ops j==some t
def jG (B:Nat→Bool) (Fe F0:Fr):Fr:=fun t=>bif B t then Fe t else F0 t
def tK (ops:Array Oper) (rs:List Nat):Bool :=
 ((List.range ops.size).all fun i=>gw ops i) &&
 ((List.range ops.size).all fun i=>(List.range i).all fun j=>(bE ops j).isNone || !(bE ops i==bE ops j)) &&
 ((List.range ops.size).all fun i=>(List.range ops.size).all fun j=>match bE ops j with
  |some d => !br ops i d||(bif Nat.blt j i then aQ ops i j else(Nat.beq i j||aQ ops j i))
  |none=>true) &&
 ((List.range rs.length).all fun t=>Nat.blt (rs.getD t 0) ops.size&&(List.range t).all fun u=>aQ ops (rs.getD t 0) (rs.getD u 0)&&Nat.blt (rs.getD u 0) (rs.getD t 0))
inductive Mx (P:Program) (C:Ctx) (n:Nat) (ops:Array Oper) (rs:List Nat) (Hc:LH) (E:Nat→LH):Nat→Nat→List Oper→Fr→Fr→Prop
 |nil {i s:Nat}(F:Fr):Mx P C n ops rs Hc E i s [] F F
 |free {i s d:Nat}{o:Oper}{sv:SV}{r:List Oper}{F F':Fr}(hr:rs.contains i=false) (hd:o.dst=some d) (hdn:Nat.blt d n=true) (hds:DS P ops n Hc o F sv) (h:Mx P C n ops rs Hc E (i+1) s r (upd F d sv) F'):Mx P C n ops rs Hc E i s (o::r) F F'
 |row {i s:Nat}{o:Oper}{sv:SV}{r:List Oper}{F F':Fr}(hr:rs[s]? = some i) (hts:TS P C n ops i o F (E s++Hc) sv (E (s+1)++Hc)) (h:Mx P C n ops rs Hc E (i+1) (s+1) r (dB o F sv) F'):Mx P C n ops rs Hc E i s (o::r) F F'
def Vld (P:Program) (C:Ctx) (n:Nat) (ops:Array Oper) (rs:List Nat) (Hc:LH) (E:Nat→LH) (F0 Fe:Fr) (k:Nat):Prop:=∃o,ops[k]? = some o∧∃Fk:Fr,(∀t,Fk t=jG (oH ops k) Fe F0 t)∧
  ((rs.contains k=false∧∃d,o.dst=some d∧Nat.blt d n=true∧DS P ops n Hc o Fk (Fe d))∨
   ∃s sv,rs[s]? = some k∧(∀d,o.dst=some d→sv=Fe d)∧TS P C n ops k o Fk (E s++Hc) sv (E (s+1)++Hc))
theorem Mx.keep {i s:Nat}{l:List Oper}(h:Mx P C n ops rs Hc E i s l F F'):∀t,(∀o∈l,o.dst≠some t)→F' t=F t:=by
 induction h with
 |nil=>intro t _;rfl
 |free _ hd _ _ _ ih =>
  intro t ht;rw [ih t fun o ho=>ht o (by simp [ho])];exact av fun e=>ht _ List.mem_cons_self (by rw [hd,e])
 | @row i s o sv r F F' _ _ _ ih =>
  intro t ht;rw [ih t fun o ho=>ht o (by simp [ho])];unfold dB;cases hd:o.dst with
  |none=>rfl
  |some d=>exact av fun e=>ht o (by simp) (by rw [hd,e])
theorem un (k t:Nat):oH ops (k+1) t=(oH ops k t||bE ops k==some t):=by
 unfold oH;rw [List.range_succ,List.any_append];simp
theorem mM (h:tK ops rs=true):(∀i,i<ops.size→gw ops i=true)∧(∀i j d,i<ops.size→j<i→bE ops j=some d→bE ops i≠some d)∧
  (∀i j d,i<ops.size→j<ops.size→bE ops j=some d→br ops i d=true→(j<i→aQ ops i j=true)∧(i<j→aQ ops j i=true))∧
  ∀(t k:Nat),rs[t]? = some k→k<ops.size∧∀(u:Nat) (k':Nat),u<t→rs[u]? = some k'→aQ ops k k'=true∧k'<k:=by
 simp only [tK,Bool.and_eq_true,List.all_eq_true,List.mem_range,Bool.or_eq_true,Nat.blt_eq]at h;obtain⟨⟨⟨h1,h2⟩,h3⟩,h4⟩:=h;refine⟨h1,fun i j d hi hj hd he=>?_,fun i j d hi hj hd hl=>?_,fun t k hk=>?_⟩
 ·rcases h2 i hi j hj with h|h
  ·rw [hd]at h;cases h
  ·rw [hd,he]at h;simp at h
 ·have:=h3 i hi j hj;rw [hd]at this;simp only [hl,Bool.not_true,Bool.false_or]at this;refine⟨fun hji=>?_,fun hij=>?_⟩
  ·rw [show Nat.blt j i=true from by simpa using hji]at this;exact this
  ·rw [show Nat.blt j i=false from by
    cases hb:Nat.blt j i with
    |false=>rfl
    |true=>have:=Nat.blt_eq.mp hb;omega]at this
   simp only [cond_false,Bool.or_eq_true]at this;rcases this with h|h
   ·have:=Nat.eq_of_beq_eq_true h;omega
   ·exact h
 ·have ht:=(List.getElem?_eq_some_iff.1 hk).1;have gk:rs.getD t 0=k:=by simp [List.getD,hk]
  obtain⟨g1,g2⟩:=h4 t ht;rw [gk]at g1 g2;refine⟨g1,fun u k' hu hk'=>?_⟩;have gk':rs.getD u 0=k':=by simp [List.getD,hk']
  have:=g2 u hu;rw [gk']at this;exact this
theorem aZ {i:Nat}{o:Oper}(h:ops[i]? = some o):bE ops i=o.dst:=by unfold bE;rw [h]
theorem Mx.vld (hchk:tK ops rs=true){i s:Nat}{l:List Oper}(h:Mx P C n ops rs Hc E i s l F Fe):l=ops.toList.drop i→(∀t,F t=jG (oH ops i) Fe F0 t)→∀k,i≤k→k<ops.size→Vld P C n ops rs Hc E F0 Fe k:=by
 obtain⟨_,hdis,_,_⟩:=mM hchk;induction h with
 |nil =>
  intro hl _ k hik hk;have:=congrArg List.length hl;simp at this;omega
 | @free i s d o sv r F F' hr hd hdn hds h ih =>
  intro hl hF k hik hk
  have ho:ops[i]? = some o:=by
   have:=congrArg (·[0]?) hl;simpa using this.symm
  have hr':r=ops.toList.drop (i+1):=by
   have:=congrArg List.tail hl;simpa using this
  have hsv:F' d=sv:=by
   rw [h.keep d fun o' ho'=>?_]
   ·exact aF
   ·rw [hr']at ho';obtain⟨j,hj,rfl⟩:=List.mem_iff_getElem.1 ho';simp only [List.length_drop,Array.length_toList]at hj;simp only [List.getElem_drop,Array.getElem_toList];have:=hdis (i+1+j) i d om om (by rw [aZ ho,hd]);rwa [aZ (o:=ops[i+1+j]) (by simp)]at this
  rcases Nat.lt_or_ge i k with hlt|hge
  ·refine ih hr' (fun t=>?_) k om hk;unfold jG;rw [un,aZ ho,hd];by_cases ht:t=d
   ·subst ht;rw [aF,hsv];simp
   ·rw [av ht,hF t];unfold jG;have:(some d==some t)=false:=by simpa using fun e=>ht e.symm
    rw [this,Bool.or_false]
  ·obtain rfl:k=i:=by omega
   exact⟨o,ho,F,hF, .inl ⟨hr,d,hd,hdn,hsv▸hds⟩⟩
 | @row i s o sv r F F' hr hts h ih =>
  intro hl hF k hik hk
  have ho:ops[i]? = some o:=by
   have:=congrArg (·[0]?) hl;simpa using this.symm
  have hr':r=ops.toList.drop (i+1):=by
   have:=congrArg List.tail hl;simpa using this
  have hsv:∀d,o.dst=some d→F' d=sv:=fun d hd=>by
   rw [h.keep d fun o' ho'=>?_]
   ·unfold dB;rw [hd];exact aF
   ·rw [hr']at ho';obtain⟨j,hj,rfl⟩:=List.mem_iff_getElem.1 ho';simp only [List.length_drop,Array.length_toList]at hj;simp only [List.getElem_drop,Array.getElem_toList];have:=hdis (i+1+j) i d om om (by rw [aZ ho,hd]);rwa [aZ (o:=ops[i+1+j]) (by simp)]at this
  rcases Nat.lt_or_ge i k with hlt|hge
  ·refine ih hr' (fun t=>?_) k om hk;unfold jG dB;rw [un,aZ ho];cases hd:o.dst with
   |none =>
    simp only;rw [hF t];unfold jG;simp
   |some d =>
    by_cases ht:t=d
    ·subst ht;simp only [aF];rw [hsv _ hd];simp
    ·simp only [av ht];rw [hF t];unfold jG;have:(some d==some t)=false:=by simpa using fun e=>ht e.symm
     rw [this,Bool.or_false]
  ·obtain rfl:k=i:=by omega
   exact⟨o,ho,F,hF, .inr ⟨s,sv,hr,fun d hd=>(hsv d hd).symm,hts⟩⟩
theorem jI {listed:Array Bool}{i t:Nat}{o:Oper}(hs:listed.size=ops.size) (ho:ops[i]? = some o):fg ops (listed.setIfInBounds i true) t=(fg ops listed t||o.dst==some t):=by
 have hio:=(Array.getElem?_eq_some_iff.1 ho).1
 have key:∀j,j<ops.size→((listed.setIfInBounds i true).getD j false=(listed.getD j false||Nat.beq j i)):=fun j hj=>by
  by_cases hji:i=j
  ·subst hji;simp [hs,hio]
  ·rw [getD_set_ne false hji]
   have:Nat.beq j i=false:=by
    cases hb:Nat.beq j i with
    |false=>rfl
    |true=>exact absurd (Nat.eq_of_beq_eq_true hb).symm hji
   rw [this,Bool.or_false]
 rw [Bool.eq_iff_iff];unfold fg;simp only [List.any_eq_true,List.mem_range,Bool.and_eq_true,Bool.or_eq_true];constructor
 ·rintro ⟨j,hj,h1,h2⟩;rw [key j hj,Bool.or_eq_true]at h1;rcases h1 with h1|h1
  ·exact .inl ⟨j,hj,h1,h2⟩
  ·have:=Nat.eq_of_beq_eq_true h1;subst this;rw [aZ ho]at h2;exact .inr h2
 ·rintro (⟨j,hj,h1,h2⟩|h2)
  ·exact⟨j,hj,by rw [key j hj,h1];rfl,h2⟩
  ·exact⟨i,hio,by rw [key i hio,Nat.beq_refl];simp,by rw [aZ ho];exact h2⟩
theorem sf {i j:Nat}{listed:Array Bool}(hcl:ee ops listed) (hi:listed.getD i false=true) (he:aQ ops i j=true):listed.getD j false=true:=by
 have on:∀(k S:Nat),(∀j,S.testBit j=true→listed.getD j false=true)→∀j,(D7 ops k S).testBit j=true→listed.getD j false=true:=by
  intro k;induction k with
  |zero=>intro S hS j h;exact hS j h
  |succ k ih =>
   intro S hS j h;unfold D7 at h;refine ih _ (fun j h=>?_) j h;cases hb:S.testBit k with
   |false=>rw [hb]at h;exact hS j h
   |true =>
    rw [hb]at h;simp only [cond_true,Nat.testBit_or,Bool.or_eq_true]at h;rcases h with h|h
    ·exact hS j h
    ·exact hcl k j (hS k hb) (kq h)
 exact on i _ (fun j h=>hcl i j hi (kq h)) j he
theorem Kl {Q':Exit→Act→World→Prop}(hchk:tK ops rs=true) (hv:∀k,k<ops.size→Vld P C n ops rs Hc E F0 Fe k) (hF0:∀t,oH ops ops.size t=false→Fe t=F0 t)
  (fin:∀a w,St C n Fe (E rs.length++Hc) a w→Q' .normal a w) :
  ∀(fuel s:Nat) (listed:Array Bool) (a:Act) (w:World),s≤rs.length→(left ops ops.size listed).length≤fuel→listed.size=ops.size→ee ops listed→
   (∀(u:Nat) (k:Nat),rs[u]? = some k→(listed.getD k true=true↔u<s))→St C n (jG (fg ops listed) Fe F0) (E s++Hc) a w→wpAny P .any ops Q' fuel listed a w:=by
 obtain⟨hback,hdis,hlook,hrow⟩:=mM hchk
 have done:∀(s:Nat) (listed:Array Bool) (a:Act) (w:World),s≤rs.length→left ops ops.size listed=[]→listed.size=ops.size→
   (∀(u:Nat) (k:Nat),rs[u]? = some k→(listed.getD k true=true↔u<s))→St C n (jG (fg ops listed) Fe F0) (E s++Hc) a w→Q' .normal a w:=by
  intro s listed a w hsr hnil hs hr hst
  have all:∀j,j<ops.size→listed.getD j true=true:=fun j hj=>by
   cases hb:listed.getD j true with
   |true=>rfl
   |false =>
    have:(j,ops[j])∈left ops ops.size listed:=aC.2 ⟨hj,by simp,hb⟩;rw [hnil]at this;cases this
  have hs':s=rs.length:=by
   rcases Nat.lt_or_ge s rs.length with h|h
   ·exfalso;have h1:rs[s]? = some rs[s]:=by simp [h]
    have h2:=(hrow s _ h1).1;have:=(hr s _ h1).1 (all _ h2);omega
   ·omega
  subst hs';refine fin a w (hst.le fun t=>Le.of_eq ?_);unfold jG
  have hb:fg ops listed t=oH ops ops.size t:=by
   rw [Bool.eq_iff_iff];unfold fg oH;simp only [List.any_eq_true,List.mem_range,Bool.and_eq_true];constructor
   ·rintro ⟨j,h1,_,h3⟩;exact⟨j,h1,h3⟩
   ·rintro ⟨j,h1,h3⟩;refine⟨j,h1,?_,h3⟩;have:=all j h1;have hsz:j<listed.size:=by omega
    simp [hsz]at this⊢;exact this
  rw [hb];cases h:oH ops ops.size t with
  |true=>rfl
  |false=>exact(hF0 t h).symm
 have noready:∀(listed:Array Bool),listed.size=ops.size→Region.ready .any ops listed=[]→left ops ops.size listed=[]:=fun listed hs hr=>by
  cases hl:left ops ops.size listed with
  |nil=>rfl
  |cons x l' =>
   exfalso;obtain⟨i,o⟩:=x;have hmem:(i,o)∈left ops ops.size listed:=by rw [hl];simp
   obtain⟨h1,h2,h3⟩:=aC.1 hmem;simp only at h1 h2 h3
   have hready:i∈Region.ready .any ops listed:=by
    rw [mem_ready];refine⟨h3,o,h2,fun e he hb=>?_⟩;have hlt:=dU (hback i h1) h2 e he hb;cases hle:listed.getD e.on false with
    |true=>rfl
    |false =>
     have hsz:e.on<listed.size:=by omega
     have h4:listed.getD e.on true=false:=by simp [hsz]at hle⊢;exact hle
     have hm2:(e.on,ops[e.on]' om)∈left ops ops.size listed:=aC.2 ⟨by simp only;omega,by simp,h4⟩;have hsort:=bR (ops:=ops) ops.size listed;rw [hl]at hsort hm2;rcases List.mem_cons.1 hm2 with h|h
     ·simp only [Prod.mk.injEq]at h;omega
     ·have:=(List.pairwise_cons.1 hsort).1 _ h;simp at this;omega
   rw [hr]at hready;cases hready
 intro fuel;induction fuel with
 |zero =>
  intro s listed a w hsr hfu hs hcl hr hst;have hnil:=List.eq_nil_of_length_eq_zero (Nat.le_zero.1 hfu);refine⟨?_,done s listed a w hsr hnil hs hr hst⟩;cases hrd:Region.ready .any ops listed with
  |nil=>rfl
  |cons i l =>
   exfalso;have hi:i∈Region.ready .any ops listed:=by rw [hrd];simp
   obtain⟨hun,o,ho,_⟩:=mem_ready.1 hi;have:(i,o)∈left ops ops.size listed:=aC.2 ⟨(Array.getElem?_eq_some_iff.1 ho).1,ho,hun⟩;rw [hnil]at this;cases this
 |succ fuel ih =>
  intro s listed a w hsr hfu hs hcl hr hst;refine⟨fun hrd=>done s listed a w hsr (noready listed hs hrd) hs hr hst,fun i hi=>?_⟩;obtain⟨hun,o,ho,_⟩:=mem_ready.1 hi;have hio:=(Array.getElem?_eq_some_iff.1 ho).1;have hmem:(i,o)∈left ops ops.size listed:=aC.2 ⟨hio,ho,hun⟩;obtain⟨l1,l2,hl12⟩:=List.append_of_mem hmem;have hset:=iG hs hio hl12;have hlen:(l1++l2).length+1=(left ops ops.size listed).length:=by rw [hl12];simp;omega
  obtain⟨o',ho',Fk,hFk,hcase⟩:=hv i hio;rw [ho]at ho';obtain rfl:=Option.some.inj ho'
  have hlooks:∀t∈o.looksAt ops,Fk t=jG (fg ops listed) Fe F0 t:=fun t ht=>by
   rw [hFk t];unfold jG;have hlk:br ops i t=true:=by unfold br;rw [ho];simpa using ht
   have:oH ops i t=fg ops listed t:=by
    rw [Bool.eq_iff_iff];unfold fg oH;simp only [List.any_eq_true,List.mem_range,Bool.and_eq_true];constructor
    ·rintro ⟨j,h1,h2⟩;have h2':bE ops j=some t:=by simpa using h2
     exact⟨j,om,aB hcl hi ((hlook i j t hio om h2' hlk).1 h1),h2⟩
    ·rintro ⟨j,h1,h2,h3⟩;have h3':bE ops j=some t:=by simpa using h3
     refine⟨j,?_,h3⟩;rcases Nat.lt_trichotomy j i with h|h|h
     ·exact h
     ·exfalso;subst h;rw [bi hs h1 h2]at hun;cases hun
     ·exfalso;have he:=(hlook i j t hio h1 h3' hlk).2 h;have:=bi hs hio (sf hcl h2 he);rw [this]at hun;cases hun
   rw [this]
  have hmix:∀d,o.dst=some d→upd (jG (fg ops listed) Fe F0) d (Fe d)=jG (fg ops (listed.setIfInBounds i true)) Fe F0:=fun d hd=>by
   funext t
   unfold jG;rw [jI hs ho,hd];by_cases ht:t=d
   ·subst ht;rw [aF];simp
   ·rw [av ht];have:(some d==some t)=false:=by simpa using fun e=>ht e.symm
    rw [this,Bool.or_false]
  have hmix0:o.dst=none→jG (fg ops listed) Fe F0=jG (fg ops (listed.setIfInBounds i true)) Fe F0:=fun hd=>by
   funext t
   unfold jG;rw [jI hs ho,hd];simp
  rcases hcase with⟨hnr,d,hd,hdn,hds⟩|⟨u,sv,hu,hsv,hts⟩
  ·have hds':=hds.frame hlooks;obtain⟨hdef,hn,m,h1,h2,h3,h4,h5⟩:=hst;refine hds'.wp ho hd hn h1 h2.tail h5 fun v m' w' hv' hm' hH' r=>?_
   refine ih s _ _ _ hsr (by rw [hset];omega) (by simpa using hs) (hcl.step hi) (fun u k hk=>?_) ?_
   ·have hki:i≠k:=fun e=>by
     have:rs.contains i=true:=by rw [e];exact List.contains_iff_mem.2 (List.mem_of_getElem? hk)
     rw [hnr]at this;cases this
    rw [getD_set_ne true hki];exact hr u k hk
   ·rw [←hmix d hd];exact St.put (Nat.blt_eq.mp hdn) hdef hn h2 h3 h4 h5 hv' hm' (h2.beside hH' r) (r.mono fun b hb=>by unfold keys at *;rw [List.map_append];exact List.mem_append_right _ hb)
  ·have hus:u=s:=by
    rcases Nat.lt_trichotomy u s with h|h|h
    ·exfalso;have:=(hr u i hu).2 h;rw [hun]at this;cases this
    ·exact h
    ·exfalso;have hul:=(List.getElem?_eq_some_iff.1 hu).1;have h1:rs[s]? = some (rs[s]' om):=by simp
     have h2:=((hrow u i hu).2 s _ h h1).1;have h3:=bi hs (hrow s _ h1).1 (aB hcl hi h2);have:=(hr s _ h1).1 h3;omega
   subst hus;have hul:=(List.getElem?_eq_some_iff.1 hu).1;refine hts _ hlooks a w hst Q' _ fun a' w' hst'=>?_
   refine ih (u+1) _ _ _ hul (by rw [hset];omega) (by simpa using hs) (hcl.step hi) (fun x k hk=>?_) ?_
   ·by_cases hki:i=k
    ·subst hki
     have hx:x=u:=by
      rcases Nat.lt_trichotomy x u with h|h|h
      ·have:=((hrow u i hu).2 x _ h hk).2;omega
      ·exact h
      ·have:=((hrow x i hk).2 u _ h hu).2;omega
     subst hx;simp [hs,hio]
    ·rw [getD_set_ne true hki,hr x k hk];constructor
     ·intro h;omega
     ·intro h;rcases Nat.lt_or_ge x u with h'|h'
      ·exact h'
      ·exfalso;have:x=u:=by omega
       subst this;rw [hu]at hk;exact hki (Option.some.inj hk)
   ·unfold dB at hst';cases hd:o.dst with
    |none=>rw [hd]at hst';rw [←hmix0 hd];exact hst'
    |some d =>
     rw [hd]at hst';simp only at hst';rw [hsv d hd]at hst';rw [←hmix d hd];exact hst'
attribute [local semireducible] WP WPL Dk PuH
def Mk (P:Program) (C:Ctx) (n:Nat) (ops:Array Oper) (rs:List Nat) (Hc:LH) (E:Nat→LH) (i s:Nat) (l:List Oper) (K:Fr→Prop) (F:Fr):Prop:=∃Fe,Mx P C n ops rs Hc E i s l F Fe∧K Fe
theorem WdM {id:Nat}{l:List Oper}(rs:List Nat) (Hc:LH) (E:Nat→LH) (h:Mk P C n l.toArray rs Hc E 0 0 l (fun Fe=>Q .normal Fe (E rs.length++Hc)) F) (h0:E 0++Hc=H:=by exact rfl) (hm:P.follows .mixedOrders=true:=by kernel_rfl) (hchk:tK l.toArray rs=true:=by decide +kernel) :
  WP P C n (.region id l.toArray true) Q F H:=by
 obtain⟨Fe,hx,hQ⟩:=h;intro a w hs;subst h0;refine wp_region_any hm ?_;refine Kl (C:=C) (n:=n) (F0:=F) (Fe:=Fe) (rs:=rs) (Hc:=Hc) (E:=E) hchk (fun k hk=>hx.vld hchk (by simp) (fun t=>by simp [jG,oH]) k (Nat.zero_le _) hk) (fun t ht=>hx.keep t fun o ho e=>?_) (fun a' w' hst => .mk hst hQ) l.toArray.size 0 _ a _ (Nat.zero_le _) ?_ (by simp) (fun m j hm=>by by_cases hlt:m<l.length <;> simp [hlt]at hm) (fun u k hk=>?_) ?_
 ·obtain⟨j,hj,rfl⟩:=List.mem_iff_getElem.1 ho
  have:oH l.toArray l.toArray.size t=true:=by
   unfold oH;rw [List.any_eq_true];exact⟨j,by simpa using hj,by rw [aZ (o:=l[j]) (by simp [hj]),e];simp⟩
  rw [ht]at this;cases this
 ·unfold left;refine Nat.le_trans (List.length_filter_le _ _) ?_;simp
 ·have hkl:=((mM hchk).2.2.2 u k hk).1;have hkl':k<l.length:=by simpa using hkl
  simp [hkl']
 ·obtain⟨hdef,hn,m,h1,h2,h3,h4,h5⟩:=hs;refine⟨hdef,hn,m,⟨h1.at',h1.base⟩,⟨h2.1,h2.2⟩,h3.drw,h4,fun t=>?_⟩
  have:fg l.toArray (Array.replicate l.toArray.size false) t=false:=by
   unfold fg;rw [List.any_eq_false];intro j hj;have hj':j<l.length:=by simpa using hj
   simp [hj']
  unfold jG;rw [this];exact h5 t
section
variable {l:List Oper}{K:Fr→Prop}{i s:Nat}
theorem MkN (h:K F):Mk P C n ops rs Hc E i s [] K F:=⟨F, .nil F,h⟩
def B9 (rs:List Nat) (i k:Nat):Bool:=(List.range k).all fun j => !rs.contains (i+j)
def mkD (P:Program) (C:Ctx) (n:Nat) (ops:Array Oper) (rs:List Nat) (Hc:LH) (E:Nat→LH) (i s:Nat) (l:List Oper) (K:Fr→Prop):List NW→Fr→Prop:=fun N F=>N=[]∧Mk P C n ops rs Hc E i s l K F
theorem xt (h:Mk P C n ops rs Hc E i s l K F):mkD P C n ops rs Hc E i s l K [] F:=⟨rfl,h⟩
theorem Dr.mx {s:Nat}{Fe:Fr}:∀(k:Nat) (l:List Oper) (i:Nat) (F F':Fr),B9 rs i k=true→k≤l.length→Dr P ops n Hc (iz i k l) [] F F'→Mx P C n ops rs Hc E (i+k) s (l.drop k) F' Fe→Mx P C n ops rs Hc E i s l F Fe
 |0,l,i,F,F',_,_,h,hx=>by
  cases h;simpa using hx
 |k+1,[],i,F,F',_,hk,_,_=>by simp at hk
 |k+1,o::l,i,F,F',hf,hk,h,hx=>by
  have hfi:rs.contains i=false∧B9 rs (i+1) k=true:=by
   unfold B9 at hf⊢;simp only [List.all_eq_true,List.mem_range,Bool.not_eq_true']at hf⊢;refine⟨by simpa using hf 0 om,fun j hj=>?_⟩;have:=hf (j+1) om;rwa [show i+(j+1)=i+1+j from by omega]at this
  unfold iz at h;cases h with
  |val hd hds hdn h =>
   exact .free hfi.1 hd hdn hds (Dr.mx k l (i+1) _ _ hfi.2 (by simpa using hk) h (by rw [show i+1+k=i+(k+1)from by omega];simpa using hx))
theorem MkD (k:Nat) (h:Dk P ops n Hc (iz i k l) (mkD P C n ops rs Hc E (i+k) s (l.drop k) K) F) (hf:B9 rs i k=true:=by exact rfl) (hk:Nat.ble k l.length=true:=by exact rfl):Mk P C n ops rs Hc E i s l K F:=by
 obtain⟨N,F',h1,rfl,Fe,hx,hK⟩:=h;exact⟨Fe,Dr.mx k l i F F' hf (Nat.le_of_ble_eq_true hk) h1 hx,hK⟩
theorem MkR {o:Oper}{sv:SV}(hts:TS P C n ops i o F (E s++Hc) sv (E (s+1)++Hc)) (h:Mk P C n ops rs Hc E (i+1) (s+1) l K (dB o F sv)) (hr:rs[s]? = some i:=by exact rfl):Mk P C n ops rs Hc E i s (o::l) K F:=by
 obtain⟨Fe,hx,hK⟩:=h;exact⟨Fe, .row hr hts hx,hK⟩
theorem qB {o:Oper}{a:Act}{w:World}{K':Act→World→Prop}{Q1 Q2:Exit→Act→World→Prop}(h:o.wp P a w K' Q1) (hp:∀ch a w,Q1 (.panic ch) a w→Q2 (.panic ch) a w) (ho:∀a w,Q1 .outgrown a w→Q2 .outgrown a w):o.wp P a w K' Q2:=by
 unfold Oper.wp at *;generalize(execOp a.eval o).run P w=r at *;unfold Oper.upon at *;split at h
 ·exact h
 ·exact h
 ·exact h
 ·refine Calls.mono h ?_;intro e w'' he;cases e with
  |returned v=>exact he
  |panicked ch=>exact hp _ _ _ he
  |outgrown=>obtain⟨a0,w0,h0⟩:=he;exact⟨a0,w0,ho _ _ h0⟩
 ·exact h
 ·exact hp _ _ _ h
 ·exact h.elim
theorem TS.call {i d:Nat}{f:FuncId}{la:List Operand}{tys:Array TypeId}{ty:TypeId}{pos:String}{aft:Array Edge}{svs:List SV}{Hin Hout Rs:LH}{res:SV}(hc:PuH P f svs Hin (fun r H=>r=res∧H=Hout) noX) (ha:la.map (ev F)=svs) (hd:Nat.blt d n=true) (ho:ops[i]? = some ⟨some d, .call ⟨.value (.func f),la.toArray,tys⟩,ty,pos,aft,none⟩) :
  TS P C n ops i ⟨some d, .call ⟨.value (.func f),la.toArray,tys⟩,ty,pos,aft,none⟩ F (Hin++Rs) res (Hout++Rs):=by
 intro F1 hF a w hst Q' K' hK
 have ha':la.map (ev F1)=svs:=by
  rw [←ha];refine List.map_congr_left fun x hx=>?_
  exact dz (o:=⟨some d, .call ⟨.value (.func f),la.toArray,tys⟩,ty,pos,aft,none⟩) (x:=x) (by simp [Op.operands,Call.operands,hx]) hF
 have h:=WPL.callHG (P:=P) (C:={C with pan:=noX}) (n:=n) (F:=F1) (H:=Hin++Rs) (ops:=ops) (rest:=[]) (d:=d) (x := .func f) (s:=lit (.func (.func f) #[] #[])) (f:=f) (first:=[]) (caps:=[]) (l:=la) (tys:=tys) (ty:=ty) (pos:=pos) (aft:=aft) (g:=none)
  (K:=fun F' H'=>F'=upd F1 d res∧H'=Hout++Rs) rfl hc (Spl.app _ _) (by rw [List.nil_append,List.append_nil];exact ha') hd (fun _ _ _=>rfl)
  (fun r H' ⟨hr,hH'⟩=>WPL.nil ⟨by rw [hr],by rw [hH']⟩) (fun _ _ h=>h.elim)
 have h':=h a w hst (fun e a' w'=>match e with| .normal=>K' a' w'|e=>False) ⟨fun a' w' F' H' hst' hKK=>?_,fun ch a' w' hp=>?_⟩
 ·unfold wpOp;rw [ho];unfold wpList at h';simp only [Region.wanted,if_true]at h'⊢;left;rcases h' with h'|⟨_,a0,w0,h0⟩
  ·exact qB h' (fun _ _ _ h=>h.elim) (fun _ _ h=>h.elim)
  ·exact h0.elim
 ·obtain⟨rfl,rfl⟩:=hKK;exact hK a' w' hst'
 ·obtain⟨_,_,_,_,_,_,_,_,_,_,_,hx⟩:=hp;exact hx.elim
end
end
@[irreducible] def xsl (cs:List SV) (k:Nat):SV:=⟨fun m v=>∃a,v = .slice a k k∧k≤maxLen∧(a=none→k=0)∧(cs=[]∨∃b off,a=some ⟨b,off,none⟩∧dD m b off cs),
 fun h ⟨a,e,x,y,k⟩=>⟨a,e,x,y,k.imp id fun⟨b,off,e,k⟩=>⟨b,off,e,k.mono h⟩⟩⟩
section
variable {P:Program}{C:Ctx}{n:Nat}{F:Fr}{H:LH}{ty:TypeId}
theorem Av {m:Mem}{w w':World}{arr:Array Value}{e:TypeId}(h1:aU m w) (hw:w'=w.alloc (.cells arr e)∨w'=w.drew.alloc (.cells arr e)) :
  ∃m',aU m' w'∧Rel [] m w m' w'∧m' w.heap.size=some (.cells arr e (0,0)):=by
 have hnone:m w.heap.size=none:=by
  cases hmm:m w.heap.size with
  |none=>rfl
  |some o=>have:=h1 _ _ hmm;rw [Array.getElem?_eq_none (Nat.le_refl _)]at this;cases this
 have hsize:w'.heap.size=w.heap.size+1:=by rcases hw with rfl|rfl <;> exact World.size_alloc ..
 have hold:∀b,b<w.heap.size→w'.heap[b]? = w.heap[b]?:=by
  rcases hw with rfl|rfl
  ·exact fun b hb=>@heap_alloc_old w _ b hb
  ·exact fun b hb=>@heap_alloc_old w.drew _ b hb
 have hnew:w'.heap[w.heap.size]? = some (.cells arr e (0,0)):=by
  rcases hw with rfl|rfl
  ·exact heap_alloc_new w _
  ·exact heap_alloc_new w.drew _
 have hos:w'.os=w.os∧w'.tape=w.tape∧w'.output=w.output∧w.drawn≤w'.drawn:=by
  rcases hw with rfl|rfl
  ·exact⟨rfl,rfl,rfl,Nat.le_refl _⟩
  ·exact⟨rfl,rfl,rfl,Nat.le_succ _⟩
 have hle:m.le fun b=>if b=w.heap.size then some (.cells arr e (0,0))else m b:=fun b o hb=>by
  have:b≠w.heap.size:=fun e=>by rw [e,hnone]at hb;cases hb
  simp only [if_neg this];exact hb
 refine⟨fun b=>if b=w.heap.size then some (.cells arr e (0,0))else m b,⟨fun b o hb=>?_,Mem.le_trans h1.base hle⟩,⟨hle,fun b hb _=>?_,hos.1,hos.2.1,hos.2.2,om,fun b hb _=>hold b hb⟩,by simp⟩
 ·by_cases hbe:b=w.heap.size
  ·subst hbe;simp only [if_true]at hb;obtain rfl:=Option.some.inj hb;exact hnew
  ·simp only [if_neg hbe]at hb;have:=h1 b o hb;rw [hold b (Array.getElem?_eq_some_iff.1 this).1];exact this
 ·simp only [if_neg (Nat.ne_of_lt hb)]
theorem OpV.pubN {op:Op}{T:TypeId}{z:List SV}{mk:Nat→Value}{sv:SV}(hn:l8 P op F T z mk) (hsv:∀(m:Mem) (b:Nat) (arr:Array Value),m b=some (.cells arr T (0,0))→az m z arr.toList→sv.p m (mk b)):OpV P op ty F H sv:=by
 refine OpV.of0 ?_;intro m w o a ho hty h1 h2 h3 K Q hK;obtain⟨arr,hrun,hall⟩:=hn w o a ho ⟨m,h3⟩;obtain⟨m',g1,g2,g3⟩:=Av (w':=w.alloc (.cells arr T)) h1 (.inl rfl);unfold Oper.wp;rw [hrun];exact hK _ m' _ (hsv m' _ arr g3 ((hall m h3).mono g2.le)) g1 g2
theorem DQ {m:Mem}{b k:Nat}{arr:Array Value}{T:TypeId}{cs:List SV}(hb:m b=some (.cells arr T (0,0))) (h:az m cs arr.toList) (hk:k≤maxLen):(sl cs k).p m (.slice (some ⟨b,0,none⟩) k k) :=
 f4 (Nat.le_refl _) hk (.inr ⟨b,0,rfl,arr,T,(0,0),hb,by rw [List.drop_zero,←h.length,List.take_length];exact h⟩)
theorem ig {P:Program}{w:World}{v:Value}(l u:Nat){ki:IntKind}(code:BoundsCode) (hy:v = .int ki l) (hle:l≤u):(Instr.sliceBound v u code).run P w = .ok l w:=by
 have h1:(l:Int)≤(u:Int):=by omega
 subst hy;simp [Instr.sliceBound,asIntOf,h1]
theorem ft:Le (lit (.slice none 0 0)) (sl [] 0):=fun m v h=>by
 rw [aq]at h;subst h;exact f4 (Nat.le_refl _) (Nat.zero_le _) (.inl rfl)
end
section
variable {P:Program}{C:Ctx}{n:Nat}{F:Fr}{H:LH}{ops:Array Oper}{K:Fr→LH→Prop}{rest:List Oper}{ty:TypeId}{pos:String}{aft:Array Edge}
theorem ay.mem_or {b:Nat}{T:TypeId}{cs cs':List SV}{H H':LH}(h:ay b T cs cs' H H'):∀e∈H',e=(b,T,cs')∨e∈H:=by
 induction h with
 |here=>exact fun e he=>(List.mem_cons.1 he).imp id fun h=>Mc h
 |there _ _ ih=>exact fun e he=>(List.mem_cons.1 he).elim (fun h => .inr (by rw [h];exact Ms)) fun h=>(ih e h).imp id fun h=>Mc h
theorem St.lowB {b:Nat}{T:TypeId}{cs cs':List SV}{H':LH}{a:Act}{w:World}(hu:ay b T cs cs' H H') (hle:LeL cs cs') (hs:St C n F H a w):St C n F H' a w:=by
 obtain⟨hdef,hn,m,h1,h2,h3,h4,h5⟩:=hs;obtain⟨g1,g2⟩:=h2.2 _ hu.mem;refine⟨hdef,hn,m,h1,⟨by rw [hu.keys];exact h2.1,fun e he=>?_⟩,h3,fun e he=>?_,h5⟩
 ·rcases hu.mem_or e he with rfl|h
  ·exact⟨g1,g2.le hle⟩
  ·exact h2.2 e h
 ·rcases hu.mem_or e he with rfl|h
  ·exact h4 (b,T,cs) hu.mem
  ·exact h4 e h
theorem WPL.lowB {l:List Oper}{b:Nat}{T:TypeId}{cs cs':List SV}{H':LH}(hu:ay b T cs cs' H H') (hle:LeL cs cs') (k:WPL P C n ops l K F H'):WPL P C n ops l K F H:=by
 unfold WPL at *;exact fun a w hs=>k a w (hs.lowB hu hle)
theorem gA {T e:TypeId}{sz by_:Nat}{z:List SV}{g:Bool} [hS:TSl P T e] [hT:TY P e sz by_ z g]{x y:Operand}{cs:List SV}{k:Nat}{v:Int}(j:Nat) (hx:ev F x=sl cs k) (hy:ev F y=lit (.int .i64 v)) (hv:v=(j:Int)) (hk:cs.length=k*sz) (hj:j≤k) :
  OpV P (.slice T x (some y) none none) ty F H (sl (cs.drop (j*sz)) (k-j)) :=
 OpV.pure fun m w o a ho _ _ _ h=>by
  have e0:=h x (by simp [Op.operands]);rw [hx]at e0;have e1:=h y (by simp [Op.operands]);rw [hy,aq]at e1;subst hv;obtain⟨ad,cap,e0,hc1,hc2,hca⟩:=cE e0
  have hb:(Instr.sliceBounds true k cap (some (a.eval y)) none none).run P w = .ok (j,k,cap) w:=by
   simp [Instr.sliceBounds,ig j k _ e1 hj]
  have hrun:∃a',(execOp a.eval o).run P w = .ok (.value (.slice a' (k-j) (cap-j))) w∧(cs.drop (j*sz)=[]∨∃b off,ad=some ⟨b,off,none⟩∧a'=some ⟨b,off+j*sz,none⟩∧dD m b off cs):=by
   refine⟨if cap=j then ad else ad.map (·.add (j*sz)),?_,?_⟩
   ·simp [execOp,ho,Instr.sliceAt,Instr.slice,underlying,hS.h,e0,hb,hT.run_size]
   ·rcases hca with hnil|⟨b,off,rfl,hca⟩
    ·left;rw [hnil,List.drop_nil]
    ·by_cases hci:cap=j
     ·left;have hkj:k=j:=by omega
      exact List.drop_eq_nil_of_le (by rw [hk,hkj];exact Nat.le_refl _)
     ·right;refine⟨b,off,rfl,?_,hca⟩;rw [if_neg hci];simp [aO]
  obtain⟨a',hr,hcs⟩:=hrun;refine⟨_,hr,f4 om om ?_⟩;rcases hcs with hnil|⟨b,off,_,rfl,hca⟩
  ·left;exact hnil
  ·right;exact⟨b,off+j*sz,rfl,hca.drop (j*sz)⟩
attribute [local semireducible] WPL in
theorem TSR.of {i:Nat}{o:Oper}{Fe:Fr}{Post:SV→LH→Prop}(ho:ops[i]? = some o) (hg:o.guard=none) (h:∀F:Fr,(∀t,t∈o.looksAt ops→Fe t=F t)→WPL P {C with pan:=noX} n ops [o] (fun F' H'=>∃sv,Post sv H'∧F'=dB o F sv) F H):TSR P C n ops i o Fe H Post:=by
 obtain⟨od,oop,oty,opos,oaft,og⟩:=o;simp only at hg;subst hg;intro F hF a w hst Q' K' hK;have h':=h F hF a w hst (fun e a' w'=>match e with| .normal=>K' a' w'|e=>False) ⟨fun a' w' F' H' hst' hKK=>?_,fun ch a' w' hp=>?_⟩
 ·unfold wpOp;rw [ho];unfold wpList at h';simp only [Region.wanted,if_true]at h'⊢;left;rcases h' with h'|⟨_,a0,w0,h0⟩
  ·exact qB h' (fun _ _ _ h=>h.elim) (fun _ _ h=>h.elim)
  ·exact h0.elim
 ·obtain⟨sv,hP,rfl⟩:=hKK;exact hK sv H' hP a' w' hst'
 ·obtain⟨_,_,_,_,_,_,_,_,_,_,_,hx⟩:=hp;exact hx.elim
theorem iC {T e:TypeId}{sz by_:Nat}{z:List SV}{g:Bool} [hS:TSl P T e] [hT:TY P e sz by_ z g]{x:Operand}{s:SV}{ds:List SV}(hx:ev F x=s) (hco:CO s ds) (hf:fS ((List.range 1).map fun i=>(i*sz,sz)) (List.replicate 1 z).flatten [(0,ds)]=some ds:=by exact rfl)
  (hsz:Nat.ble (1*sz) 16777216=true:=by exact rfl) (hpos:Nat.blt 0 sz=true:=by exact rfl):OpV P (.buildSlice T 1 [(0,x)].toArray) ty F H (sl ds 1) :=
 OpV.pubN (ii (.cons hx hco .nil) hf hsz hpos) fun m b arr hb h=>DQ hb h (by simp only [maxLen];omega)
theorem WPL.appOwnS {T e:TypeId}{sz by_:Nat}{z:List SV}{g:Bool} [hS:TSl P T e] [hT:TY P e sz by_ z g]{d:Nat}{x y:Operand}{n0:Nat}{cs ds:List SV}{s:SV}{Hs Rs:LH}
  (hown:Own e sz n0 cs s Hs) (hx:ev F x=s) (hy:ev F y=sl ds 1) (hsp:Spl H Hs Rs) (hds:ds.length=sz) (hpos:0<sz) (hl:n0≤1000000000) (hby:by_≤10000)
  (k:∀s' H',Own e sz (n0+1) (cs++ds) s' H'→WPL P C n ops rest K (upd F d s') (H'++Rs)) (hd:Nat.blt d n=true) :
  WPL P C n ops (⟨some d, .call ⟨.builtin .append,#[x,y],#[T,T]⟩,ty,pos,aft,none⟩::rest) K F H:=by
 unfold WPL;intro a w hs0 Q hq;have hs:=hs0.perm hsp.perm;refine wpList_plain rfl fun K' hK'=>?_
 obtain⟨hdef,hn,m0,h10,h20,h30,h40,h50⟩:=id hs
 have hp0:∀x,(ev F x).p m0 (a.eval x):=fun x=>by
  cases x with
  |tmp t=>exact h50 t
  |const v=>unfold ev lit;rfl
  |global g=>unfold ev lit;rfl
  |func f=>unfold ev lit;rfl
 have e0:=hp0 x;rw [hx]at e0;have e1:=hp0 y;rw [hy]at e1;obtain⟨ad2,c2,e1,hc1,hc2,hcb⟩:=cE e1;obtain⟨b2,off2,rfl,arr2,T2,fz2,hbm2,hall2⟩:=hcb.resolve_left (fun h=>by rw [h]at hds;simp at hds;omega);have hb2:=h10 _ _ hbm2;rw [hds]at hall2;generalize hl2:(arr2.toList.drop off2).take sz=l2 at hall2;obtain⟨i,v,hi,hsz,hbyt,hz,hzl,hfl,hvs⟩:=hT.run_bytes;have hlen2:=hall2.length
 have hys:∀j u,l2[j]? = some u→w.cell? ((⟨b2,off2,none⟩:Addr).add j)=some u:=fun j u hj=>by
  rw [aO,cu w b2 _ arr2 _ _ hb2];rw [←hl2,List.getElem?_take]at hj;split at hj
  ·rw [List.getElem?_drop]at hj;simpa using hj
  ·cases hj
 have hexec:execOp a.eval (⟨some d, .call ⟨.builtin .append,#[x,y],#[T,T]⟩,ty,pos,aft,none⟩:Oper)=(do let v←Builtin.append_ #[T,T] ty #[a.eval x,a.eval y];pure (.value v)):=by
  simp [execOp,resolve,invoke,builtin]
 have hmul:∀q,q≤1000000001→q*by_≤140737488355328:=fun q hq=>Nat.le_trans (Nat.mul_le_mul hq hby) (by decide)
 have get2:∀m,aU m w→(ev F y).p m (a.eval y)→az m ds l2:=fun m h1 h2=>by
  rw [hy,e1]at h2;obtain⟨ad3,c3,e3,_,_,hcb3⟩:=cE h2;obtain⟨b3,off3,rfl,arr3,T3,fz3,hbm3,hall3⟩:=hcb3.resolve_left (fun h=>by rw [h]at hds;simp at hds;omega);have hb3:=h1 _ _ hbm3;simp only [Value.slice.injEq,Option.some.injEq,Addr.mk.injEq,and_true,true_and]at e3;obtain⟨⟨rfl,rfl⟩,_⟩:=e3;rw [hb2]at hb3;simp only [Option.some.injEq,Obj.cells.injEq]at hb3;obtain⟨rfl,_⟩:=hb3;rw [hds,hl2]at hall3;exact hall3
 unfold Oper.wp;rw [hexec,e1];obtain⟨hcl,hcase⟩:=hown;rcases hcase with⟨rfl,rfl,rfl⟩|⟨b,c,hnc,hcm,rfl,rfl⟩
 ·rw [aq]at e0;have hcs:cs=[]:=List.eq_nil_of_length_eq_zero (by rw [hcl,Nat.zero_mul]);subst hcs;have hrun:=run_append_nil (P:=P) w T ty e i v hS.h hi hz ⟨b2,off2,none⟩ 1 c2 l2 (by rw [hlen2,hsz,hds,Nat.one_mul]) hys om om (by rw [hbyt];have:=hmul 1 om;omega);rw [e0];simp only [Sem.run_bind,hrun,Result.andThen_ok,Sem.run_pure];have hge:=grownCap_ge w 1 0 e;have hle:=grownCap_le_maxLen w 1 0 e (by simp only [maxLen];omega);have h:=k (lit (.slice (some ⟨w.heap.size,0,none⟩) 1 (grownCap w 1 0 e))) [(w.heap.size,e,([]++ds)++List.replicate (grownCap w 1 0 e*sz-1*sz) top)] ⟨by rw [List.nil_append,hds];omega, .inr ⟨_,_,hge,hle,rfl,by rw [Nat.zero_add]⟩⟩;unfold WPL at h;refine hK' _ _ (h _ _ (St.pushD (Nat.blt_eq.mp hd) hs fun m h1 h2 h3=>?_) Q hq);simp only [Array.toList_append,List.toList_toArray,List.nil_append];refine(get2 m h1 (h3 y)).append (az.topL ?_ (dE hfl));rw [Array.length_toList,size_zeroCells,hvs,Nat.sub_mul]
 ·rw [aq]at e0;obtain⟨hmb,arr,hb,hall⟩:=h20.2 _ (List.mem_append_left Rs (List.mem_singleton.2 rfl));have hlen:=hall.length;simp only [List.length_append,List.length_replicate,hcl,Array.length_toList]at hlen;have hmono:n0*sz≤c*sz:=Nat.mul_le_mul_right _ hnc
  have getc:∀m,HOk m w ([(b,e,cs++List.replicate (c*sz-n0*sz) top)]++Rs)→az m (cs++List.replicate (c*sz-n0*sz) top) arr.toList:=fun m h2=>by
   obtain⟨_,arr',hb',hall'⟩:=h2.2 _ (List.mem_append_left Rs (List.mem_singleton.2 rfl));rw [hb]at hb';simp only [Option.some.injEq,Obj.cells.injEq]at hb';obtain⟨rfl,_⟩:=hb';exact hall'
  by_cases hroom:n0+1≤c
  ·have hm1:(n0+1)*sz≤c*sz:=Nat.mul_le_mul_right _ hroom;rw [Nat.succ_mul]at hm1;have hrun:=run_append_room (P:=P) w T ty e i hS.h hi b n0 c arr hb ⟨b2,off2,none⟩ 1 c2 l2 (by rw [hlen2,hsz,hds,Nat.one_mul]) hys hall2.flat hroom (by rw [hsz,hlen2,hds];omega);rw [e0];simp only [Sem.run_bind,hrun,Result.andThen_ok,Sem.run_pure];have h:=k (lit (.slice (some ⟨b,0,none⟩) (n0+1) c)) [(b,e,(cs++ds)++List.replicate (c*sz-(n0+1)*sz) top)] ⟨by rw [List.length_append,hcl,hds,Nat.succ_mul], .inr ⟨_,_,hroom,hcm,rfl,rfl⟩⟩;unfold WPL at h
   have hfin:az m0 ((cs++ds)++List.replicate (c*sz-(n0+1)*sz) top) (arr.toList.take (n0*i.size)++l2++arr.toList.drop (n0*i.size+l2.length)).toArray.toList:=by
    obtain⟨q1,q2⟩:=(getc m0 h20).split;rw [hcl]at q1 q2;rw [hsz,hlen2,hds,List.toList_toArray];refine(q1.append (get2 m0 h10 (hp0 y))).append (az.topL ?_ fun u hu=>?_)
    ·rw [List.length_drop,Array.length_toList,Nat.succ_mul];omega
    ·exact hall.flat u (List.mem_of_mem_drop hu)
   obtain⟨q1,q2,q3,q4⟩:=ik (w':=w.setRow b (arr.toList.take (n0*i.size)++l2++arr.toList.drop (n0*i.size+l2.length)).toArray) h10 h20 h30 h40 (.here Rs)
    (setRow_heap w b arr _ e _ hb) (fun j hj=>setRow_other w b j _ hj) rfl rfl ⟨rfl,rfl⟩ (by simp) hfin
   refine hK' _ _ (h (a.put (some d) (.slice (some ⟨b,0,none⟩) (n0+1) c)) _ ⟨hdef,by simpa [Act.put] using hn,m0,q1,q2,q3,q4,fun t=>?_⟩ Q hq);rw [dw (Nat.lt_of_lt_of_le (Nat.blt_eq.mp hd) hn)];unfold Ab.upd;by_cases ht:t=d
   ·subst ht;rw [if_pos rfl,Nat.beq_refl];exact aq.2 rfl
   ·rw [if_neg ht]
    have:Nat.beq t d=false:=by
     cases hbb:Nat.beq t d with
     |false=>rfl
     |true=>exact absurd (Nat.eq_of_beq_eq_true hbb) ht
    rw [this];exact h50 t
  ·have hxs:∀j u,(arr.toList.take (n0*sz))[j]? = some u→w.cell? ((⟨b,0,none⟩:Addr).add j)=some u:=fun j u hj=>by
    rw [aO,cu w b _ arr _ _ hb];rw [List.getElem?_take]at hj;split at hj
    ·simpa using hj
    ·cases hj
   have hrun:=run_append_grow (P:=P) w T ty e i v hS.h hi hz ⟨b,0,none⟩ n0 c (arr.toList.take (n0*sz)) (by rw [List.length_take,Array.length_toList,hsz];omega) hxs
    ⟨b2,off2,none⟩ 1 c2 l2 (by rw [hlen2,hsz,hds,Nat.one_mul]) hys om om (growslice_fits om (by rw [hbyt];exact hmul _ om))
   rw [e0];simp only [Sem.run_bind,hrun,Result.andThen_ok,Sem.run_pure];have hge:=grownCap_ge w (n0+1) c e;have hle:=grownCap_le_maxLen w (n0+1) c e (by simp only [maxLen];omega)
   have h:=k (lit (.slice (some ⟨w.heap.size,0,none⟩) (n0+1) (grownCap w (n0+1) c e))) [(w.heap.size,e,(cs++ds)++List.replicate (grownCap w (n0+1) c e*sz-(n0+1)*sz) top)]
    ⟨by rw [List.length_append,hcl,hds,Nat.succ_mul], .inr ⟨_,_,hge,hle,rfl,rfl⟩⟩
   unfold WPL at h
   have hst:=St.pushD (d:=d) (cs:=(cs++ds)++List.replicate (grownCap w (n0+1) c e*sz-(n0+1)*sz) top) (v := .slice (some ⟨w.heap.size,0,none⟩) (n0+1) (grownCap w (n0+1) c e)) (T:=e)
    (arr:=(arr.toList.take (n0*sz)).toArray++l2.toArray++Builtin.zeroCells v.cells (grownCap w (n0+1) c e-(n0+1))) (Nat.blt_eq.mp hd) hs fun m h1 h2 h3=>?_
   ·refine hK' _ _ (h _ _ ?_ Q hq);exact hst.drop (.there _ (.here _))
   ·simp only [Array.toList_append,List.toList_toArray];obtain⟨q1,_⟩:=(getc m h2).split;rw [hcl]at q1;refine(q1.append (get2 m h1 (h3 y))).append (az.topL ?_ (dE hfl));rw [Array.length_toList,size_zeroCells,hvs,Nat.sub_mul]
theorem jS {T e:TypeId}{sz by_:Nat}{z:List SV}{g:Bool} [hS:TSl P T e] [hT:TY P e sz by_ z g]{d:Nat}{x y:Operand}{n0:Nat}{cs ds:List SV}{s:SV}{Hs Rs:LH}
  (hown:Own e sz n0 cs s Hs) (hsp:Tk H Hs Rs) (hl:n0≤1000000000) (k:∀s' H',Own e sz (n0+1) (cs++ds) s' H'→WPL P C n ops rest K (upd F d s') (Rs++H'))
  (hx:ev F x=s:=by exact rfl) (hy:ev F y=sl ds 1:=by exact rfl) (hds:ds.length=sz:=by exact rfl) (hpos:0<sz:=by decide) (hby:by_≤10000:=by decide)
  (hd:Nat.blt d n=true:=by exact rfl) :
  WPL P C n ops (⟨some d, .call ⟨.builtin .append,#[x,y],#[T,T]⟩,ty,pos,aft,none⟩::rest) K F H :=
 .perm hsp.perm (.appOwnS hown hx hy (Spl.app _ _) hds hpos hl hby (fun s' H' h => .perm List.perm_append_comm (k s' H' h)) hd)
end
theorem wQ {m:Mem}{arr:Array Value}{b:Nat}{T:TypeId}{cs:List SV}{j n c:Nat}(hm:m b=some (.cells arr T (0,0))) (ha:az m (cs++List.replicate j top) arr.toList) (h1:n≤c) (h2:c≤maxLen):(sl cs n).p m (.slice (some ⟨b,0,none⟩) n c):=by
 refine f4 h1 h2 (.inr ⟨b,0,rfl,arr,T,(0,0),hm,?_⟩);rw [List.drop_zero];exact ha.split.1
section
variable {P:Program}{C:Ctx}{n:Nat}{F:Fr}{H:LH}{ops:Array Oper}{K:Fr→LH→Prop}{rest:List Oper}{ty:TypeId}{pos:String}{aft:Array Edge}
theorem Hy {T e:TypeId}{sz by_:Nat}{z:List SV}{g:Bool} [hS:TSl P T e] [hT:TY P e sz by_ z g]{x y:Operand}{b k c:Nat}{v:Int}(j:Nat) (hx:ev F x=lit (.slice (some ⟨b,0,none⟩) k c)) (hy:ev F y=lit (.int .i64 v)) (hv:v=(j:Int)) (hj:j≤c) :
  OpV P (.slice T x none (some y) none) ty F H (lit (.slice (some ⟨b,0,none⟩) j c)) :=
 OpV.pure fun m w o a ho _ _ _ h=>by
  have e0:=h x (by simp [Op.operands]);rw [hx,aq]at e0;have e1:=h y (by simp [Op.operands]);rw [hy,aq]at e1;subst hv
  have hb:(Instr.sliceBounds true k c none (some (a.eval y)) none).run P w = .ok (0,j,c) w:=by
   simp [Instr.sliceBounds,ig j c _ e1 hj]
  refine⟨.slice (some ⟨b,0,none⟩) j c,?_,aq.2 rfl⟩;by_cases h0:c=0
  ·subst h0;simp [execOp,ho,Instr.sliceAt,Instr.slice,underlying,hS.h,e0,hb,hT.run_size]
  ·simp [execOp,ho,Instr.sliceAt,Instr.slice,underlying,hS.h,e0,hb,hT.run_size,aO,Ne.symm h0]
theorem Own.blk {T:TypeId}{sz k:Nat}{cs:List SV}{s:SV}{Hs:LH}(h:Own T sz k cs s Hs) (hk:0<k) :
  ∃b c,k≤c∧c≤maxLen∧s=lit (.slice (some ⟨b,0,none⟩) k c)∧Hs=[(b,T,cs++List.replicate (c*sz-k*sz) top)]:=by
 obtain⟨_,⟨h0,_⟩|h⟩:=h
 ·omega
 ·exact h
theorem LeL.app:∀{a b c d:List SV},LeL a b→LeL c d→LeL (a++c) (b++d)
 | [],[],_,_,_,k=>k
 |_::_,_::_,_,_,h,k=>⟨h.1,LeL.app h.2 k⟩
 | [],_::_,_,_,h,_=>h.elim
 |_::_,[],_,_,h,_=>h.elim
end
section
variable {P:Program}{C:Ctx}{n:Nat}{F:Fr}{H:LH}{ops:Array Oper}{K:Fr→LH→Prop}{rest:List Oper}{ty:TypeId}{pos:String}{aft:Array Edge}
theorem AF {T e:TypeId}{sz by_:Nat}{z:List SV}{g:Bool} [hS:TSl P T e] [hT:TY P e sz by_ z g]{x y:Operand}{ao:Option Addr}{k c:Nat}(hx:ev F x=lit (.slice ao k c)) (hy:ev F y=sl [] 0) (hkc:k≤c) :
  OpV P (.call ⟨.builtin .append,#[x,y],#[T,T]⟩) ty F H (lit (.slice ao k c)) :=
 OpV.pure fun m w o a ho _ _ _ h=>by
  have e0:=h x (by simp [Op.operands,Call.operands]);rw [hx,aq]at e0;have e1:=h y (by simp [Op.operands,Call.operands]);rw [hy]at e1;obtain⟨ad2,c2,e1,hc1,hc2,hcb⟩:=cE e1;obtain⟨i,v,hi,hsz,hbyt,hz,hzl,hfl,hvs⟩:=hT.run_bytes
  have hs:Src P i.size T (.slice ad2 0 c2) 0 [] w:=by
   cases ad2 with
   |none=>exact Src.ofNil w hS.h c2
   |some a2=>exact Src.ofSlice w hS.h a2 0 c2 [] (by simp) (by intro j u hj;simp at hj) (by intro u hu;cases hu)
  have hrun:=run_append_nothing (P:=P) w T T o.type e i hS.h hi ao k c hkc _ hs;refine⟨.slice ao k c,?_,aq.2 rfl⟩;rw [←e1]at hrun;simp [execOp,ho,resolve,invoke,builtin,e0,hrun]
theorem WPL.appOwnK {T e:TypeId}{sz by_:Nat}{z:List SV}{g:Bool} [hS:TSl P T e] [hT:TY P e sz by_ z g]{d:Nat}{x y:Operand}{n0 k0:Nat}{cs ds:List SV}{s:SV}{Hs Rs:LH}
  (hown:Own e sz n0 cs s Hs) (hx:ev F x=s) (hy:ev F y=sl ds k0) (hsp:Spl H Hs Rs) (hds:ds.length=k0*sz) (hpos:0<k0*sz) (hl:n0+k0≤1000000000) (hby:by_≤10000)
  (k:∀s' H',Own e sz (n0+k0) (cs++ds) s' H'→WPL P C n ops rest K (upd F d s') (H'++Rs)) (hd:Nat.blt d n=true) :
  WPL P C n ops (⟨some d, .call ⟨.builtin .append,#[x,y],#[T,T]⟩,ty,pos,aft,none⟩::rest) K F H:=by
 unfold WPL;intro a w hs0 Q hq;have hs:=hs0.perm hsp.perm;have hk0:0<k0:=Nat.pos_of_ne_zero fun e=>by rw [e,Nat.zero_mul]at hpos;omega
 refine wpList_plain rfl fun K' hK'=>?_
 obtain⟨hdef,hn,m0,h10,h20,h30,h40,h50⟩:=id hs
 have hp0:∀x,(ev F x).p m0 (a.eval x):=fun x=>by
  cases x with
  |tmp t=>exact h50 t
  |const v=>unfold ev lit;rfl
  |global g=>unfold ev lit;rfl
  |func f=>unfold ev lit;rfl
 have e0:=hp0 x;rw [hx]at e0;have e1:=hp0 y;rw [hy]at e1;obtain⟨ad2,c2,e1,hc1,hc2,hcb⟩:=cE e1;obtain⟨b2,off2,rfl,arr2,T2,fz2,hbm2,hall2⟩:=hcb.resolve_left (fun h=>by rw [h]at hds;simp only [List.length_nil]at hds;omega);have hb2:=h10 _ _ hbm2;rw [hds]at hall2;generalize hl2:(arr2.toList.drop off2).take (k0*sz)=l2 at hall2;obtain⟨i,v,hi,hsz,hbyt,hz,hzl,hfl,hvs⟩:=hT.run_bytes;have hlen2:=hall2.length
 have hys:∀j u,l2[j]? = some u→w.cell? ((⟨b2,off2,none⟩:Addr).add j)=some u:=fun j u hj=>by
  rw [aO,cu w b2 _ arr2 _ _ hb2];rw [←hl2,List.getElem?_take]at hj;split at hj
  ·rw [List.getElem?_drop]at hj;simpa using hj
  ·cases hj
 have hexec:execOp a.eval (⟨some d, .call ⟨.builtin .append,#[x,y],#[T,T]⟩,ty,pos,aft,none⟩:Oper)=(do let v←Builtin.append_ #[T,T] ty #[a.eval x,a.eval y];pure (.value v)):=by
  simp [execOp,resolve,invoke,builtin]
 have hmul:∀q,q≤1000000001→q*by_≤140737488355328:=fun q hq=>Nat.le_trans (Nat.mul_le_mul hq hby) (by decide)
 have get2:∀m,aU m w→(ev F y).p m (a.eval y)→az m ds l2:=fun m h1 h2=>by
  rw [hy,e1]at h2;obtain⟨ad3,c3,e3,_,_,hcb3⟩:=cE h2;obtain⟨b3,off3,rfl,arr3,T3,fz3,hbm3,hall3⟩:=hcb3.resolve_left (fun h=>by rw [h]at hds;simp only [List.length_nil]at hds;omega);have hb3:=h1 _ _ hbm3;simp only [Value.slice.injEq,Option.some.injEq,Addr.mk.injEq,and_true,true_and]at e3;obtain⟨⟨rfl,rfl⟩,_⟩:=e3;rw [hb2]at hb3;simp only [Option.some.injEq,Obj.cells.injEq]at hb3;obtain⟨rfl,_⟩:=hb3;rw [hds,hl2]at hall3;exact hall3
 unfold Oper.wp;rw [hexec,e1];obtain⟨hcl,hcase⟩:=hown;rcases hcase with⟨rfl,rfl,rfl⟩|⟨b,c,hnc,hcm,rfl,rfl⟩
 ·rw [aq]at e0;have hcs:cs=[]:=List.eq_nil_of_length_eq_zero (by rw [hcl,Nat.zero_mul]);subst hcs;have hrun:=run_append_nil (P:=P) w T ty e i v hS.h hi hz ⟨b2,off2,none⟩ k0 c2 l2 (by rw [hlen2,hsz,hds]) hys hk0 om (by rw [hbyt];have:=hmul k0 om;omega);rw [e0];simp only [Sem.run_bind,hrun,Result.andThen_ok,Sem.run_pure];have hge:=grownCap_ge w k0 0 e;have hle:=grownCap_le_maxLen w k0 0 e (by simp only [maxLen];omega);have h:=k (lit (.slice (some ⟨w.heap.size,0,none⟩) k0 (grownCap w k0 0 e))) [(w.heap.size,e,([]++ds)++List.replicate (grownCap w k0 0 e*sz-k0*sz) top)] ⟨by rw [List.nil_append,hds,Nat.zero_add], .inr ⟨w.heap.size,grownCap w k0 0 e,om,hle,by rw [Nat.zero_add],by rw [Nat.zero_add]⟩⟩;unfold WPL at h;refine hK' _ _ (h _ _ (St.pushD (Nat.blt_eq.mp hd) hs fun m h1 h2 h3=>?_) Q hq);simp only [Array.toList_append,List.toList_toArray,List.nil_append];refine(get2 m h1 (h3 y)).append (az.topL ?_ (dE hfl));rw [Array.length_toList,size_zeroCells,hvs,Nat.sub_mul]
 ·rw [aq]at e0;obtain⟨hmb,arr,hb,hall⟩:=h20.2 _ (List.mem_append_left Rs (List.mem_singleton.2 rfl));have hlen:=hall.length;simp only [List.length_append,List.length_replicate,hcl,Array.length_toList]at hlen;have hmono:n0*sz≤c*sz:=Nat.mul_le_mul_right _ hnc
  have getc:∀m,HOk m w ([(b,e,cs++List.replicate (c*sz-n0*sz) top)]++Rs)→az m (cs++List.replicate (c*sz-n0*sz) top) arr.toList:=fun m h2=>by
   obtain⟨_,arr',hb',hall'⟩:=h2.2 _ (List.mem_append_left Rs (List.mem_singleton.2 rfl));rw [hb]at hb';simp only [Option.some.injEq,Obj.cells.injEq]at hb';obtain⟨rfl,_⟩:=hb';exact hall'
  by_cases hroom:n0+k0≤c
  ·have hm1:(n0+k0)*sz≤c*sz:=Nat.mul_le_mul_right _ hroom;rw [Nat.add_mul]at hm1;have hrun:=run_append_room (P:=P) w T ty e i hS.h hi b n0 c arr hb ⟨b2,off2,none⟩ k0 c2 l2 (by rw [hlen2,hsz,hds]) hys hall2.flat hroom (by rw [hsz,hlen2,hds];omega);rw [e0];simp only [Sem.run_bind,hrun,Result.andThen_ok,Sem.run_pure];have h:=k (lit (.slice (some ⟨b,0,none⟩) (n0+k0) c)) [(b,e,(cs++ds)++List.replicate (c*sz-(n0+k0)*sz) top)] ⟨by rw [List.length_append,hcl,hds,Nat.add_mul], .inr ⟨_,_,hroom,hcm,rfl,rfl⟩⟩;unfold WPL at h
   have hfin:az m0 ((cs++ds)++List.replicate (c*sz-(n0+k0)*sz) top) (arr.toList.take (n0*i.size)++l2++arr.toList.drop (n0*i.size+l2.length)).toArray.toList:=by
    obtain⟨q1,q2⟩:=(getc m0 h20).split;rw [hcl]at q1 q2;rw [hsz,hlen2,hds,List.toList_toArray];refine(q1.append (get2 m0 h10 (hp0 y))).append (az.topL ?_ fun u hu=>?_)
    ·rw [List.length_drop,Array.length_toList,Nat.add_mul];omega
    ·exact hall.flat u (List.mem_of_mem_drop hu)
   obtain⟨q1,q2,q3,q4⟩:=ik (w':=w.setRow b (arr.toList.take (n0*i.size)++l2++arr.toList.drop (n0*i.size+l2.length)).toArray) h10 h20 h30 h40 (.here Rs)
    (setRow_heap w b arr _ e _ hb) (fun j hj=>setRow_other w b j _ hj) rfl rfl ⟨rfl,rfl⟩ (by simp) hfin
   refine hK' _ _ (h (a.put (some d) (.slice (some ⟨b,0,none⟩) (n0+k0) c)) _ ⟨hdef,by simpa [Act.put] using hn,m0,q1,q2,q3,q4,fun t=>?_⟩ Q hq);rw [dw (Nat.lt_of_lt_of_le (Nat.blt_eq.mp hd) hn)];unfold Ab.upd;by_cases ht:t=d
   ·subst ht;rw [if_pos rfl,Nat.beq_refl];exact aq.2 rfl
   ·rw [if_neg ht]
    have:Nat.beq t d=false:=by
     cases hbb:Nat.beq t d with
     |false=>rfl
     |true=>exact absurd (Nat.eq_of_beq_eq_true hbb) ht
    rw [this];exact h50 t
  ·have hxs:∀j u,(arr.toList.take (n0*sz))[j]? = some u→w.cell? ((⟨b,0,none⟩:Addr).add j)=some u:=fun j u hj=>by
    rw [aO,cu w b _ arr _ _ hb];rw [List.getElem?_take]at hj;split at hj
    ·simpa using hj
    ·cases hj
   have hrun:=run_append_grow (P:=P) w T ty e i v hS.h hi hz ⟨b,0,none⟩ n0 c (arr.toList.take (n0*sz)) (by rw [List.length_take,Array.length_toList,hsz];omega) hxs
    ⟨b2,off2,none⟩ k0 c2 l2 (by rw [hlen2,hsz,hds]) hys om om (growslice_fits om (by rw [hbyt];exact hmul _ om))
   rw [e0];simp only [Sem.run_bind,hrun,Result.andThen_ok,Sem.run_pure];have hge:=grownCap_ge w (n0+k0) c e;have hle:=grownCap_le_maxLen w (n0+k0) c e (by simp only [maxLen];omega)
   have h:=k (lit (.slice (some ⟨w.heap.size,0,none⟩) (n0+k0) (grownCap w (n0+k0) c e))) [(w.heap.size,e,(cs++ds)++List.replicate (grownCap w (n0+k0) c e*sz-(n0+k0)*sz) top)]
    ⟨by rw [List.length_append,hcl,hds,Nat.add_mul], .inr ⟨_,_,hge,hle,rfl,rfl⟩⟩
   unfold WPL at h
   have hst:=St.pushD (d:=d) (cs:=(cs++ds)++List.replicate (grownCap w (n0+k0) c e*sz-(n0+k0)*sz) top) (v := .slice (some ⟨w.heap.size,0,none⟩) (n0+k0) (grownCap w (n0+k0) c e)) (T:=e)
    (arr:=(arr.toList.take (n0*sz)).toArray++l2.toArray++Builtin.zeroCells v.cells (grownCap w (n0+k0) c e-(n0+k0))) (Nat.blt_eq.mp hd) hs fun m h1 h2 h3=>?_
   ·refine hK' _ _ (h _ _ ?_ Q hq);exact hst.drop (.there _ (.here _))
   ·simp only [Array.toList_append,List.toList_toArray];obtain⟨q1,_⟩:=(getc m h2).split;rw [hcl]at q1;refine(q1.append (get2 m h1 (h3 y))).append (az.topL ?_ (dE hfl));rw [Array.length_toList,size_zeroCells,hvs,Nat.sub_mul]
end
end Go.Ab
