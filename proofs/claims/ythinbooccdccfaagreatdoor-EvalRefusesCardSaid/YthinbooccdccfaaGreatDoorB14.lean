/- Texts laid one behind the other: Mix, StkA, RowB, RowC. -/
import Derived.Test.YthinbooccdccfaaGreatDoorLate
import Derived.Test.YthinbooccdccfaaGreatDoorB11
import Derived.Test.YthinbooccdccfaaGreatDoorB04
set_option linter.unusedSectionVars false
set_option linter.unusedVariables false
set_option linter.unusedSimpArgs false
namespace Go.Ab
open Go.Proofs
variable [Base]
section
variable {P:Program}{C:Ctx}{n:Nat}{F F' F0 Fe:Fr}{H:LH}{ops:Array Oper}{Q:Exit→Fr→LH→Prop}{rs:List Nat}{Hc:LH}{E:Nat→LH}
def befB (ops:Array Oper) (k t:Nat):Bool:=(List.range k).any fun j=>dstAt ops j==some t
def lisB (ops:Array Oper) (listed:Array Bool) (t:Nat):Bool:=(List.range ops.size).any fun j=>listed.getD j false&&dstAt ops j==some t
def mixF (B:Nat→Bool) (Fe F0:Fr):Fr:=fun t=>bif B t then Fe t else F0 t
def mixOk (ops:Array Oper) (rs:List Nat):Bool :=
 ((List.range ops.size).all fun i=>backAt ops i) &&
 ((List.range ops.size).all fun i=>(List.range i).all fun j=>(dstAt ops j).isNone || !(dstAt ops i==dstAt ops j)) &&
 ((List.range ops.size).all fun i=>(List.range ops.size).all fun j=>match dstAt ops j with
  |some d => !looksAtB ops i d||(bif Nat.blt j i then edgeT ops i j else(Nat.beq i j||edgeT ops j i))
  |none=>true) &&
 ((List.range rs.length).all fun t=>Nat.blt (rs.getD t 0) ops.size&&(List.range t).all fun u=>edgeT ops (rs.getD t 0) (rs.getD u 0)&&Nat.blt (rs.getD u 0) (rs.getD t 0))
inductive Mx (P:Program) (C:Ctx) (n:Nat) (ops:Array Oper) (rs:List Nat) (Hc:LH) (E:Nat→LH):Nat→Nat→List Oper→Fr→Fr→Prop
 |nil {i s:Nat}(F:Fr):Mx P C n ops rs Hc E i s [] F F
 |free {i s d:Nat}{o:Oper}{sv:SV}{r:List Oper}{F F':Fr}(hr:rs.contains i=false) (hd:o.dst=some d) (hdn:Nat.blt d n=true) (hds:DS P ops n Hc o F sv) (h:Mx P C n ops rs Hc E (i+1) s r (upd F d sv) F'):Mx P C n ops rs Hc E i s (o::r) F F'
 |row {i s:Nat}{o:Oper}{sv:SV}{r:List Oper}{F F':Fr}(hr:rs[s]? = some i) (hts:TS P C n ops i o F (E s++Hc) sv (E (s+1)++Hc)) (h:Mx P C n ops rs Hc E (i+1) (s+1) r (dstf o F sv) F'):Mx P C n ops rs Hc E i s (o::r) F F'
def Vld (P:Program) (C:Ctx) (n:Nat) (ops:Array Oper) (rs:List Nat) (Hc:LH) (E:Nat→LH) (F0 Fe:Fr) (k:Nat):Prop:=∃o,ops[k]? = some o∧∃Fk:Fr,(∀t,Fk t=mixF (befB ops k) Fe F0 t)∧
  ((rs.contains k=false∧∃d,o.dst=some d∧Nat.blt d n=true∧DS P ops n Hc o Fk (Fe d))∨
   ∃s sv,rs[s]? = some k∧(∀d,o.dst=some d→sv=Fe d)∧TS P C n ops k o Fk (E s++Hc) sv (E (s+1)++Hc))
theorem Mx.keep {i s:Nat}{l:List Oper}(h:Mx P C n ops rs Hc E i s l F F'):∀t,(∀o∈l,o.dst≠some t)→F' t=F t:=by
 induction h with
 |nil=>intro t _;rfl
 |free _ hd _ _ _ ih =>
  intro t ht
  rw [ih t fun o ho=>ht o (by simp [ho])]
  exact upd_ne fun e=>ht _ List.mem_cons_self (by rw [hd,e])
 | @row i s o sv r F F' _ _ _ ih =>
  intro t ht
  rw [ih t fun o ho=>ht o (by simp [ho])]
  unfold dstf
  cases hd:o.dst with
  |none=>rfl
  |some d=>exact upd_ne fun e=>ht o (by simp) (by rw [hd,e])
theorem befB_succ (k t:Nat):befB ops (k+1) t=(befB ops k t||dstAt ops k==some t):=by
 unfold befB;rw [List.range_succ,List.any_append];simp
theorem mixOk_spec (h:mixOk ops rs=true):(∀i,i<ops.size→backAt ops i=true)∧(∀i j d,i<ops.size→j<i→dstAt ops j=some d→dstAt ops i≠some d)∧
  (∀i j d,i<ops.size→j<ops.size→dstAt ops j=some d→looksAtB ops i d=true→(j<i→edgeT ops i j=true)∧(i<j→edgeT ops j i=true))∧
  ∀(t k:Nat),rs[t]? = some k→k<ops.size∧∀(u:Nat) (k':Nat),u<t→rs[u]? = some k'→edgeT ops k k'=true∧k'<k:=by
 simp only [mixOk,Bool.and_eq_true,List.all_eq_true,List.mem_range,Bool.or_eq_true,Nat.blt_eq]at h
 obtain⟨⟨⟨h1,h2⟩,h3⟩,h4⟩:=h
 refine⟨h1,fun i j d hi hj hd he=>?_,fun i j d hi hj hd hl=>?_,fun t k hk=>?_⟩
 ·rcases h2 i hi j hj with h|h
  ·rw [hd]at h;cases h
  ·rw [hd,he]at h;simp at h
 ·have:=h3 i hi j hj
  rw [hd]at this
  simp only [hl,Bool.not_true,Bool.false_or]at this
  refine⟨fun hji=>?_,fun hij=>?_⟩
  ·rw [show Nat.blt j i=true from by simpa using hji]at this
   exact this
  ·rw [show Nat.blt j i=false from by
    cases hb:Nat.blt j i with
    |false=>rfl
    |true=>have:=Nat.blt_eq.mp hb;omega]at this
   simp only [cond_false,Bool.or_eq_true]at this
   rcases this with h|h
   ·have:=Nat.eq_of_beq_eq_true h;omega
   ·exact h
 ·have ht:=(List.getElem?_eq_some_iff.1 hk).1
  have gk:rs.getD t 0=k:=by simp [List.getD,hk]
  obtain⟨g1,g2⟩:=h4 t ht
  rw [gk]at g1 g2
  refine⟨g1,fun u k' hu hk'=>?_⟩
  have gk':rs.getD u 0=k':=by simp [List.getD,hk']
  have:=g2 u hu
  rw [gk']at this
  exact this
theorem dstAt_of {i:Nat}{o:Oper}(h:ops[i]? = some o):dstAt ops i=o.dst:=by unfold dstAt;rw [h]
theorem Mx.vld (hchk:mixOk ops rs=true){i s:Nat}{l:List Oper}(h:Mx P C n ops rs Hc E i s l F Fe):l=ops.toList.drop i→(∀t,F t=mixF (befB ops i) Fe F0 t)→∀k,i≤k→k<ops.size→Vld P C n ops rs Hc E F0 Fe k:=by
 obtain⟨_,hdis,_,_⟩:=mixOk_spec hchk
 induction h with
 |nil =>
  intro hl _ k hik hk
  have:=congrArg List.length hl
  simp at this
  omega
 | @free i s d o sv r F F' hr hd hdn hds h ih =>
  intro hl hF k hik hk
  have ho:ops[i]? = some o:=by
   have:=congrArg (·[0]?) hl
   simpa using this.symm
  have hr':r=ops.toList.drop (i+1):=by
   have:=congrArg List.tail hl
   simpa using this
  have hsv:F' d=sv:=by
   rw [h.keep d fun o' ho'=>?_]
   ·exact upd_eq
   ·rw [hr']at ho'
    obtain⟨j,hj,rfl⟩:=List.mem_iff_getElem.1 ho'
    simp only [List.length_drop,Array.length_toList]at hj
    simp only [List.getElem_drop,Array.getElem_toList]
    have:=hdis (i+1+j) i d (by omega) (by omega) (by rw [dstAt_of ho,hd])
    rwa [dstAt_of (o:=ops[i+1+j]) (by simp)]at this
  rcases Nat.lt_or_ge i k with hlt|hge
  ·refine ih hr' (fun t=>?_) k (by omega) hk
   unfold mixF
   rw [befB_succ,dstAt_of ho,hd]
   by_cases ht:t=d
   ·subst ht;rw [upd_eq,hsv];simp
   ·rw [upd_ne ht,hF t]
    unfold mixF
    have:(some d==some t)=false:=by simpa using fun e=>ht e.symm
    rw [this,Bool.or_false]
  ·obtain rfl:k=i:=by omega
   exact⟨o,ho,F,hF, .inl ⟨hr,d,hd,hdn,hsv▸hds⟩⟩
 | @row i s o sv r F F' hr hts h ih =>
  intro hl hF k hik hk
  have ho:ops[i]? = some o:=by
   have:=congrArg (·[0]?) hl
   simpa using this.symm
  have hr':r=ops.toList.drop (i+1):=by
   have:=congrArg List.tail hl
   simpa using this
  have hsv:∀d,o.dst=some d→F' d=sv:=fun d hd=>by
   rw [h.keep d fun o' ho'=>?_]
   ·unfold dstf;rw [hd];exact upd_eq
   ·rw [hr']at ho'
    obtain⟨j,hj,rfl⟩:=List.mem_iff_getElem.1 ho'
    simp only [List.length_drop,Array.length_toList]at hj
    simp only [List.getElem_drop,Array.getElem_toList]
    have:=hdis (i+1+j) i d (by omega) (by omega) (by rw [dstAt_of ho,hd])
    rwa [dstAt_of (o:=ops[i+1+j]) (by simp)]at this
  rcases Nat.lt_or_ge i k with hlt|hge
  ·refine ih hr' (fun t=>?_) k (by omega) hk
   unfold mixF dstf
   rw [befB_succ,dstAt_of ho]
   cases hd:o.dst with
   |none =>
    simp only
    rw [hF t]
    unfold mixF
    simp
   |some d =>
    by_cases ht:t=d
    ·subst ht;simp only [upd_eq];rw [hsv _ hd];simp
    ·simp only [upd_ne ht]
     rw [hF t]
     unfold mixF
     have:(some d==some t)=false:=by simpa using fun e=>ht e.symm
     rw [this,Bool.or_false]
  ·obtain rfl:k=i:=by omega
   exact⟨o,ho,F,hF, .inr ⟨s,sv,hr,fun d hd=>(hsv d hd).symm,hts⟩⟩
theorem lisB_set {listed:Array Bool}{i t:Nat}{o:Oper}(hs:listed.size=ops.size) (ho:ops[i]? = some o):lisB ops (listed.setIfInBounds i true) t=(lisB ops listed t||o.dst==some t):=by
 have hio:=(Array.getElem?_eq_some_iff.1 ho).1
 have key:∀j,j<ops.size→((listed.setIfInBounds i true).getD j false=(listed.getD j false||Nat.beq j i)):=fun j hj=>by
  by_cases hji:i=j
  ·subst hji;simp [hs,hio]
  ·rw [getD_set_ne false hji]
   have:Nat.beq j i=false:=by
    cases hb:Nat.beq j i with
    |false=>rfl
    |true=>exact absurd (Nat.eq_of_beq_eq_true hb).symm hji
   rw [this,Bool.or_false]
 rw [Bool.eq_iff_iff]
 unfold lisB
 simp only [List.any_eq_true,List.mem_range,Bool.and_eq_true,Bool.or_eq_true]
 constructor
 ·rintro ⟨j,hj,h1,h2⟩
  rw [key j hj,Bool.or_eq_true]at h1
  rcases h1 with h1|h1
  ·exact .inl ⟨j,hj,h1,h2⟩
  ·have:=Nat.eq_of_beq_eq_true h1
   subst this
   rw [dstAt_of ho]at h2
   exact .inr h2
 ·rintro (⟨j,hj,h1,h2⟩|h2)
  ·exact⟨j,hj,by rw [key j hj,h1];rfl,h2⟩
  ·exact⟨i,hio,by rw [key i hio,Nat.beq_refl];simp,by rw [dstAt_of ho];exact h2⟩
theorem edgeT_on {i j:Nat}{listed:Array Bool}(hcl:Closed ops listed) (hi:listed.getD i false=true) (he:edgeT ops i j=true):listed.getD j false=true:=by
 have on:∀(k S:Nat),(∀j,S.testBit j=true→listed.getD j false=true)→∀j,(clos ops k S).testBit j=true→listed.getD j false=true:=by
  intro k
  induction k with
  |zero=>intro S hS j h;exact hS j h
  |succ k ih =>
   intro S hS j h
   unfold clos at h
   refine ih _ (fun j h=>?_) j h
   cases hb:S.testBit k with
   |false=>rw [hb]at h;exact hS j h
   |true =>
    rw [hb]at h
    simp only [cond_true,Nat.testBit_or,Bool.or_eq_true]at h
    rcases h with h|h
    ·exact hS j h
    ·exact hcl k j (hS k hb) (dmask_edge h)
 exact on i _ (fun j h=>hcl i j hi (dmask_edge h)) j he
theorem mixRun {Q':Exit→Act→World→Prop}(hchk:mixOk ops rs=true) (hv:∀k,k<ops.size→Vld P C n ops rs Hc E F0 Fe k) (hF0:∀t,befB ops ops.size t=false→Fe t=F0 t)
  (fin:∀a w,St C n Fe (E rs.length++Hc) a w→Q' .normal a w) :
  ∀(fuel s:Nat) (listed:Array Bool) (a:Act) (w:World),s≤rs.length→(left ops ops.size listed).length≤fuel→listed.size=ops.size→Closed ops listed→
   (∀(u:Nat) (k:Nat),rs[u]? = some k→(listed.getD k true=true↔u<s))→St C n (mixF (lisB ops listed) Fe F0) (E s++Hc) a w→wpAny P .any ops Q' fuel listed a w:=by
 obtain⟨hback,hdis,hlook,hrow⟩:=mixOk_spec hchk
 have done:∀(s:Nat) (listed:Array Bool) (a:Act) (w:World),s≤rs.length→left ops ops.size listed=[]→listed.size=ops.size→
   (∀(u:Nat) (k:Nat),rs[u]? = some k→(listed.getD k true=true↔u<s))→St C n (mixF (lisB ops listed) Fe F0) (E s++Hc) a w→Q' .normal a w:=by
  intro s listed a w hsr hnil hs hr hst
  have all:∀j,j<ops.size→listed.getD j true=true:=fun j hj=>by
   cases hb:listed.getD j true with
   |true=>rfl
   |false =>
    have:(j,ops[j])∈left ops ops.size listed:=mem_left.2 ⟨hj,by simp,hb⟩
    rw [hnil]at this;cases this
  have hs':s=rs.length:=by
   rcases Nat.lt_or_ge s rs.length with h|h
   ·exfalso
    have h1:rs[s]? = some rs[s]:=by simp [h]
    have h2:=(hrow s _ h1).1
    have:=(hr s _ h1).1 (all _ h2)
    omega
   ·omega
  subst hs'
  refine fin a w (hst.le fun t=>Le.of_eq ?_)
  unfold mixF
  have hb:lisB ops listed t=befB ops ops.size t:=by
   rw [Bool.eq_iff_iff]
   unfold lisB befB
   simp only [List.any_eq_true,List.mem_range,Bool.and_eq_true]
   constructor
   ·rintro ⟨j,h1,_,h3⟩;exact⟨j,h1,h3⟩
   ·rintro ⟨j,h1,h3⟩
    refine⟨j,h1,?_,h3⟩
    have:=all j h1
    have hsz:j<listed.size:=by omega
    simp [hsz]at this⊢;exact this
  rw [hb]
  cases h:befB ops ops.size t with
  |true=>rfl
  |false=>exact(hF0 t h).symm
 have noready:∀(listed:Array Bool),listed.size=ops.size→Region.ready .any ops listed=[]→left ops ops.size listed=[]:=fun listed hs hr=>by
  cases hl:left ops ops.size listed with
  |nil=>rfl
  |cons x l' =>
   exfalso
   obtain⟨i,o⟩:=x
   have hmem:(i,o)∈left ops ops.size listed:=by rw [hl];simp
   obtain⟨h1,h2,h3⟩:=mem_left.1 hmem
   simp only at h1 h2 h3
   have hready:i∈Region.ready .any ops listed:=by
    rw [mem_ready]
    refine⟨h3,o,h2,fun e he hb=>?_⟩
    have hlt:=back_spec (hback i h1) h2 e he hb
    cases hle:listed.getD e.on false with
    |true=>rfl
    |false =>
     have hsz:e.on<listed.size:=by omega
     have h4:listed.getD e.on true=false:=by simp [hsz]at hle⊢;exact hle
     have hm2:(e.on,ops[e.on]'(by omega))∈left ops ops.size listed:=mem_left.2 ⟨by simp only;omega,by simp,h4⟩
     have hsort:=left_sorted (ops:=ops) ops.size listed
     rw [hl]at hsort hm2
     rcases List.mem_cons.1 hm2 with h|h
     ·simp only [Prod.mk.injEq]at h;omega
     ·have:=(List.pairwise_cons.1 hsort).1 _ h;simp at this;omega
   rw [hr]at hready;cases hready
 intro fuel
 induction fuel with
 |zero =>
  intro s listed a w hsr hfu hs hcl hr hst
  have hnil:=List.eq_nil_of_length_eq_zero (Nat.le_zero.1 hfu)
  refine⟨?_,done s listed a w hsr hnil hs hr hst⟩
  cases hrd:Region.ready .any ops listed with
  |nil=>rfl
  |cons i l =>
   exfalso
   have hi:i∈Region.ready .any ops listed:=by rw [hrd];simp
   obtain⟨hun,o,ho,_⟩:=mem_ready.1 hi
   have:(i,o)∈left ops ops.size listed:=mem_left.2 ⟨(Array.getElem?_eq_some_iff.1 ho).1,ho,hun⟩
   rw [hnil]at this;cases this
 |succ fuel ih =>
  intro s listed a w hsr hfu hs hcl hr hst
  refine⟨fun hrd=>done s listed a w hsr (noready listed hs hrd) hs hr hst,fun i hi=>?_⟩
  obtain⟨hun,o,ho,_⟩:=mem_ready.1 hi
  have hio:=(Array.getElem?_eq_some_iff.1 ho).1
  have hmem:(i,o)∈left ops ops.size listed:=mem_left.2 ⟨hio,ho,hun⟩
  obtain⟨l1,l2,hl12⟩:=List.append_of_mem hmem
  have hset:=left_set hs hio hl12
  have hlen:(l1++l2).length+1=(left ops ops.size listed).length:=by rw [hl12];simp;omega
  obtain⟨o',ho',Fk,hFk,hcase⟩:=hv i hio
  rw [ho]at ho'
  obtain rfl:=Option.some.inj ho'
  have hlooks:∀t∈o.looksAt ops,Fk t=mixF (lisB ops listed) Fe F0 t:=fun t ht=>by
   rw [hFk t]
   unfold mixF
   have hlk:looksAtB ops i t=true:=by unfold looksAtB;rw [ho];simpa using ht
   have:befB ops i t=lisB ops listed t:=by
    rw [Bool.eq_iff_iff]
    unfold lisB befB
    simp only [List.any_eq_true,List.mem_range,Bool.and_eq_true]
    constructor
    ·rintro ⟨j,h1,h2⟩
     have h2':dstAt ops j=some t:=by simpa using h2
     exact⟨j,by omega,edgeT_listed hcl hi ((hlook i j t hio (by omega) h2' hlk).1 h1),h2⟩
    ·rintro ⟨j,h1,h2,h3⟩
     have h3':dstAt ops j=some t:=by simpa using h3
     refine⟨j,?_,h3⟩
     rcases Nat.lt_trichotomy j i with h|h|h
     ·exact h
     ·exfalso;subst h;rw [listed_false hs h1 h2]at hun;cases hun
     ·exfalso
      have he:=(hlook i j t hio h1 h3' hlk).2 h
      have:=listed_false hs hio (edgeT_on hcl h2 he)
      rw [this]at hun;cases hun
   rw [this]
  have hmix:∀d,o.dst=some d→upd (mixF (lisB ops listed) Fe F0) d (Fe d)=mixF (lisB ops (listed.setIfInBounds i true)) Fe F0:=fun d hd=>by
   funext t
   unfold mixF
   rw [lisB_set hs ho,hd]
   by_cases ht:t=d
   ·subst ht;rw [upd_eq];simp
   ·rw [upd_ne ht]
    have:(some d==some t)=false:=by simpa using fun e=>ht e.symm
    rw [this,Bool.or_false]
  have hmix0:o.dst=none→mixF (lisB ops listed) Fe F0=mixF (lisB ops (listed.setIfInBounds i true)) Fe F0:=fun hd=>by
   funext t
   unfold mixF
   rw [lisB_set hs ho,hd]
   simp
  rcases hcase with⟨hnr,d,hd,hdn,hds⟩|⟨u,sv,hu,hsv,hts⟩
  ·have hds':=hds.frame hlooks
   obtain⟨hdef,hn,m,h1,h2,h3,h4,h5⟩:=hst
   refine hds'.wp ho hd hn h1 h2.tail h5 fun v m' w' hv' hm' hH' r=>?_
   refine ih s _ _ _ hsr (by rw [hset];omega) (by simpa using hs) (hcl.step hi) (fun u k hk=>?_) ?_
   ·have hki:i≠k:=fun e=>by
     have:rs.contains i=true:=by rw [e];exact List.contains_iff_mem.2 (List.mem_of_getElem? hk)
     rw [hnr]at this;cases this
    rw [getD_set_ne true hki]
    exact hr u k hk
   ·rw [←hmix d hd]
    exact St.put (Nat.blt_eq.mp hdn) hdef hn h2 h3 h4 h5 hv' hm' (h2.beside hH' r) (r.mono fun b hb=>by unfold keys at *;rw [List.map_append];exact List.mem_append_right _ hb)
  ·have hus:u=s:=by
    rcases Nat.lt_trichotomy u s with h|h|h
    ·exfalso
     have:=(hr u i hu).2 h
     rw [hun]at this;cases this
    ·exact h
    ·exfalso
     have hul:=(List.getElem?_eq_some_iff.1 hu).1
     have h1:rs[s]? = some (rs[s]'(by omega)):=by simp
     have h2:=((hrow u i hu).2 s _ h h1).1
     have h3:=listed_false hs (hrow s _ h1).1 (edgeT_listed hcl hi h2)
     have:=(hr s _ h1).1 h3
     omega
   subst hus
   have hul:=(List.getElem?_eq_some_iff.1 hu).1
   refine hts _ hlooks a w hst Q' _ fun a' w' hst'=>?_
   refine ih (u+1) _ _ _ hul (by rw [hset];omega) (by simpa using hs) (hcl.step hi) (fun x k hk=>?_) ?_
   ·by_cases hki:i=k
    ·subst hki
     have hx:x=u:=by
      rcases Nat.lt_trichotomy x u with h|h|h
      ·have:=((hrow u i hu).2 x _ h hk).2;omega
      ·exact h
      ·have:=((hrow x i hk).2 u _ h hu).2;omega
     subst hx
     simp [hs,hio]
    ·rw [getD_set_ne true hki,hr x k hk]
     constructor
     ·intro h;omega
     ·intro h
      rcases Nat.lt_or_ge x u with h'|h'
      ·exact h'
      ·exfalso
       have:x=u:=by omega
       subst this
       rw [hu]at hk
       exact hki (Option.some.inj hk)
   ·unfold dstf at hst'
    cases hd:o.dst with
    |none=>rw [hd]at hst';rw [←hmix0 hd];exact hst'
    |some d =>
     rw [hd]at hst'
     simp only at hst'
     rw [hsv d hd]at hst'
     rw [←hmix d hd];exact hst'
attribute [local semireducible] WP WPL Dk PuH
def Mk (P:Program) (C:Ctx) (n:Nat) (ops:Array Oper) (rs:List Nat) (Hc:LH) (E:Nat→LH) (i s:Nat) (l:List Oper) (K:Fr→Prop) (F:Fr):Prop:=∃Fe,Mx P C n ops rs Hc E i s l F Fe∧K Fe
theorem WdM {id:Nat}{l:List Oper}(rs:List Nat) (Hc:LH) (E:Nat→LH) (h:Mk P C n l.toArray rs Hc E 0 0 l (fun Fe=>Q .normal Fe (E rs.length++Hc)) F) (h0:E 0++Hc=H:=by exact rfl) (hm:P.follows .mixedOrders=true:=by kernel_rfl) (hchk:mixOk l.toArray rs=true:=by decide +kernel) :
  WP P C n (.region id l.toArray true) Q F H:=by
 obtain⟨Fe,hx,hQ⟩:=h
 intro a w hs
 subst h0
 refine wp_region_any hm ?_
 refine mixRun (C:=C) (n:=n) (F0:=F) (Fe:=Fe) (rs:=rs) (Hc:=Hc) (E:=E) hchk (fun k hk=>hx.vld hchk (by simp) (fun t=>by simp [mixF,befB]) k (Nat.zero_le _) hk) (fun t ht=>hx.keep t fun o ho e=>?_) (fun a' w' hst => .mk hst hQ) l.toArray.size 0 _ a _ (Nat.zero_le _) ?_ (by simp) (fun m j hm=>by by_cases hlt:m<l.length <;> simp [hlt]at hm) (fun u k hk=>?_) ?_
 ·obtain⟨j,hj,rfl⟩:=List.mem_iff_getElem.1 ho
  have:befB l.toArray l.toArray.size t=true:=by
   unfold befB
   rw [List.any_eq_true]
   exact⟨j,by simpa using hj,by rw [dstAt_of (o:=l[j]) (by simp [hj]),e];simp⟩
  rw [ht]at this;cases this
 ·unfold left
  refine Nat.le_trans (List.length_filter_le _ _) ?_
  simp
 ·have hkl:=((mixOk_spec hchk).2.2.2 u k hk).1
  have hkl':k<l.length:=by simpa using hkl
  simp [hkl']
 ·obtain⟨hdef,hn,m,h1,h2,h3,h4,h5⟩:=hs
  refine⟨hdef,hn,m,⟨h1.at',h1.base⟩,⟨h2.1,h2.2⟩,⟨h3.le,h3.old,h3.os,h3.tape,h3.output,h3.size,h3.block⟩,h4,fun t=>?_⟩
  have:lisB l.toArray (Array.replicate l.toArray.size false) t=false:=by
   unfold lisB
   rw [List.any_eq_false]
   intro j hj
   have hj':j<l.length:=by simpa using hj
   simp [hj']
  unfold mixF
  rw [this]
  exact h5 t
section
variable {l:List Oper}{K:Fr→Prop}{i s:Nat}
theorem MkN (h:K F):Mk P C n ops rs Hc E i s [] K F:=⟨F, .nil F,h⟩
def freeB (rs:List Nat) (i k:Nat):Bool:=(List.range k).all fun j => !rs.contains (i+j)
def mkD (P:Program) (C:Ctx) (n:Nat) (ops:Array Oper) (rs:List Nat) (Hc:LH) (E:Nat→LH) (i s:Nat) (l:List Oper) (K:Fr→Prop):List NW→Fr→Prop:=fun N F=>N=[]∧Mk P C n ops rs Hc E i s l K F
theorem mkD0 (h:Mk P C n ops rs Hc E i s l K F):mkD P C n ops rs Hc E i s l K [] F:=⟨rfl,h⟩
theorem Dr.mx {s:Nat}{Fe:Fr}:∀(k:Nat) (l:List Oper) (i:Nat) (F F':Fr),freeB rs i k=true→k≤l.length→Dr P ops n Hc (preK i k l) [] F F'→Mx P C n ops rs Hc E (i+k) s (l.drop k) F' Fe→Mx P C n ops rs Hc E i s l F Fe
 |0,l,i,F,F',_,_,h,hx=>by
  cases h
  simpa using hx
 |k+1,[],i,F,F',_,hk,_,_=>by simp at hk
 |k+1,o::l,i,F,F',hf,hk,h,hx=>by
  have hfi:rs.contains i=false∧freeB rs (i+1) k=true:=by
   unfold freeB at hf⊢
   simp only [List.all_eq_true,List.mem_range,Bool.not_eq_true']at hf⊢
   refine⟨by simpa using hf 0 (by omega),fun j hj=>?_⟩
   have:=hf (j+1) (by omega)
   rwa [show i+(j+1)=i+1+j from by omega]at this
  unfold preK at h
  cases h with
  |val hd hds hdn h =>
   exact .free hfi.1 hd hdn hds (Dr.mx k l (i+1) _ _ hfi.2 (by simpa using hk) h (by rw [show i+1+k=i+(k+1)from by omega];simpa using hx))
theorem MkD (k:Nat) (h:Dk P ops n Hc (preK i k l) (mkD P C n ops rs Hc E (i+k) s (l.drop k) K) F) (hf:freeB rs i k=true:=by exact rfl) (hk:Nat.ble k l.length=true:=by exact rfl):Mk P C n ops rs Hc E i s l K F:=by
 obtain⟨N,F',h1,rfl,Fe,hx,hK⟩:=h
 exact⟨Fe,Dr.mx k l i F F' hf (Nat.le_of_ble_eq_true hk) h1 hx,hK⟩
theorem MkR {o:Oper}{sv:SV}(hts:TS P C n ops i o F (E s++Hc) sv (E (s+1)++Hc)) (h:Mk P C n ops rs Hc E (i+1) (s+1) l K (dstf o F sv)) (hr:rs[s]? = some i:=by exact rfl):Mk P C n ops rs Hc E i s (o::l) K F:=by
 obtain⟨Fe,hx,hK⟩:=h
 exact⟨Fe, .row hr hts hx,hK⟩
theorem wp_agree {o:Oper}{a:Act}{w:World}{K':Act→World→Prop}{Q1 Q2:Exit→Act→World→Prop}(h:o.wp P a w K' Q1) (hp:∀ch a w,Q1 (.panic ch) a w→Q2 (.panic ch) a w) (ho:∀a w,Q1 .outgrown a w→Q2 .outgrown a w):o.wp P a w K' Q2:=by
 unfold Oper.wp at *
 generalize(execOp a.eval o).run P w=r at *
 unfold Oper.upon at *
 split at h
 ·exact h
 ·exact h
 ·exact h
 ·refine Calls.mono h ?_
  intro e w'' he
  cases e with
  |returned v=>exact he
  |panicked ch=>exact hp _ _ _ he
  |outgrown=>obtain⟨a0,w0,h0⟩:=he;exact⟨a0,w0,ho _ _ h0⟩
 ·exact h
 ·exact hp _ _ _ h
 ·exact h.elim
theorem TS.call {i d:Nat}{f:FuncId}{la:List Operand}{tys:Array TypeId}{ty:TypeId}{pos:String}{aft:Array Edge}{svs:List SV}{Hin Hout Rs:LH}{res:SV}(hc:PuH P f svs Hin (fun r H=>r=res∧H=Hout) noX) (ha:la.map (ev F)=svs) (hd:Nat.blt d n=true) (ho:ops[i]? = some ⟨some d, .call ⟨.value (.func f),la.toArray,tys⟩,ty,pos,aft,none⟩) :
  TS P C n ops i ⟨some d, .call ⟨.value (.func f),la.toArray,tys⟩,ty,pos,aft,none⟩ F (Hin++Rs) res (Hout++Rs):=by
 intro F1 hF a w hst Q' K' hK
 have ha':la.map (ev F1)=svs:=by
  rw [←ha]
  refine List.map_congr_left fun x hx=>?_
  exact ev_looks (o:=⟨some d, .call ⟨.value (.func f),la.toArray,tys⟩,ty,pos,aft,none⟩) (x:=x) (by simp [Op.operands,Call.operands,hx]) hF
 have h:=WPL.callHG (P:=P) (C:={C with pan:=noX}) (n:=n) (F:=F1) (H:=Hin++Rs) (ops:=ops) (rest:=[]) (d:=d) (x := .func f) (s:=lit (.func (.func f) #[] #[])) (f:=f) (first:=[]) (caps:=[]) (l:=la) (tys:=tys) (ty:=ty) (pos:=pos) (aft:=aft) (g:=none)
  (K:=fun F' H'=>F'=upd F1 d res∧H'=Hout++Rs) rfl hc (Spl.app _ _) (by rw [List.nil_append,List.append_nil];exact ha') hd (fun _ _ _=>rfl)
  (fun r H' ⟨hr,hH'⟩=>WPL.nil ⟨by rw [hr],by rw [hH']⟩) (fun _ _ h=>h.elim)
 have h':=h a w hst (fun e a' w'=>match e with| .normal=>K' a' w'|e=>False) ⟨fun a' w' F' H' hst' hKK=>?_,fun ch a' w' hp=>?_⟩
 ·unfold wpOp
  rw [ho]
  unfold wpList at h'
  simp only [Region.wanted,if_true]at h'⊢
  left
  rcases h' with h'|⟨_,a0,w0,h0⟩
  ·exact wp_agree h' (fun _ _ _ h=>h.elim) (fun _ _ h=>h.elim)
  ·exact h0.elim
 ·obtain⟨rfl,rfl⟩:=hKK
  exact hK a' w' hst'
 ·obtain⟨_,_,_,_,_,_,_,_,_,_,_,hx⟩:=hp
  exact hx.elim
theorem MkC {d:Nat}{f:FuncId}{la:List Operand}{tys:Array TypeId}{ty:TypeId}{pos:String}{aft:Array Edge}{svs:List SV}{res:SV}(hc:PuH P f svs (E s) (fun r H=>r=res∧H=E (s+1)) noX) (h:Mk P C n ops rs Hc E (i+1) (s+1) l K (upd F d res))
  (ha:la.map (ev F)=svs:=by exact rfl) (ho:ops[i]? = some ⟨some d, .call ⟨.value (.func f),la.toArray,tys⟩,ty,pos,aft,none⟩:=by exact rfl) (hr:rs[s]? = some i:=by exact rfl) (hd:Nat.blt d n=true:=by exact rfl) :
  Mk P C n ops rs Hc E i s (⟨some d, .call ⟨.value (.func f),la.toArray,tys⟩,ty,pos,aft,none⟩::l) K F :=
 MkR (TS.call hc ha hd ho) h hr
end
end
@[irreducible] def xsl (cs:List SV) (k:Nat):SV:=⟨fun m v=>∃a,v = .slice a k k∧k≤maxLen∧(a=none→k=0)∧(cs=[]∨∃b off,a=some ⟨b,off,none⟩∧cellsAt m b off cs),
 fun h ⟨a,e,x,y,k⟩=>⟨a,e,x,y,k.imp id fun⟨b,off,e,k⟩=>⟨b,off,e,k.mono h⟩⟩⟩
section
variable {P:Program}{C:Ctx}{n:Nat}{F:Fr}{H:LH}{ty:TypeId}
theorem pub_new {m:Mem}{w w':World}{arr:Array Value}{e:TypeId}(h1:MemIn m w) (hw:w'=w.alloc (.cells arr e)∨w'=w.drew.alloc (.cells arr e)) :
  ∃m',MemIn m' w'∧Rel [] m w m' w'∧m' w.heap.size=some (.cells arr e (0,0)):=by
 have hnone:m w.heap.size=none:=by
  cases hmm:m w.heap.size with
  |none=>rfl
  |some o=>have:=h1 _ _ hmm;rw [Array.getElem?_eq_none (Nat.le_refl _)]at this;cases this
 have hsize:w'.heap.size=w.heap.size+1:=by rcases hw with rfl|rfl <;> exact World.size_alloc ..
 have hold:∀b,b<w.heap.size→w'.heap[b]? = w.heap[b]?:=by
  rcases hw with rfl|rfl
  ·exact fun b hb=>heap_alloc_old w _ b hb
  ·exact fun b hb=>heap_alloc_old w.drew _ b hb
 have hnew:w'.heap[w.heap.size]? = some (.cells arr e (0,0)):=by
  rcases hw with rfl|rfl
  ·exact heap_alloc_new w _
  ·exact heap_alloc_new w.drew _
 have hos:w'.os=w.os∧w'.tape=w.tape∧w'.output=w.output:=by rcases hw with rfl|rfl <;> exact⟨rfl,rfl,rfl⟩
 have hle:m.le fun b=>if b=w.heap.size then some (.cells arr e (0,0))else m b:=fun b o hb=>by
  have:b≠w.heap.size:=fun e=>by rw [e,hnone]at hb;cases hb
  simp only [if_neg this];exact hb
 refine⟨fun b=>if b=w.heap.size then some (.cells arr e (0,0))else m b,⟨fun b o hb=>?_,Mem.le_trans h1.base hle⟩,⟨hle,fun b hb _=>?_,hos.1,hos.2.1,hos.2.2,by omega,fun b hb _=>hold b hb⟩,by simp⟩
 ·by_cases hbe:b=w.heap.size
  ·subst hbe
   simp only [if_true]at hb
   obtain rfl:=Option.some.inj hb
   exact hnew
  ·simp only [if_neg hbe]at hb
   have:=h1 b o hb
   rw [hold b (Array.getElem?_eq_some_iff.1 this).1];exact this
 ·simp only [if_neg (Nat.ne_of_lt hb)]
theorem OpV.pubN {op:Op}{T:TypeId}{z:List SV}{mk:Nat→Value}{sv:SV}(hn:NewOk P op F T z mk) (hsv:∀(m:Mem) (b:Nat) (arr:Array Value),m b=some (.cells arr T (0,0))→All2 m z arr.toList→sv.p m (mk b)):OpV P op ty F H sv:=by
 refine OpV.of0 ?_
 intro m w o a ho hty h1 h2 h3 K Q hK
 obtain⟨arr,hrun,hall⟩:=hn w o a ho ⟨m,h3⟩
 obtain⟨m',g1,g2,g3⟩:=pub_new (w':=w.alloc (.cells arr T)) h1 (.inl rfl)
 unfold Oper.wp
 rw [hrun]
 exact hK _ m' _ (hsv m' _ arr g3 ((hall m h3).mono g2.le)) g1 g2
theorem sl_new {m:Mem}{b k:Nat}{arr:Array Value}{T:TypeId}{cs:List SV}(hb:m b=some (.cells arr T (0,0))) (h:All2 m cs arr.toList) (hk:k≤maxLen):(sl cs k).p m (.slice (some ⟨b,0,none⟩) k k) :=
 sl_mk (Nat.le_refl _) hk (.inr ⟨b,0,rfl,arr,T,(0,0),hb,by rw [List.drop_zero,←h.length,List.take_length];exact h⟩)
theorem ov_bs1 {T e:TypeId}{by_:Nat}{z:List SV}{g:Bool} [hS:TSl P T e] [hT:TY P e 1 by_ z g]{x:Operand}{s:SV}(hp:Parts F [(0,x)] [(0,[s])]):OpV P (.buildSlice T 1 [(0,x)].toArray) ty F H (sl [s] 1):=by
 have hz1:z.length=1:=by
  obtain⟨l,_,h2,_,h4⟩:=hT.info
  rw [←h2,List.length_map,h4]
 have hf:fillS ((List.range 1).map fun i=>(i*1,1)) (List.replicate 1 z).flatten [(0,[s])]=some [s]:=by
  match z,hz1 with
  | [y],_=>rfl
 exact OpV.pubN (nk_bslice hp hf (by decide) (by decide)) fun m b arr hb h=>sl_new hb h (by simp only [maxLen];omega)
theorem ov_appX {T e:TypeId}{by_:Nat}{z:List SV}{g:Bool} [hS:TSl P T e] [hT:TY P e 1 by_ z g]{x y:Operand}{cs:List SV}{s:SV}{k:Nat}(hx:ev F x=xsl cs k) (hy:ev F y=sl [s] 1) (hk:cs.length=k) (hl:k≤1000000) (hby:by_≤10000) :
  OpV P (.call ⟨.builtin .append,#[x,y],#[T,T]⟩) ty F H (sl (cs++[s]) (k+1)):=by
 refine OpV.of0 ?_
 intro m w o a ho hty h1 h2 h3 K Q hK
 have e0:=evA (x:=x) h3 (by simp [Op.operands,Call.operands]);rw [hx]at e0
 have e1:=evA (x:=y) h3 (by simp [Op.operands,Call.operands]);rw [hy]at e1
 unfold xsl at e0
 obtain⟨ad,e0,hkm,hadn,hca⟩:=e0
 obtain⟨ad2,cap2,e1,hc1,hc2,hcb⟩:=sl_cells e1
 obtain⟨b2,off2,rfl,arr2,T2,fz2,hb2,hall2⟩:=hcb.resolve_left (by simp)
 obtain⟨i,v,hi,hsz,hbyt,hz,hzl,hfl,hvs⟩:=hT.run_bytes
 have hw2:=h1 _ _ hb2
 have hlen2':((arr2.toList.drop off2).take 1).length=1:=hall2.length
 have hall2:All2 m [s] ((arr2.toList.drop off2).take 1):=hall2
 have hys:∀j u,((arr2.toList.drop off2).take 1)[j]? = some u→w.cell? ((⟨b2,off2,none⟩:Addr).add j)=some u:=fun j u hj=>by
  rw [add_none,cell_of w b2 _ arr2 _ _ hw2]
  rw [List.getElem?_take]at hj
  split at hj
  ·rw [List.getElem?_drop]at hj;simpa using hj
  ·cases hj
 have hmul:∀q,q≤2000001→q*by_≤140737488355328:=fun q hq=>Nat.le_trans (Nat.mul_le_mul hq hby) (by decide)
 have hexec:execOp a.eval o=(do let v←Builtin.append_ #[T,T] o.type #[a.eval x,a.eval y];pure (.value v)):=by
  simp [execOp,ho,resolve,invoke,builtin]
 have fin:∀(c:Nat) (arr:Array Value),k+1≤c→c≤maxLen→All2 m (cs++[s]) (arr.toList.take (k+1))→(Builtin.append_ #[T,T] o.type #[a.eval x,a.eval y]).run P w = .ok (.slice (some ⟨w.heap.size,0,none⟩) (k+1) c) (w.drew.alloc (.cells arr e))→o.wp P a w K Q:=by
  intro c arr hc hcm hall hrun
  unfold Oper.wp
  rw [hexec]
  simp only [Sem.run_bind,hrun,Result.andThen_ok,Sem.run_pure]
  obtain⟨m',g1,g2,g3⟩:=pub_new (w':=w.drew.alloc (.cells arr e)) h1 (.inr rfl)
  refine hK _ m' _ (sl_mk hc hcm (.inr ⟨w.heap.size,0,rfl,arr,e,(0,0),g3,?_⟩)) g1 g2
  rw [List.drop_zero,List.length_append,hk,List.length_singleton]
  exact hall.mono g2.le
 rcases hca with hnil|⟨b1,off1,rfl,arr1,T1,fz1,hb1,hall1⟩
 ·subst hnil
  simp only [List.length_nil]at hk
  subst hk
  cases ad with
  |none =>
   refine fin _ _ (grownCap_ge w 1 0 e) (grownCap_le_maxLen w 1 0 e (by simp only [maxLen];omega)) ?_ (by rw [e0,e1];exact run_append_nil (P:=P) w T o.type e i v hS.h hi hz ⟨b2,off2,none⟩ 1 cap2 ((arr2.toList.drop off2).take 1) (by rw [hlen2',hsz]) hys (by omega) (by omega) (by rw [hbyt];have:=hmul 1 (by omega);omega))
   simp only [Array.toList_append,List.toList_toArray,List.nil_append]
   rw [List.take_append_of_le_length (by rw [hlen2'];simp),List.take_of_length_le (by rw [hlen2'];simp)]
   exact hall2
  |some ad =>
   refine fin _ _ (grownCap_ge w (0+1) 0 e) (grownCap_le_maxLen w (0+1) 0 e (by simp only [maxLen];omega)) ?_ (by rw [e0,e1];exact run_append_grow (P:=P) w T o.type e i v hS.h hi hz ad 0 0 [] (by simp) (by intro j u hj;simp at hj) ⟨b2,off2,none⟩ 1 cap2 ((arr2.toList.drop off2).take 1) (by rw [hlen2',hsz]) hys (by omega) (by omega) (growslice_fits (by omega) (by rw [hbyt];exact hmul _ (by omega))))
   simp only [Array.toList_append,List.toList_toArray,List.nil_append]
   rw [List.take_append_of_le_length (by rw [hlen2'];simp),List.take_of_length_le (by rw [hlen2'];simp)]
   exact hall2
 ·have hw1:=h1 _ _ hb1
  have hlen1:=hall1.length
  rw [hk]at hall1 hlen1
  have hxs:∀j u,((arr1.toList.drop off1).take k)[j]? = some u→w.cell? ((⟨b1,off1,none⟩:Addr).add j)=some u:=fun j u hj=>by
   rw [add_none,cell_of w b1 _ arr1 _ _ hw1]
   rw [List.getElem?_take]at hj
   split at hj
   ·rw [List.getElem?_drop]at hj;simpa using hj
   ·cases hj
  refine fin _ _ (grownCap_ge w (k+1) k e) (grownCap_le_maxLen w (k+1) k e (by simp only [maxLen];omega)) ?_ (by rw [e0,e1];exact run_append_grow (P:=P) w T o.type e i v hS.h hi hz ⟨b1,off1,none⟩ k k ((arr1.toList.drop off1).take k) (by rw [hlen1,hsz,Nat.mul_one]) hxs ⟨b2,off2,none⟩ 1 cap2 ((arr2.toList.drop off2).take 1) (by rw [hlen2',hsz]) hys (by omega) (by omega) (growslice_fits (by omega) (by rw [hbyt];exact hmul _ (by omega))))
  simp only [Array.toList_append,List.toList_toArray]
  have hlk:((arr1.toList.drop off1).take k++(arr2.toList.drop off2).take 1).length=k+1:=by rw [List.length_append,hlen1,hlen2']
  rw [List.take_append_of_le_length (by rw [hlk];exact Nat.le_refl _),List.take_of_length_le (by rw [hlk];exact Nat.le_refl _)]
  exact hall1.append hall2
theorem run_bound {P:Program}{w:World}{v:Value}(l u:Nat){ki:IntKind}(code:BoundsCode) (hy:v = .int ki l) (hle:l≤u):(Instr.sliceBound v u code).run P w = .ok l w:=by
 have h1:(l:Int)≤(u:Int):=by omega
 subst hy
 simp [Instr.sliceBound,asIntOf,h1]
theorem ov_sl3 {T e:TypeId}{by_:Nat}{z:List SV}{g:Bool} [hS:TSl P T e] [hT:TY P e 1 by_ z g]{x y y':Operand}{cs:List SV}{k:Nat}{v v':Int}(j:Nat) (hx:ev F x=sl cs k) (hy:ev F y=lit (.int .i64 v)) (hy':ev F y'=lit (.int .i64 v')) (hv:v=(j:Int)) (hv':v'=(j:Int)) (hk:cs.length=k) (hj:j≤k) :
  OpV P (.slice T x none (some y) (some y')) ty F H (xsl (cs.take j) j) :=
 OpV.pure fun m w o a ho _ _ _ h=>by
  have e0:=h x (by simp [Op.operands]);rw [hx]at e0
  have e1:=h y (by simp [Op.operands]);rw [hy,lit_p]at e1
  have e2:=h y' (by simp [Op.operands]);rw [hy',lit_p]at e2
  subst hv hv'
  obtain⟨ad,cap,e0,hc1,hc2,hca⟩:=sl_cells e0
  have hb:(Instr.sliceBounds true k cap none (some (a.eval y)) (some (a.eval y'))).run P w = .ok (0,j,j) w:=by
   simp [Instr.sliceBounds,run_bound j cap _ e2 (by omega),run_bound j j _ e1 (Nat.le_refl _)]
  have hrun:∃a',(execOp a.eval o).run P w = .ok (.value (.slice a' j j)) w∧(ad=none→a'=none)∧(∀q,ad=some q→∃q',a'=some q')∧∀b off,ad=some ⟨b,off,none⟩→a'=some ⟨b,off,none⟩:=by
   refine⟨if j=0 then ad else ad.map (·.add 0),?_,?_,?_,?_⟩
   ·simp [execOp,ho,Instr.sliceAt,Instr.slice,underlying,hS.h,e0,hb,hT.run_size]
   ·rintro rfl;simp
   ·rintro q rfl;split <;> simp
   ·rintro b off rfl;simp [add_none]
  obtain⟨a',hr,q1,q2,q3⟩:=hrun
  refine⟨_,hr,?_⟩
  unfold xsl
  refine⟨a',rfl,by omega,fun hn=>?_,?_⟩
  ·rcases hca with hnil|⟨b,off,rfl,_⟩
   ·rw [hnil]at hk;simp at hk;omega
   ·obtain⟨q',hq⟩:=q2 _ rfl;rw [hq]at hn;cases hn
  ·rcases hca with hnil|⟨b,off,rfl,hca⟩
   ·left;rw [hnil,List.take_nil]
   ·exact .inr ⟨b,off,q3 b off rfl,hca.take j⟩
theorem ov_slF {T e:TypeId}{by_:Nat}{z:List SV}{g:Bool} [hS:TSl P T e] [hT:TY P e 1 by_ z g]{x y:Operand}{cs:List SV}{k:Nat}{v:Int}(j:Nat) (hx:ev F x=sl cs k) (hy:ev F y=lit (.int .i64 v)) (hv:v=(j:Int)) (hk:cs.length=k) (hj:j≤k) :
  OpV P (.slice T x (some y) none none) ty F H (sl (cs.drop j) (k-j)) :=
 OpV.pure fun m w o a ho _ _ _ h=>by
  have e0:=h x (by simp [Op.operands]);rw [hx]at e0
  have e1:=h y (by simp [Op.operands]);rw [hy,lit_p]at e1
  subst hv
  obtain⟨ad,cap,e0,hc1,hc2,hca⟩:=sl_cells e0
  have hb:(Instr.sliceBounds true k cap (some (a.eval y)) none none).run P w = .ok (j,k,cap) w:=by
   simp [Instr.sliceBounds,run_bound j k _ e1 hj]
  have hrun:∃a',(execOp a.eval o).run P w = .ok (.value (.slice a' (k-j) (cap-j))) w∧(cs.drop j=[]∨∃b off,ad=some ⟨b,off,none⟩∧a'=some ⟨b,off+j,none⟩∧cellsAt m b off cs):=by
   refine⟨if cap=j then ad else ad.map (·.add (j*1)),?_,?_⟩
   ·simp [execOp,ho,Instr.sliceAt,Instr.slice,underlying,hS.h,e0,hb,hT.run_size]
   ·rcases hca with hnil|⟨b,off,rfl,hca⟩
    ·left;rw [hnil,List.drop_nil]
    ·by_cases hci:cap=j
     ·left
      exact List.drop_eq_nil_of_le (by omega)
     ·right
      refine⟨b,off,rfl,?_,hca⟩
      rw [if_neg hci]
      simp [add_none]
  obtain⟨a',hr,hcs⟩:=hrun
  refine⟨_,hr,sl_mk (by omega) (by omega) ?_⟩
  rcases hcs with hnil|⟨b,off,_,rfl,hca⟩
  ·left;exact hnil
  ·right
   exact⟨b,off+j,rfl,hca.drop j⟩
theorem le_nilS:Le (lit (.slice none 0 0)) (sl [] 0):=fun m v h=>by
 rw [lit_p]at h
 subst h
 exact sl_mk (Nat.le_refl _) (Nat.zero_le _) (.inl rfl)
end
section
variable {P:Program}{C:Ctx}{n:Nat}{F:Fr}{H:LH}{ops:Array Oper}{K:Fr→LH→Prop}{rest:List Oper}{ty:TypeId}{pos:String}{aft:Array Edge}
theorem HUpd.mem_or {b:Nat}{T:TypeId}{cs cs':List SV}{H H':LH}(h:HUpd b T cs cs' H H'):∀e∈H',e=(b,T,cs')∨e∈H:=by
 induction h with
 |here=>exact fun e he=>(List.mem_cons.1 he).imp id fun h=>List.mem_cons_of_mem _ h
 |there _ _ ih=>exact fun e he=>(List.mem_cons.1 he).elim (fun h => .inr (by rw [h];exact List.mem_cons_self)) fun h=>(ih e h).imp id fun h=>List.mem_cons_of_mem _ h
theorem St.lowB {b:Nat}{T:TypeId}{cs cs':List SV}{H':LH}{a:Act}{w:World}(hu:HUpd b T cs cs' H H') (hle:LeL cs cs') (hs:St C n F H a w):St C n F H' a w:=by
 obtain⟨hdef,hn,m,h1,h2,h3,h4,h5⟩:=hs
 obtain⟨g1,g2⟩:=h2.2 _ hu.mem
 refine⟨hdef,hn,m,h1,⟨by rw [hu.keys];exact h2.1,fun e he=>?_⟩,h3,fun e he=>?_,h5⟩
 ·rcases hu.mem_or e he with rfl|h
  ·exact⟨g1,g2.le hle⟩
  ·exact h2.2 e h
 ·rcases hu.mem_or e he with rfl|h
  ·exact h4 (b,T,cs) hu.mem
  ·exact h4 e h
theorem WPL.lowB {l:List Oper}{b:Nat}{T:TypeId}{cs cs':List SV}{H':LH}(hu:HUpd b T cs cs' H H') (hle:LeL cs cs') (k:WPL P C n ops l K F H'):WPL P C n ops l K F H:=by
 unfold WPL at *
 exact fun a w hs=>k a w (hs.lowB hu hle)
theorem ov_slFn {T e:TypeId}{sz by_:Nat}{z:List SV}{g:Bool} [hS:TSl P T e] [hT:TY P e sz by_ z g]{x y:Operand}{cs:List SV}{k:Nat}{v:Int}(j:Nat) (hx:ev F x=sl cs k) (hy:ev F y=lit (.int .i64 v)) (hv:v=(j:Int)) (hk:cs.length=k*sz) (hj:j≤k) :
  OpV P (.slice T x (some y) none none) ty F H (sl (cs.drop (j*sz)) (k-j)) :=
 OpV.pure fun m w o a ho _ _ _ h=>by
  have e0:=h x (by simp [Op.operands]);rw [hx]at e0
  have e1:=h y (by simp [Op.operands]);rw [hy,lit_p]at e1
  subst hv
  obtain⟨ad,cap,e0,hc1,hc2,hca⟩:=sl_cells e0
  have hb:(Instr.sliceBounds true k cap (some (a.eval y)) none none).run P w = .ok (j,k,cap) w:=by
   simp [Instr.sliceBounds,run_bound j k _ e1 hj]
  have hrun:∃a',(execOp a.eval o).run P w = .ok (.value (.slice a' (k-j) (cap-j))) w∧(cs.drop (j*sz)=[]∨∃b off,ad=some ⟨b,off,none⟩∧a'=some ⟨b,off+j*sz,none⟩∧cellsAt m b off cs):=by
   refine⟨if cap=j then ad else ad.map (·.add (j*sz)),?_,?_⟩
   ·simp [execOp,ho,Instr.sliceAt,Instr.slice,underlying,hS.h,e0,hb,hT.run_size]
   ·rcases hca with hnil|⟨b,off,rfl,hca⟩
    ·left;rw [hnil,List.drop_nil]
    ·by_cases hci:cap=j
     ·left
      have hkj:k=j:=by omega
      exact List.drop_eq_nil_of_le (by rw [hk,hkj];exact Nat.le_refl _)
     ·right
      refine⟨b,off,rfl,?_,hca⟩
      rw [if_neg hci]
      simp [add_none]
  obtain⟨a',hr,hcs⟩:=hrun
  refine⟨_,hr,sl_mk (by omega) (by omega) ?_⟩
  rcases hcs with hnil|⟨b,off,_,rfl,hca⟩
  ·left;exact hnil
  ·right
   exact⟨b,off+j*sz,rfl,hca.drop (j*sz)⟩
attribute [local semireducible] WPL in
theorem TSR.of {i:Nat}{o:Oper}{Fe:Fr}{Post:SV→LH→Prop}(ho:ops[i]? = some o) (hg:o.guard=none) (h:∀F:Fr,(∀t,t∈o.looksAt ops→Fe t=F t)→WPL P {C with pan:=noX} n ops [o] (fun F' H'=>∃sv,Post sv H'∧F'=dstf o F sv) F H):TSR P C n ops i o Fe H Post:=by
 obtain⟨od,oop,oty,opos,oaft,og⟩:=o
 simp only at hg
 subst hg
 intro F hF a w hst Q' K' hK
 have h':=h F hF a w hst (fun e a' w'=>match e with| .normal=>K' a' w'|e=>False) ⟨fun a' w' F' H' hst' hKK=>?_,fun ch a' w' hp=>?_⟩
 ·unfold wpOp
  rw [ho]
  unfold wpList at h'
  simp only [Region.wanted,if_true]at h'⊢
  left
  rcases h' with h'|⟨_,a0,w0,h0⟩
  ·exact wp_agree h' (fun _ _ _ h=>h.elim) (fun _ _ h=>h.elim)
  ·exact h0.elim
 ·obtain⟨sv,hP,rfl⟩:=hKK
  exact hK sv H' hP a' w' hst'
 ·obtain⟨_,_,_,_,_,_,_,_,_,_,_,hx⟩:=hp
  exact hx.elim
theorem Gown {k q i d:Nat}{late:List NO'}{T e:TypeId}{sz by_:Nat}{z:List SV}{g:Bool} [hS:TSl P T e] [hT:TY P e sz by_ z g]{x y:Operand}{n0 b2 c2:Nat}{T':TypeId}{cs ds:List SV}{s:SV}{Hs Rs:LH}{r:List Oper}
  (hown:Own e sz n0 cs s Hs) (hl:n0≤1000000000) (hlok:LOk P ops k q n H F late) (h:∀s' H',Own e sz (n0+1) (cs++ds) s' H'→Stg P C n ops k q late K (i+1) r (upd F d s') (Rs++H')) (hsp:Tk H Hs Rs) (hm:(b2,T',ds)∈Rs)
  (hx:ev F x=s:=by exact rfl) (hy:ev F y=lit (.slice (some ⟨b2,0,none⟩) 1 c2):=by exact rfl) (hds:ds.length=sz:=by exact rfl) (hpos:0<sz:=by decide) (hby:by_≤10000:=by decide)
  (ho:ops[i]? = some ⟨some d, .call ⟨.builtin .append,#[x,y],#[T,T]⟩,ty,pos,aft,none⟩:=by exact rfl) (hd:Nat.blt d n=true:=by exact rfl) :
  Stg P C n ops k q late K i (⟨some d, .call ⟨.builtin .append,#[x,y],#[T,T]⟩,ty,pos,aft,none⟩::r) F H:=by
 refine⟨hlok,fun s' H'=>∃H1,Own e sz (n0+1) (cs++ds) s' H1∧H'=Rs++H1,TSR.of ho rfl fun F1 hF1=>?_,?_⟩
 ·have hx1:ev F1 x=s:=by rw [←hx];exact(ev_looks (by simp [Op.operands,Call.operands]) hF1)
  have hy1:ev F1 y=lit (.slice (some ⟨b2,0,none⟩) 1 c2):=by rw [←hy];exact(ev_looks (by simp [Op.operands,Call.operands]) hF1)
  exact Wown hown hl (fun s' H' h'=>WPL.nil ⟨s',⟨H',h',rfl⟩,rfl⟩) hx1 hy1 hsp hm hds hpos hby hd
 ·rintro s' H' ⟨H1,h1,rfl⟩
  exact h s' H1 h1
end
theorem pub_ownL {m:Mem}{arr:Array Value}{b:Nat}{T:TypeId}{cs:List SV}{j n c:Nat}(hm:m b=some (.cells arr T (0,0))) (ha:All2 m (cs++List.replicate j top) arr.toList) (h1:n≤c) (h2:c≤maxLen):(sl cs n).p m (.slice (some ⟨b,0,none⟩) n c):=by
 refine sl_mk h1 h2 (.inr ⟨b,0,rfl,arr,T,(0,0),hm,?_⟩)
 rw [List.drop_zero]
 exact ha.split.1
section
variable {P:Program}{C:Ctx}{n:Nat}{F:Fr}{H:LH}{ops:Array Oper}{K:Fr→LH→Prop}{rest:List Oper}{ty:TypeId}{pos:String}{aft:Array Edge}
theorem ov_slTL {T e:TypeId}{sz by_:Nat}{z:List SV}{g:Bool} [hS:TSl P T e] [hT:TY P e sz by_ z g]{x y:Operand}{b k c:Nat}{v:Int}(j:Nat) (hx:ev F x=lit (.slice (some ⟨b,0,none⟩) k c)) (hy:ev F y=lit (.int .i64 v)) (hv:v=(j:Int)) (hj:j≤c) :
  OpV P (.slice T x none (some y) none) ty F H (lit (.slice (some ⟨b,0,none⟩) j c)) :=
 OpV.pure fun m w o a ho _ _ _ h=>by
  have e0:=h x (by simp [Op.operands]);rw [hx,lit_p]at e0
  have e1:=h y (by simp [Op.operands]);rw [hy,lit_p]at e1
  subst hv
  have hb:(Instr.sliceBounds true k c none (some (a.eval y)) none).run P w = .ok (0,j,c) w:=by
   simp [Instr.sliceBounds,run_bound j c _ e1 hj]
  refine⟨.slice (some ⟨b,0,none⟩) j c,?_,lit_p.2 rfl⟩
  by_cases h0:c=0
  ·subst h0
   simp [execOp,ho,Instr.sliceAt,Instr.slice,underlying,hS.h,e0,hb,hT.run_size]
  ·simp [execOp,ho,Instr.sliceAt,Instr.slice,underlying,hS.h,e0,hb,hT.run_size,add_none,Ne.symm h0]
theorem Own.blk {T:TypeId}{sz k:Nat}{cs:List SV}{s:SV}{Hs:LH}(h:Own T sz k cs s Hs) (hk:0<k) :
  ∃b c,k≤c∧c≤maxLen∧s=lit (.slice (some ⟨b,0,none⟩) k c)∧Hs=[(b,T,cs++List.replicate (c*sz-k*sz) top)]:=by
 obtain⟨_,⟨h0,_⟩|h⟩:=h
 ·omega
 ·exact h
theorem LeL.top:∀(l:List SV) (k:Nat),l.length=k→LeL l (List.replicate k top)
 | [],_,h=>by subst h;exact trivial
 |s::l,0,h=>by cases h
 |s::l,k+1,h=>⟨fun m v _=>by unfold Ab.top;trivial,LeL.top l k (by simpa using h)⟩
theorem LeL.app:∀{a b c d:List SV},LeL a b→LeL c d→LeL (a++c) (b++d)
 | [],[],_,_,_,k=>k
 |_::_,_::_,_,_,h,k=>⟨h.1,LeL.app h.2 k⟩
 | [],_::_,_,_,h,_=>h.elim
 |_::_,[],_,_,h,_=>h.elim
theorem Own.cut {T:TypeId}{sz k b c j:Nat}{cs:List SV}(hl:cs.length=k*sz) (hkc:k≤c) (hc:c≤maxLen) (hj:j≤k) :
  Own T sz j (cs.take (j*sz)) (lit (.slice (some ⟨b,0,none⟩) j c)) [(b,T,cs.take (j*sz)++List.replicate (c*sz-j*sz) top)]∧LeL (cs++List.replicate (c*sz-k*sz) top) (cs.take (j*sz)++List.replicate (c*sz-j*sz) top):=by
 have h1:j*sz≤k*sz:=Nat.mul_le_mul_right _ hj
 have h2:k*sz≤c*sz:=Nat.mul_le_mul_right _ hkc
 refine⟨⟨by rw [List.length_take,hl];omega, .inr ⟨b,c,by omega,hc,rfl,rfl⟩⟩,?_⟩
 have e1:cs++List.replicate (c*sz-k*sz) top=cs.take (j*sz)++(cs.drop (j*sz)++List.replicate (c*sz-k*sz) top):=by
  rw [←List.append_assoc,List.take_append_drop]
 rw [e1]
 refine LeL.app (LeL.refl _) (LeL.top _ _ ?_)
 rw [List.length_append,List.length_drop,List.length_replicate,hl]
 omega
end
end Go.Ab
