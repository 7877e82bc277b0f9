/- Texts laid one behind the other: Sid, TcA, Bld, Wr, Zip, IsG, PMrg. -/
import Derived.Test.YtbcojehfealiaaaGreatDoorB23
import Derived.Lib.AppendStr
import Derived.Lib.UnsafeStr
import Derived.Lib.Builder
import Derived.Stop.Asserts
set_option linter.all false
set_option maxHeartbeats 16000000
namespace Go.Ab
open Go.Proofs
variable [Base]
theorem Ag {C D:List Li}(hC:∀l∈C,l.ok) (hD:∀l∈D,l.ok) (hq:∃q,Inn C q) (he:∀q,Inn C q↔Inn D q){m:Li}(hm:m∈C) (hE:Edg C m):m∈D:=by
 have hmo:=hC m hm;obtain⟨r,hr,hv⟩:=hE;obtain⟨t,rfl⟩:∃t,r=atL m t:=⟨bo m r,(kB hmo hr).symm⟩
 have hnear:∀u,(∀j∈C,j≠m→0<a8 j (atL m u))→∃k:Rat,0<k∧∀e,0<e→e≤k→Inn D ((atL m u).1+e*m.a,(atL m u).2+e*m.b):=fun u hu=>by
  obtain⟨k,hk,hs⟩:=fy (fun i=>a8 i (atL m u)) (fun i=>(i.a:Rat)*m.a+i.b*m.b) (C.filter fun i=>decide (i≠m)) (fun i hi=>by
   rw [List.mem_filter,decide_eq_true_eq]at hi;exact hu i hi.1 hi.2)
  refine⟨k,hk,fun e he0 hle=>(he _).1 fun i hi=>?_⟩;rw [cl];by_cases him:i=m
  ·rw [him,fk hmo,Rat.zero_add];exact Rat.mul_pos he0 (cC hmo)
  ·exact hs i (List.mem_filter.2 ⟨hi,decide_eq_true him⟩) e he0 hle
 have hge:∀u,(∀j∈C,j≠m→0<a8 j (atL m u))→∀j∈D,0≤a8 j (atL m u):=fun u hu j hj=>by
  obtain⟨k,hk,hs⟩:=hnear u hu;refine Rat.not_lt.1 fun hn=>?_
  obtain⟨e,he0,hse⟩:=fy (fun _:Unit => - a8 j (atL m u)) (fun _ => -((j.a:Rat)*m.a+j.b*m.b)) [()] (fun _ _=>by grind)
  have h2:∃e',0<e'∧e'≤e∧e'≤k:=by
   rcases Rat.le_total (a:=e) (b:=k)with h|h
   ·exact⟨e,he0,Rat.le_refl,h⟩
   ·exact⟨k,hk,h,Rat.le_refl⟩
  obtain⟨e',p1,p2,p3⟩:=h2;have h3:=hs e' p1 p3 j hj;have h4:=hse () List.mem_cons_self e' p1 p2;rw [cl]at h3;grind
 obtain⟨j,hj,hz⟩:∃j∈D,a8 j (atL m t)=0:=by
  refine Classical.byContradiction fun hno=>?_
  have:Inn D (atL m t):=fun j hj=>by
   have h0:=hge t hv j hj;by_cases h:a8 j (atL m t)=0
   ·exact absurd ⟨j,hj,h⟩ hno
   ·grind
  have:=(he _).2 this m hm;rw [fk hmo]at this;exact absurd this (by decide)
 obtain⟨e,he0,hs⟩:=fy (fun i:Li×Bool=>a8 i.1 (atL m t)) (fun i=>if i.2 then slp m i.1 else-slp m i.1)
  (((C.filter fun i=>decide (i≠m)).map fun i=>(i,true))++((C.filter fun i=>decide (i≠m)).map fun i=>(i,false))) (fun i hi=>by
   rcases List.mem_append.1 hi with hi|hi <;> (obtain⟨i',hi',rfl⟩:=List.mem_map.1 hi;rw [List.mem_filter,decide_eq_true_eq]at hi';exact hv i' hi'.1 hi'.2))
 have g1:=hge (t+e) (fun i hi him=>by
  have:=hs (i,true) (List.mem_append_left _ (List.mem_map.2 ⟨i,List.mem_filter.2 ⟨hi,decide_eq_true him⟩,rfl⟩)) e he0 Rat.le_refl;simp only [if_true]at this;rw [aV]at this⊢;grind) j hj
 have g2:=hge (t-e) (fun i hi him=>by
  have:=hs (i,false) (List.mem_append_right _ (List.mem_map.2 ⟨i,List.mem_filter.2 ⟨hi,decide_eq_true him⟩,rfl⟩)) e he0 Rat.le_refl;simp only [Bool.false_eq_true,if_false]at this;rw [aV]at this⊢;grind) j hj
 have v1:a8 j (atL m (t+e))=e*slp m j:=by rw [aV]at hz⊢;grind
 have v2:a8 j (atL m (t-e)) = -(e*slp m j):=by rw [aV]at hz⊢;grind
 rw [v1]at g1;rw [v2]at g2;have hz2:a8 j (atL m (t+e))=0:=by rw [v1];grind
 rcases qX hmo (hD j hj) (show t≠t+e by grind) hz hz2 with k|k
 ·rw [←k];exact hj
 ·exfalso;obtain⟨q,hq⟩:=hq;have p1:=(he q).1 hq j hj;have p2:=hq m hm;rw [k,gC]at p1;grind
theorem bZ.edg {c:PC}(h:bZ c){m:Li}(hm:m∈ac c):Edg (ac c) m:=by
 obtain⟨s,hs,rfl⟩:=List.mem_map.1 hm;obtain⟨h1,t,ht⟩:=h.span s hs;exact⟨atL s.1 t,fk (h.ok s hs) t,(h1 t).1 ht⟩
theorem qS {c:PC}(h:bZ c){C:List Li}(hC:∀l∈C,l.ok) (hE:∀l∈C,Edg C l) (he:∀q,Inn (ac c) q↔Inn C q) (m:Li):m∈ac c↔m∈C :=
 ⟨fun hm=>Ag h.lok hC h.inn he hm (h.edg hm),fun hm=>Ag hC h.lok (h.inn.imp fun q hq=>(he q).1 hq) (fun q=>(he q).symm) hm (hE m hm)⟩
theorem Edg.mono {C D:List Li}{m:Li}(h:∀j∈D,j∈C) (hE:Edg C m):Edg D m:=by
 obtain⟨r,h1,h2⟩:=hE;exact⟨r,h1,fun j hj=>h2 j (h j hj)⟩
theorem zT {c:List Li}(hc:∀l∈c,l.ok){l:Li}(h:l∈dF c):Edg (dF c) l :=
 ((fG hc).1 h).2.mono fun j hj=>((fG hc).1 hj).1
theorem EU (l:Li):l.neg.neg=l:=by unfold Li.neg;simp
theorem e0r:r0 (0:Rat)=0:=by decide +kernel
theorem e1r:r1 (0:Rat)=0:=by decide +kernel
theorem e2r:r2 (0:Rat)=lit (.pointer none):=if_pos (by decide +kernel)
def bndP (c:PC):Bool:=c.all (fun s => !s.2.nl && !s.2.nh)&&decide (0<c.length)
theorem y8 (c:PC) (hl:c.length≤100000):Pu Tryz.prog 153 [pcs c] (lit (.bool (bndP c))):=by
 have hR0:((c.drop 0).all (fun s => !s.2.nl && !s.2.nh)&&decide (0<c.length))=bndP c:=rfl;generalize bndP c=R at *;refine Pi Tryz.func153 fun C=>?_
 repeat(refine A1 ⟨?_⟩;intros)
 refine WP.loopS (ι:=Nat) (fun k=>k≤c.length∧((c.drop k).all (fun s => !s.2.nl && !s.2.nh)&&decide (0<c.length))=R) (fun k=>c.length-k)
  (fun k=>fm [(0,pcs c),(5,pcs c),(6,lit (.int .i64 c.length)),(7,lit (.int .i64 k))]) (fun _=>[]) 0 ⟨Nat.zero_le _,hR0⟩ lfA (List.nil_sublist _) ?_
 clear hR0;rintro k ⟨hk,hR⟩ K hK;by_cases hkl:k<c.length
 ·obtain⟨s,hget,hmm,hat,hne⟩:=elt eU om hkl;have hgo:=fun(h:((c.drop (k+1)).all (fun s => !s.2.nl && !s.2.nh)&&decide (0<c.length))=R) F' H'=>hK F' H' (k+1) ⟨om,h⟩ om
  rw [i9 hget,List.all_cons]at hR;obtain⟨m,lo,hi,nl,nh⟩:=s;simp only at hR;clear hK hget hmm;cases nl <;> cases nh
  ·simp only [Bool.not_false,Bool.true_and,Bool.and_self]at hR;replace hgo:=hgo hR;clear hR;repeat(refine A1 ⟨?_⟩;intros)
   refine Wo (aa (cs':=fgx (m,⟨lo,hi,false,false⟩)) rfl rfl om om hat hne) ?_;repeat(refine A1 ⟨?_⟩;intros)
   exact hgo _ _ lfA (List.nil_sublist _)
  all_goals
   simp only [Bool.not_false,Bool.not_true,Bool.false_and,Bool.and_false,Bool.and_self,Bool.true_and]at hR;subst hR;clear hgo;repeat(refine A1 ⟨?_⟩;intros)
   refine Wo (aa (cs':=fgx (m,⟨lo,hi,_,_⟩)) rfl rfl om om hat hne) ?_;exact Z1
 ·have hke:k=c.length:=by omega
  subst hke;rw [List.drop_length,List.all_nil,Bool.true_and]at hR;rw [←hR];clear hK hR;by_cases h0:0<c.length
  ·rw [decide_eq_true h0];exact Z1
  ·rw [decide_eq_false h0];exact Z1
def bys (l:List UInt8):List SV:=l.map fun b=>lit (.int .u8 (b.toNat:Nat))
def Byt (l:List UInt8) (s:SV) (H:LH):Prop :=
 (l=[]∧s=lit (.slice none 0 0)∧H=[])∨
  l≠[]∧∃b c,l.length≤c∧c≤maxLen∧s=lit (.slice (some ⟨b,0,none⟩) l.length c)∧H=[(b,5,bys l++List.replicate (c-l.length) top)]
theorem Byt.nil:Byt [] (lit (.slice none 0 0)) [] := .inl ⟨rfl,rfl,rfl⟩
section
variable {P:Program}{C:Ctx}{n:Nat}{F:Fr}{H:LH}{ops:Array Oper}{K:Fr→LH→Prop}{rest:List Oper}{ty:TypeId}{pos:String}{aft:Array Edge}
end
section
variable {F:Fr}{H:LH}{ty:TypeId}
end
abbrev L0 (w:Nat):SV:=lit (.pointer (some ⟨w,0,none⟩))
section
variable {P:Program}{C:Ctx}{n:Nat}{F:Fr}{H:LH}{ops:Array Oper}{K:Fr→LH→Prop}{rest:List Oper}{ty:TypeId}{pos:String}{aft:Array Edge}
end
section
variable {P:Program}{C:Ctx}{n:Nat}{F:Fr}{H:LH}{ops:Array Oper}{K:Fr→LH→Prop}{rest:List Oper}{ty:TypeId}{pos:String}{aft:Array Edge}
end
section
variable {P:Program}{C:Ctx}{n:Nat}{F F' F0 Fe:Fr}{H:LH}{ops:Array Oper}{Q:Exit→Fr→LH→Prop}{rs:List Nat}{Hc:LH}{K:Fr→LH→Prop}
def pk (l:List Oper):List Nat→List NO'
 | []=>[]
 |i::r=>match l[i]? with
  |some o=>(i,o)::pk l r
  |none=>pk l r
def Dn (ops:Array Oper) (rs:List Nat):List Nat→List Nat→Bool
 |_,[]=>true
 |dn,i::r=>(r.all fun j => !aQ ops i j && !(Nat.beq i j))&&(rs.contains i||rs.all fun k => !dn.contains k||aQ ops i k)&&Dn ops rs (i::dn) r
def zOk (ops:Array Oper) (kk:Nat) (rs pi:List Nat):Bool :=
 ((List.range ops.size).all fun i=>gw ops i) &&
 ((List.range kk).all fun i=>(List.range i).all fun j=>(bE ops j).isNone || !(bE ops i==bE ops j)) &&
 ((List.range kk).all fun i=>(List.range kk).all fun j=>match bE ops j with
  |some d => !br ops i d||aQ ops i j||aQ ops j i||Nat.beq i j
  |none=>true) &&
 ((List.range kk).all fun i=>pi.contains i)&&(pi.all fun i=>Nat.blt i kk)&&Dn ops rs [] pi &&
 ((List.range rs.length).all fun t=>Nat.blt (rs.getD t 0) kk&&(List.range t).all fun u=>aQ ops (rs.getD t 0) (rs.getD u 0) && !(Nat.beq (rs.getD u 0) (rs.getD t 0))) &&
 Nat.ble kk ops.size&&((List.range ops.size).all fun i=>Nat.blt i kk||(List.range i).all fun j=>aQ ops i j)
def TZ (P:Program) (C:Ctx) (n:Nat) (ops:Array Oper) (i:Nat) (o:Oper) (Fe:Fr) (H:LH) (Post:SV→LH→Prop):Prop :=
 ∀F,(∀t,t∈o.looksAt ops→Fe t=F t)→∀a w,St C n F H a w→∀(Q':Exit→Act→World→Prop) (K':Act→World→Prop),(∀ch a' w',Pan C ch a' w'→Q' (.panic ch) a' w')→(∀sv H',Post sv H'→∀a' w',St C n (dB o F sv) H' a' w'→K' a' w')→wpOp P ops Q' i K' a w
inductive Mz (P:Program) (C:Ctx) (n:Nat) (ops:Array Oper) (rs:List Nat) (Hc:LH) (K:Fr→LH→Prop):Nat→List NO'→Fr→LH→Prop
 |nil {s:Nat}{F:Fr}{E:LH}(h:K F (E++Hc)):Mz P C n ops rs Hc K s [] F E
 |free {s i d:Nat}{o:Oper}{sv:SV}{r:List NO'}{F:Fr}{E:LH}(hr:rs.contains i=false) (hd:o.dst=some d) (hdn:Nat.blt d n=true) (hds:DS P ops n Hc o F sv) (h:Mz P C n ops rs Hc K s r (upd F d sv) E):Mz P C n ops rs Hc K s ((i,o)::r) F E
 |late {s i d:Nat}{o:Oper}{sv:SV}{r:List NO'}{F:Fr}{E:LH}(hl:rs.length=s) (hr:rs.contains i=false) (hd:o.dst=some d) (hdn:Nat.blt d n=true) (hds:DS P ops n (E++Hc) o F sv) (h:Mz P C n ops rs Hc K s r (upd F d sv) E):Mz P C n ops rs Hc K s ((i,o)::r) F E
 |row {s i:Nat}{o:Oper}{r:List NO'}{F:Fr}{E:LH}{Post:SV→LH→Prop}(hr:rs[s]? = some i) (ht:TZ P C n ops i o F (E++Hc) (fun sv H'=>∃E',H'=E'++Hc∧Post sv E')) (h:∀sv E',Post sv E'→Mz P C n ops rs Hc K (s+1) r (dB o F sv) E'):Mz P C n ops rs Hc K s ((i,o)::r) F E
theorem bU {x:NO'}{r:List NO'}{t:Nat}:bD (x::r) t=(x.2.dst==some t||bD r t):=rfl
theorem bV {l r:List NO'}{t:Nat}:bD (l++r) t=(bD l t||bD r t):=by unfold bD;rw [List.any_append]
def Lt (P:Program) (C:Ctx) (n:Nat) (ops:Array Oper) (rs:List Nat) (Hc:LH) (K:Fr→LH→Prop) (s:Nat) (rest:List NO') (G:Fr) (E:LH):Prop :=
 (rest=[]∧K G (E++Hc))∨∃i o r,rest=(i,o)::r∧rs[s]? = some i∧∃Post:SV→LH→Prop,TZ P C n ops i o G (E++Hc) (fun sv H'=>∃E',H'=E'++Hc∧Post sv E')∧∀sv E',Post sv E'→Mz P C n ops rs Hc K (s+1) r (dB o G sv) E'
def ZV (P:Program) (n:Nat) (ops:Array Oper) (rs:List Nat) (s:Nat) (E Hc:LH) (F0 G:Fr) (l1:List NO') (o:Oper):Prop :=
 ∃Hd d Fk,(Hd=Hc∨(rs.length=s∧Hd=E++Hc))∧o.dst=some d∧Nat.blt d n=true∧(∀t,Fk t=if bD l1 t=true then G t else F0 t)∧DS P ops n Hd o Fk (G d)
def w8 (L:List NO'):Prop:=∀l1 x l2 t,L=l1++x::l2→x.2.dst=some t→bD l1 t=false∧bD l2 t=false
theorem w8.tail {x:NO'}{L:List NO'}(h:w8 (x::L)):w8 L:=fun l1 y l2 t he hd=>by
 have:=h (x::l1) y l2 t (by rw [he];rfl) hd;rw [bU,Bool.or_eq_false_iff]at this;exact⟨this.1.2,this.2⟩
theorem Mz.walk {s:Nat}{L:List NO'}{E:LH}(h:Mz P C n ops rs Hc K s L F E):w8 L→∃pre rest G,L=pre++rest∧(∀x∈pre,rs.contains x.1=false)∧(∀l1 i o l2,pre=l1++(i,o)::l2→ZV P n ops rs s E Hc F G l1 o)∧
  (∀t,bD pre t=false→G t=F t)∧Lt P C n ops rs Hc K s rest G E:=by
 induction h with
 | @nil s F E h=>exact fun _=>⟨[],[],F,rfl,(fun x hx=>by cases hx),(fun l1 i o l2 he=>by cases l1 <;> cases he),fun _ _=>rfl, .inl ⟨rfl,h⟩⟩
 | @row s i o r F E Post hr ht h _=>exact fun _=>⟨[],_,F,rfl,(fun x hx=>by cases hx),(fun l1 i o l2 he=>by cases l1 <;> cases he),fun _ _=>rfl, .inr ⟨i,o,r,rfl,hr,Post,ht,h⟩⟩
 | @free s i d o sv r F E hr hd hdn hds h ih =>
  intro h1;obtain⟨pre,rest,G,rfl,g1,g2,g3,g4⟩:=ih h1.tail
  have hpre:bD pre d=false:=by
   have:=(h1 [] (i,o) (pre++rest) d rfl hd).2;rw [bV,Bool.or_eq_false_iff]at this;exact this.1
  have hGd:G d=sv:=by rw [g3 d hpre,aF]
  refine⟨(i,o)::pre,rest,G,rfl,fun x hx=>?_,fun l1 i' o' l2 he=>?_,fun t ht=>?_,g4⟩
  ·rcases List.mem_cons.1 hx with rfl|hx
   ·exact hr
   ·exact g1 x hx
  ·cases l1 with
   |nil =>
    simp only [List.nil_append,List.cons.injEq,Prod.mk.injEq]at he;obtain⟨⟨rfl,rfl⟩,rfl⟩:=he;exact⟨Hc,d,F, .inl rfl,hd,hdn,fun t=>by simp [bD],hGd▸hds⟩
   |cons x l1 =>
    simp only [List.cons_append,List.cons.injEq]at he;obtain⟨rfl,rfl⟩:=he;obtain⟨Hd,d',Fk,k0,k1,k2,k3,k4⟩:=g2 l1 i' o' l2 rfl;refine⟨Hd,d',Fk,k0,k1,k2,fun t=>?_,k4⟩;rw [k3 t,bU];by_cases ht:t=d
    ·subst ht;rw [bV,Bool.or_eq_false_iff]at hpre;rw [hpre.1];simp only [hd,beq_self_eq_true,Bool.true_or,if_true,Bool.false_eq_true,if_false,aF,hGd]
    ·have:(o.dst==some t)=false:=by rw [hd];simpa using fun e=>ht e.symm
     simp only [this,Bool.false_or,av ht]
  ·rw [bU,Bool.or_eq_false_iff]at ht;rw [g3 t ht.2,av fun e=>?_];rw [hd,e]at ht;simp at ht
 | @late s i d o sv r F E hl hr hd hdn hds h ih =>
  intro h1;obtain⟨pre,rest,G,rfl,g1,g2,g3,g4⟩:=ih h1.tail
  have hpre:bD pre d=false:=by
   have:=(h1 [] (i,o) (pre++rest) d rfl hd).2;rw [bV,Bool.or_eq_false_iff]at this;exact this.1
  have hGd:G d=sv:=by rw [g3 d hpre,aF]
  refine⟨(i,o)::pre,rest,G,rfl,fun x hx=>?_,fun l1 i' o' l2 he=>?_,fun t ht=>?_,g4⟩
  ·rcases List.mem_cons.1 hx with rfl|hx
   ·exact hr
   ·exact g1 x hx
  ·cases l1 with
   |nil =>
    simp only [List.nil_append,List.cons.injEq,Prod.mk.injEq]at he;obtain⟨⟨rfl,rfl⟩,rfl⟩:=he;exact⟨E++Hc,d,F, .inr ⟨hl,rfl⟩,hd,hdn,fun t=>by simp [bD],hGd▸hds⟩
   |cons x l1 =>
    simp only [List.cons_append,List.cons.injEq]at he;obtain⟨rfl,rfl⟩:=he;obtain⟨Hd,d',Fk,k0,k1,k2,k3,k4⟩:=g2 l1 i' o' l2 rfl;refine⟨Hd,d',Fk,k0,k1,k2,fun t=>?_,k4⟩;rw [k3 t,bU];by_cases ht:t=d
    ·subst ht;rw [bV,Bool.or_eq_false_iff]at hpre;rw [hpre.1];simp only [hd,beq_self_eq_true,Bool.true_or,if_true,Bool.false_eq_true,if_false,aF,hGd]
    ·have:(o.dst==some t)=false:=by rw [hd];simpa using fun e=>ht e.symm
     simp only [this,Bool.false_or,av ht]
  ·rw [bU,Bool.or_eq_false_iff]at ht;rw [g3 t ht.2,av fun e=>?_];rw [hd,e]at ht;simp at ht
theorem z9 {l:List Oper}:∀{pi:List Nat},(∀i∈pi,i<l.length)→(pk l pi).map (·.1)=pi
 | [],_=>rfl
 |i::r,h=>by
  have hi:=h i (by simp);have:l[i]? = some l[i]:=by simp [hi]
  unfold pk;rw [this];rw [List.map_cons,z9 fun j hj=>h j (Mc hj)]
theorem uW {l:List Oper}{x:NO'}:∀{pi:List Nat},x∈pk l pi→l[x.1]? = some x.2
 | [],h=>by cases h
 |i::r,h=>by
  unfold pk at h;cases ho:l[i]? with
  |none=>rw [ho]at h;exact uW h
  |some o =>
   rw [ho]at h;rcases List.mem_cons.1 h with rfl|h
   ·exact ho
   ·exact uW h
theorem oO:∀{pi dn:List Nat},Dn ops rs dn pi=true→∀l1 i l2,pi=l1++i::l2→(∀j∈l2,aQ ops i j=false∧i≠j)∧(rs.contains i=false→∀k∈rs,k∈l1∨k∈dn→aQ ops i k=true)
 | [],_,_,l1,i,l2,he=>by cases l1 <;> cases he
 |j::r,dn,h,l1,i,l2,he=>by
  simp only [Dn,Bool.and_eq_true,List.all_eq_true,Bool.or_eq_true,Bool.not_eq_true']at h;obtain⟨⟨h1,h2⟩,h3⟩:=h;cases l1 with
  |nil =>
   simp only [List.nil_append,List.cons.injEq]at he;obtain⟨rfl,rfl⟩:=he;refine⟨fun k hk=>⟨(h1 k hk).1,fun e=>?_⟩,fun hr k hk hkd=>?_⟩
   ·have:=(h1 k hk).2;rw [e,Nat.beq_refl]at this;cases this
   ·rcases h2 with h2|h2
    ·rw [hr]at h2;cases h2
    ·rcases hkd with hkd|hkd
     ·cases hkd
     ·rcases h2 k hk with h|h
      ·rw [List.contains_iff_mem.2 hkd]at h;cases h
      ·exact h
  |cons x l1 =>
   simp only [List.cons_append,List.cons.injEq]at he;obtain⟨rfl,rfl⟩:=he;obtain⟨g1,g2⟩:=oO h3 l1 i l2 rfl;refine⟨g1,fun hr k hk hkd=>g2 hr k hk ?_⟩;rcases hkd with hkd|hkd
   ·rcases List.mem_cons.1 hkd with rfl|hkd
    ·exact .inr (by simp)
    ·exact .inl hkd
   ·exact .inr (by simp [hkd])
structure Lu (ops:Array Oper) (kk:Nat) (rs:List Nat) (PI:List NO'):Prop where
 back:∀i,i<ops.size→gw ops i=true
 look:∀i j d,i<kk→j<kk→bE ops j=some d→br ops i d=true→aQ ops i j=true∨aQ ops j i=true∨i=j
 all:∀i o,i<kk→ops[i]? = some o→(i,o)∈PI
 get:∀x∈PI,ops[x.1]? = some x.2
 lt:∀x∈PI,x.1<kk
 hk:kk≤ops.size
 tail:∀i,i<ops.size→kk≤i→∀j,j<i→aQ ops i j=true
 top:∀l1 x l2,PI=l1++x::l2→(∀y∈l2,aQ ops x.1 y.1=false∧x.1≠y.1)∧(rs.contains x.1=false→∀y∈l1,rs.contains y.1=true→aQ ops x.1 y.1=true)
 row:∀(t k:Nat),rs[t]? = some k→k<kk∧∀(u:Nat) (k':Nat),u<t→rs[u]? = some k'→aQ ops k k'=true∧k'≠k
 dst1:w8 PI
theorem tN {l:List NO'}{l1 l2:List NO'}{x:NO'}(h:l=l1++x::l2):l.map (·.1)=l1.map (·.1)++x.1::l2.map (·.1):=by subst h;simp
theorem Do {l:List Oper}{kk:Nat}{pi:List Nat}(h:zOk l.toArray kk rs pi=true):Lu l.toArray kk rs (pk l pi):=by
 simp only [zOk,Bool.and_eq_true,List.all_eq_true,List.mem_range]at h;obtain⟨⟨⟨⟨⟨⟨⟨⟨h1,h2⟩,h3⟩,h4⟩,h5⟩,h6⟩,h7⟩,h8⟩,h9⟩:=h;have hkk:kk≤l.toArray.size:=Nat.le_of_ble_eq_true h8;have hkl:kk≤l.length:=by simpa using hkk
 have hlt:∀i∈pi,i<l.length:=fun i hi=>Nat.lt_of_lt_of_le (Nat.blt_eq.mp (h5 i hi)) hkl
 have hfst:=z9 hlt;have hget:∀x∈pk l pi,l.toArray[x.1]? = some x.2:=fun x hx=>by simpa using uW hx
 have htop:∀l1 x l2,pk l pi=l1++x::l2→(∀y∈l2,aQ l.toArray x.1 y.1=false∧x.1≠y.1)∧(rs.contains x.1=false→∀y∈l1,rs.contains y.1=true→aQ l.toArray x.1 y.1=true):=fun l1 x l2 he=>by
  have:=tN he;rw [hfst]at this;obtain⟨g1,g2⟩:=oO h6 _ _ _ this;exact⟨fun y hy=>g1 y.1 (List.mem_map.2 ⟨y,hy,rfl⟩),fun hr y hy hyr=>g2 hr y.1 (List.contains_iff_mem.1 hyr) (.inl (List.mem_map.2 ⟨y,hy,rfl⟩))⟩
 have hltk:∀x∈pk l pi,x.1<kk:=fun x hx=>by
  have:x.1∈(pk l pi).map (·.1):=List.mem_map.2 ⟨x,hx,rfl⟩;rw [hfst]at this;exact Nat.blt_eq.mp (h5 _ this)
 have hdis:∀i j d,i<kk→j<i→bE l.toArray j=some d→bE l.toArray i≠some d:=fun i j d hi hj hd he=>by
  have:=h2 i hi j hj;simp only [Bool.or_eq_true,Bool.not_eq_true']at this;rcases this with h|h
  ·rw [hd]at h;cases h
  ·rw [hd,he]at h;simp at h
 have hdne:∀x∈pk l pi,∀y∈pk l pi,x.1≠y.1→∀t,x.2.dst=some t→y.2.dst≠some t:=fun x hx y hy hne t hxt hyt=>by
  have gx:=hget x hx;have gy:=hget y hy;have sx:=hltk x hx;have sy:=hltk y hy;rcases Nat.lt_or_gt_of_ne hne with h|h
  ·exact hdis y.1 x.1 t sy h (by rw [aZ gx,hxt]) (by rw [aZ gy,hyt])
  ·exact hdis x.1 y.1 t sx h (by rw [aZ gy,hyt]) (by rw [aZ gx,hxt])
 refine⟨fun i hi=>h1 i hi,fun i j d hi hj hd hl=>?_,fun i o hi ho=>?_,hget,hltk,hkk,fun i hi hk j hj=>?_,htop,fun t k hk=>?_,fun l1 x l2 t he hd=>?_⟩
 ·have:=h3 i hi j hj;rw [hd]at this;simp only [hl,Bool.not_true,Bool.false_or,Bool.or_eq_true]at this;rcases this with(h|h)|h
  ·exact .inl h
  ·exact .inr (.inl h)
  ·exact .inr (.inr (Nat.eq_of_beq_eq_true h))
 ·have hm:i∈pi:=List.contains_iff_mem.1 (h4 i hi);rw [←hfst]at hm;obtain⟨x,hx,rfl⟩:=List.mem_map.1 hm;have:=hget x hx;rw [ho]at this;obtain rfl:=Option.some.inj this;exact hx
 ·have:=h9 i hi;simp only [Bool.or_eq_true,Nat.blt_eq,List.all_eq_true,List.mem_range]at this;rcases this with h|h
  ·omega
  ·exact h j hj
 ·have ht:=(List.getElem?_eq_some_iff.1 hk).1;have gk:rs.getD t 0=k:=by simp [List.getD,hk]
  obtain⟨g1,g2⟩:=h7 t ht;rw [gk]at g1 g2;refine⟨Nat.blt_eq.mp g1,fun u k' hu hk'=>?_⟩;have gk':rs.getD u 0=k':=by simp [List.getD,hk']
  have:=g2 u hu;rw [gk']at this;simp only [Bool.not_eq_true']at this;exact⟨this.1,fun e=>by rw [e,Nat.beq_refl]at this;cases this.2⟩
 ·have hmx:x∈pk l pi:=by rw [he];simp
  have hne1:∀y∈l1,y.1≠x.1:=fun y hy=>by
   obtain⟨a,b,hab⟩:=List.append_of_mem hy;exact((htop a y (b++x::l2) (by rw [he,hab];simp)).1 x (by simp)).2
  have hne2:∀y∈l2,y.1≠x.1:=fun y hy=>fun e=>((htop l1 x l2 he).1 y hy).2 e.symm
  constructor
  ·cases hb:bD l1 t with
   |false=>rfl
   |true =>
    obtain⟨y,hy,hyt⟩:=bN.1 hb;exact absurd hyt (hdne x hmx y (by rw [he];simp [hy]) (hne1 y hy).symm t hd)
  ·cases hb:bD l2 t with
   |false=>rfl
   |true =>
    obtain⟨y,hy,hyt⟩:=bN.1 hb;exact absurd hyt (hdne x hmx y (by rw [he];simp [hy]) (hne2 y hy).symm t hd)
def zF (ops:Array Oper) (listed:Array Bool) (G F0:Fr):Fr:=fun t=>if fg ops listed t=true then G t else F0 t
theorem dQ {listed:Array Bool}{t:Nat}:fg ops listed t=true↔∃j o,ops[j]? = some o∧listed.getD j false=true∧o.dst=some t:=by
 unfold fg;simp only [List.any_eq_true,List.mem_range,Bool.and_eq_true];constructor
 ·rintro ⟨j,hj,h1,h2⟩;exact⟨j,ops[j],by simp [hj],h1,by rw [aZ (o:=ops[j]) (by simp [hj])]at h2;simpa using h2⟩
 ·rintro ⟨j,o,ho,h1,h2⟩;exact⟨j,(Array.getElem?_eq_some_iff.1 ho).1,h1,by rw [aZ ho,h2];simp⟩
structure Ls (P:Program) (C:Ctx) (n:Nat) (ops:Array Oper) (rs:List Nat) (Hc:LH) (K:Fr→LH→Prop) (PI:List NO') (F0:Fr) (s:Nat) (listed:Array Bool) (dn rest:List NO') (G:Fr) (E:LH):Prop where
 pi:PI=dn++rest
 v:∀l1 i o l2,dn=l1++(i,o)::l2→rs.contains i=false→ZV P n ops rs s E Hc F0 G l1 o
 out:∀t,bD dn t=false→G t=F0 t
 fin:Lt P C n ops rs Hc K s rest G E
 don:∀x∈dn,rs.contains x.1=true→listed.getD x.1 false=true
 lst:∀j,listed.getD j false=true→∃o,(j,o)∈dn
 size:listed.size=ops.size
 closed:ee ops listed
 cnt:∀(u k:Nat),rs[u]? = some k→(listed.getD k false=true↔u<s)
theorem eG {listed:Array Bool}{j:Nat}(hs:listed.size=ops.size) (hj:j<ops.size):listed.getD j true=listed.getD j false:=by
 have hsz:j<listed.size:=by omega
 simp [hsz]
theorem cP {listed:Array Bool}{i j:Nat}(hs:listed.size=ops.size) (hi:i<ops.size):(listed.setIfInBounds i true).getD j false=true↔listed.getD j false=true∨j=i:=by
 by_cases hji:i=j
 ·subst hji;simp [hs,hi]
 ·rw [getD_set_ne false hji];exact⟨.inl,fun h=>h.elim id fun e=>absurd e.symm hji⟩
theorem LG {Q' : Exit → Act → World → Prop} {kk : Nat} {PI : List NO'} (hc : Lu ops kk rs PI) (hpan : ∀ ch a w, Pan C ch a w → Q' (.panic ch) a w) (fin : ∀ G E a w, K G (E ++ Hc) → St C n G (E ++ Hc) a w → wpList P ops Q' (ops.toList.drop kk) a w) :
    ∀(fuel s:Nat) (listed:Array Bool) (a:Act) (w:World) (dn rest:List NO') (G:Fr) (E:LH),(left ops kk listed).length+(ops.size-kk)≤fuel→Ls P C n ops rs Hc K PI F0 s listed dn rest G E→St C n (zF ops listed G F0) (E++Hc) a w→wpAny P .any ops Q' fuel listed a w:=by
  have hkk:=hc.hk
  have done:∀(fuel s:Nat) (listed:Array Bool) (a:Act) (w:World) (dn rest:List NO') (G:Fr) (E:LH),ops.size-kk≤fuel→left ops kk listed=[]→Ls P C n ops rs Hc K PI F0 s listed dn rest G E→St C n (zF ops listed G F0) (E++Hc) a w→wpAny P .any ops Q' fuel listed a w:=by
    intro fuel s listed a w dn rest G E hfu hnil hi hst
    have all:∀j,j<kk→listed.getD j false=true:=fun j hj=>by
      cases hb:listed.getD j false with
      |true=>rfl
      |false =>
        have:(j,ops[j])∈left ops kk listed:=aC.2 ⟨hj,by simp,by simp only;rw [eG hi.size om];exact hb⟩;rw [hnil]at this;cases this
    have hrest:rest=[]:=by
      cases rest with
      |nil=>rfl
      |cons x r =>
        exfalso;have hx:x∈PI:=by rw [hi.pi];simp
        obtain⟨o,ho⟩:=hi.lst x.1 (all _ (hc.lt x hx));obtain⟨l1,l2,hl⟩:=List.append_of_mem ho;exact((hc.top l1 (x.1,o) (l2++x::r) (by rw [hi.pi,hl];simp)).1 x (by simp)).2 rfl
    have hK:K G (E++Hc):=by
      rcases hi.fin with⟨_,h⟩|⟨i,o,r,h,_⟩
      · exact h
      · rw [hrest]at h;cases h
    refine uE hc.back hc.tail fuel kk listed a w (Nat.le_refl _) hi.size hi.closed hfu (fun j hj=>by rw [eG hi.size om];exact all j hj) (fun j hj hjs=>?_) (fin G E a w hK (hst.le fun t=>Le.of_eq ?_))
    · rw [eG hi.size hjs]
      cases hb:listed.getD j false with
      |false=>rfl
      |true =>
        obtain⟨o,ho⟩:=hi.lst j hb;have:=hc.lt (j,o) (by rw [hi.pi];simp [ho]);simp only at this;omega
    unfold zF;split
    · rfl
    · rename_i hb
      refine(hi.out t ?_).symm;cases hd:bD dn t with
      |false=>rfl
      |true =>
        obtain⟨x,hx,hxt⟩:=bN.1 hd;have hx':x∈PI:=by rw [hi.pi];simp [hx]
        have hg:=hc.get x hx';exact absurd (dQ.2 ⟨x.1,x.2,hg,all _ (hc.lt x hx'),hxt⟩) hb
  have noready:∀(listed:Array Bool),listed.size=ops.size→Region.ready .any ops listed=[]→left ops kk listed=[]:=fun listed hs hr=>by
    cases hl:left ops kk listed with
    |nil=>rfl
    |cons x l' =>
      exfalso;obtain⟨i,o⟩:=x;have hmem:(i,o)∈left ops kk listed:=by rw [hl];simp
      obtain⟨h1,h2,h3⟩:=aC.1 hmem;simp only at h1 h2 h3
      have hready:i∈Region.ready .any ops listed:=by
        rw [mem_ready];refine⟨h3,o,h2,fun e he hb=>?_⟩;have hlt:=dU (hc.back i om) h2 e he hb;cases hle:listed.getD e.on false with
        |true=>rfl
        |false =>
          have hm2:(e.on,ops[e.on]' om)∈left ops kk listed:=aC.2 ⟨by simp only;omega,by simp,by simp only;rw [eG hs om];exact hle⟩;have hsort:=bR (ops:=ops) kk listed;rw [hl]at hsort hm2;rcases List.mem_cons.1 hm2 with h|h
          · simp only [Prod.mk.injEq]at h;omega
          · have:=(List.pairwise_cons.1 hsort).1 _ h;simp at this;omega
      rw [hr]at hready;cases hready
  intro fuel;induction fuel with
  |zero =>
    intro s listed a w dn rest G E hfu hi hst;exact done 0 s listed a w dn rest G E om (List.eq_nil_of_length_eq_zero om) hi hst
  |succ fuel ih =>
    intro s listed a w dn rest G E hfu hi hst;by_cases hnil:left ops kk listed=[]
    · exact done (fuel+1) s listed a w dn rest G E om hnil hi hst
    refine⟨fun hrd=>absurd (noready listed hi.size hrd) hnil,fun i him=>?_⟩;obtain⟨hun,o,ho,_⟩:=mem_ready.1 him;have hio:=(Array.getElem?_eq_some_iff.1 ho).1
    have hik:i<kk:=by
      rcases Nat.lt_or_ge i kk with h|h
      · exact h
      · exfalso
        obtain⟨x,hx⟩:=List.exists_mem_of_ne_nil _ hnil;obtain⟨q1,q2,q3⟩:=aC.1 hx;have:=aB hi.closed him (hc.tail i hio h x.1 om);rw [eG hi.size om,this]at q3;cases q3
    rw [eG hi.size hio]at hun;have hmem:(i,o)∈left ops kk listed:=aC.2 ⟨hik,ho,by simp only;rw [eG hi.size hio];exact hun⟩;obtain⟨l1,l2,hl12⟩:=List.append_of_mem hmem;have hset:=iG hi.size hio hl12;have hlen:(l1++l2).length+1=(left ops kk listed).length:=by rw [hl12];simp;omega
    have hls:(listed.setIfInBounds i true).size=ops.size:=by simpa using hi.size
    have hPI:=hc.all i o hik ho
    have ahead:∀(x:NO') (t:Nat),x∈PI→x.2.dst=some t→t∈o.looksAt ops→(aQ ops i x.1=true∨aQ ops x.1 i=true∨i=x.1):=fun x t hx hxt ht=>by
      have hg:=hc.get x hx;exact hc.look i x.1 t hik (hc.lt x hx) (by rw [aZ hg,hxt]) (by unfold br;rw [ho];simpa using ht)
    rw [hi.pi]at hPI;cases hir:rs.contains i with
    |false =>
      have hdn:(i,o)∈dn:=by
        rcases List.mem_append.1 hPI with h|h
        · exact h
        · exfalso
          rcases hi.fin with⟨hr,_⟩|⟨i',o',r,hr,hrs,_⟩
          · rw [hr]at h;cases h
          · rw [hr]at h
            rcases List.mem_cons.1 h with h|h
            · cases h
              rw [List.contains_iff_mem.2 (List.mem_of_getElem? hrs)]at hir;cases hir
            · obtain⟨a1,a2,ha⟩:=List.append_of_mem h
              have htop:=(hc.top (dn++(i',o')::a1) (i,o) a2 (by rw [hi.pi,hr,ha];simp)).2 hir (i',o') (by simp) (List.contains_iff_mem.2 (List.mem_of_getElem? hrs));have h1:=aB hi.closed him htop;have:=(hi.cnt s i' hrs).1 h1;omega
      obtain⟨k1,k2,hk⟩:=List.append_of_mem hdn;obtain⟨Hd,d,Fk,hHd,hd,hdn',hFk,hds⟩:=hi.v k1 i o k2 hk hir;have hPIk:PI=k1++(i,o)::(k2++rest):=by rw [hi.pi,hk];simp
      have hag:∀t,t∈o.looksAt ops→Fk t=zF ops listed G F0 t:=fun t ht=>by
        rw [hFk t];unfold zF
        have:bD k1 t=fg ops listed t:=by
          rw [Bool.eq_iff_iff,bN,dQ];constructor
          · rintro ⟨x,hx,hxt⟩
            have hxP:x∈PI:=by rw [hPIk];simp [hx]
            obtain⟨b1,b2,hb⟩:=List.append_of_mem hx;have htop:=(hc.top b1 x (b2++(i,o)::(k2++rest)) (by rw [hPIk,hb];simp)).1 (i,o) (by simp);refine⟨x.1,x.2,hc.get x hxP,?_,hxt⟩;rcases ahead x t hxP hxt ht with h|h|h
            · exact aB hi.closed him h
            · rw [htop.1]at h;cases h
            · exact absurd h.symm htop.2
          · rintro ⟨j,o',hj,hjl,hjt⟩
            have hjP:(j,o')∈PI:=by
              obtain⟨o2,h2⟩:=hi.lst j hjl;have h3:(j,o2)∈PI:=by rw [hi.pi];simp [h2]
              have hg:=hc.get _ h3;simp only at hg;rw [hj]at hg;obtain rfl:=Option.some.inj hg;exact h3
            have hne:j≠i:=fun e=>by rw [e]at hjl;rw [hun]at hjl;cases hjl
            rcases ahead (j,o') t hjP hjt ht with h|h|h
            · rw [hPIk]at hjP
              rcases List.mem_append.1 hjP with h'|h'
              · exact⟨_,h',hjt⟩
              · exfalso
                rcases List.mem_cons.1 h' with h'|h'
                · cases h';exact hne rfl
                · have:=((hc.top k1 (i,o) (k2++rest) hPIk).1 (j,o') h').1
                  simp only at this h;rw [this]at h;cases h
            · exfalso
              have:=sf hi.closed hjl h;rw [hun]at this;cases this
            · exact absurd h.symm hne
        rw [this]
      have hds':=hds.frame hag;obtain⟨hdef,hn,m,h1,h2,h3,h4,h5⟩:=hst
      have key:∀v m' w',(G d).p m' v→aU m' w'→HOk m' w' (E++Hc)→Rel (keys (E++Hc)) m w m' w'→wpAny P .any ops Q' fuel (listed.setIfInBounds i true) (a.put (some d) v) w':=by
       intro v m' w' hv' hm' hH' r;refine ih s _ _ _ dn rest G E (by rw [hset];omega) ⟨hi.pi,hi.v,hi.out,hi.fin,fun x hx hxr=>(cP hi.size hio).2 (.inl (hi.don x hx hxr)),fun j hj=>?_,hls,hi.closed.step him,fun u k hk'=>?_⟩ ?_
       · rcases(cP hi.size hio).1 hj with h|rfl
         · exact hi.lst j h
         · exact⟨o,hdn⟩
       · rw [cP hi.size hio,hi.cnt u k hk']
         refine⟨fun h=>h.elim id fun e=>?_, .inl⟩;rw [←e,List.contains_iff_mem.2 (List.mem_of_getElem? hk')]at hir;cases hir
       · have hz:zF ops (listed.setIfInBounds i true) G F0=upd (zF ops listed G F0) d (G d):=by
           funext t
           unfold zF;rw [jI hi.size ho,hd];by_cases ht:t=d
           · subst ht;rw [aF];simp
           · rw [av ht]
             have:(some d==some t)=false:=by simpa using fun e=>ht e.symm
             rw [this,Bool.or_false]
         rw [hz];exact St.put (Nat.blt_eq.mp hdn') hdef hn h2 h3 h4 h5 hv' hm' hH' r
      rcases hHd with rfl|⟨-,rfl⟩
      · exact hds'.wp ho hd hn h1 h2.tail h5 fun v m' w' hv' hm' hH' r=>key v m' w' hv' hm' (h2.beside hH' r) (r.mono fun b hb=>by unfold keys at *;rw [List.map_append];exact List.mem_append_right _ hb)
      · exact hds'.wp ho hd hn h1 h2 h5 key
    |true =>
      obtain⟨u,hu⟩:=List.mem_iff_getElem?.1 (List.contains_iff_mem.1 hir);have hus:¬u<s:=fun h=>by have:=(hi.cnt u i hu).2 h;rw [hun]at this;cases this
      have hndn:∀o',(i,o')∉dn:=fun o' h=>by have:=hi.don _ h hir;simp only at this;rw [hun]at this;cases this
      have hrest:(i,o)∈rest:=by
        rcases List.mem_append.1 hPI with h|h
        · exact absurd h (hndn o)
        · exact h
      rcases hi.fin with⟨hr,_⟩|⟨i',o',r,hr,hrs,Post,hts,hnext⟩
      · rw [hr]at hrest;cases hrest
      have hii:i'=i:=by
        have hsu:u=s:=by
          rcases Nat.lt_trichotomy u s with h|h|h
          · exact absurd h hus
          · exact h
          · exfalso
            have h2:=((hc.row u i hu).2 s i' h hrs).1;have h3:=aB hi.closed him h2;have:=(hi.cnt s i' hrs).1 h3;omega
        subst hsu;rw [hu]at hrs;exact(Option.some.inj hrs).symm
      subst hii
      have hoo:o'=o:=by
        have hg:=hc.get (i',o') (by rw [hi.pi,hr];simp);simp only at hg;rw [ho]at hg;exact(Option.some.inj hg).symm
      subst hoo;have hPIk:PI=dn++(i',o')::r:=by rw [hi.pi,hr]
      have hag:∀t,t∈o'.looksAt ops→G t=zF ops listed G F0 t:=fun t ht=>by
        unfold zF;split
        · rfl
        · rename_i hb
          refine hi.out t ?_;cases hd:bD dn t with
          |false=>rfl
          |true =>
            exfalso;obtain⟨x,hx,hxt⟩:=bN.1 hd;have hxP:x∈PI:=by rw [hPIk];simp [hx]
            obtain⟨b1,b2,hb'⟩:=List.append_of_mem hx;have htop:=(hc.top b1 x (b2++(i',o')::r) (by rw [hPIk,hb'];simp)).1 (i',o') (by simp);rcases ahead x t hxP hxt ht with h|h|h
            · exact hb (dQ.2 ⟨x.1,x.2,hc.get x hxP,aB hi.closed him h,hxt⟩)
            · rw [htop.1]at h;cases h
            · exact absurd h.symm htop.2
      refine hts _ hag a w hst Q' _ hpan fun sv H' hP a' w' hst'=>?_
      obtain⟨E',rfl,hP⟩:=hP;have hd1:=hc.dst1
      have hdr:w8 r:=fun l1 x l2 t he hd=>by
        have:=hd1 (dn++(i',o')::l1) x l2 t (by rw [hPIk,he];simp) hd;rw [bV,bU,Bool.or_eq_false_iff,Bool.or_eq_false_iff]at this;exact⟨this.1.2.2,this.2⟩
      obtain⟨pre,rest',G',hpr,g1,g2,g3,g4⟩:=(hnext sv E' hP).walk hdr;have hPI2:PI=(dn++(i',o')::pre)++rest':=by rw [hPIk,hpr];simp
      have hGd:∀t,bD dn t=true→G' t=G t:=fun t ht=>by
        obtain⟨x,hx,hxt⟩:=bN.1 ht;obtain⟨b1,b2,hb'⟩:=List.append_of_mem hx;have:=(hd1 b1 x (b2++(i',o')::r) t (by rw [hPIk,hb'];simp) hxt).2;rw [hpr,bV,bU,bV,Bool.or_eq_false_iff,Bool.or_eq_false_iff,Bool.or_eq_false_iff]at this;obtain⟨_,q1,q2,_⟩:=this;rw [g3 t q2];unfold dB;cases hod:o'.dst with
        |none=>rfl
        |some d=>exact av fun e=>by rw [hod,e]at q1;simp at q1
      have hGo:∀d,o'.dst=some d→G' d=sv:=fun d hd=>by
        have:=(hd1 dn (i',o') r d hPIk hd).2;rw [hpr,bV,Bool.or_eq_false_iff]at this;rw [g3 d this.1];unfold dB;rw [hd];exact aF
      have hG0:∀t,bD dn t=false→o'.dst≠some t→bD pre t=false→G' t=F0 t:=fun t h1 h2 h3=>by
        rw [g3 t h3];unfold dB;cases hod:o'.dst with
        |none=>exact hi.out t h1
        |some d =>
          simp only;rw [av fun e=>h2 (by rw [hod,e])];exact hi.out t h1
      refine ih (s+1) _ _ _ (dn++(i',o')::pre) rest' G' E' (by rw [hset];omega) ⟨hPI2,fun l1' j oj l2' he hj=>?_,fun t ht=>?_,g4,fun x hx hxr=>?_,fun j hj=>?_,hls,hi.closed.step him,fun u' k hk'=>?_⟩ ?_
      · -- what is known of the free ones
        rcases List.append_eq_append_iff.1 he with⟨c,hc1,hc2⟩|⟨c,hc1,hc2⟩
        · -- (i',o')::pre=c++(j,oj)::l2'
          cases c with
          |nil =>
            simp only [List.nil_append,List.cons.injEq,Prod.mk.injEq]at hc2;obtain⟨⟨rfl,_⟩,_⟩:=hc2;rw [hir]at hj;cases hj
          |cons x c =>
            simp only [List.cons_append,List.cons.injEq]at hc2;obtain⟨rfl,hc2⟩:=hc2;obtain⟨Hd,d',Fk,k0,k1,k2,k3,k4⟩:=g2 c j oj l2' hc2;refine⟨Hd,d',Fk,k0,k1,k2,fun t=>?_,k4⟩;rw [k3 t,hc1,bV,bU];by_cases ht1:bD c t=true
            · rw [ht1];simp
            · rw [Bool.not_eq_true]at ht1
              rw [ht1];simp only [Bool.false_eq_true,if_false,Bool.or_false];unfold dB;cases hod:o'.dst with
              |none =>
                simp only [Bool.or_eq_true];by_cases hdt:bD dn t=true
                · rw [if_pos (.inl hdt),hGd t hdt]
                · rw [if_neg (by rintro (h|h);exact hdt h;simp at h)]
                  exact hi.out t (by simpa using hdt)
              |some d =>
                simp only [Bool.or_eq_true,beq_iff_eq,Option.some.injEq];by_cases htd:t=d
                · subst htd
                  rw [if_pos (.inr rfl),aF,hGo _ hod]
                · rw [av htd]
                  by_cases hdt:bD dn t=true
                  · rw [if_pos (.inl hdt),hGd t hdt]
                  · rw [if_neg (by rintro (h|h);exact hdt h;exact htd h.symm)]
                    exact hi.out t (by simpa using hdt)
        · cases c with
          |nil =>
            simp only [List.nil_append,List.cons.injEq,Prod.mk.injEq]at hc2;obtain⟨⟨rfl,_⟩,_⟩:=hc2;rw [hir]at hj;cases hj
          |cons x c =>
            simp only [List.cons_append,List.cons.injEq]at hc2;obtain⟨rfl,_⟩:=hc2;obtain⟨Hd,d',Fk,k0,k1,k2,k3,k4⟩:=hi.v l1' j oj c hc1 hj;have k0':Hd=Hc:=k0.resolve_right fun h=>by have:=(List.getElem?_eq_some_iff.1 hrs).1;omega
            have hG'd:G' d'=G d':=hGd d' (bN.2 ⟨(j,oj),by rw [hc1];simp,k1⟩);refine⟨Hd,d',Fk, .inl k0',k1,k2,fun t=>?_,hG'd▸k4⟩;rw [k3 t];by_cases ht:bD l1' t=true
            · rw [if_pos ht,if_pos ht,hGd t (by rw [hc1,bV,ht];rfl)]
            · rw [if_neg ht,if_neg ht]
      · rw [bV,bU,Bool.or_eq_false_iff,Bool.or_eq_false_iff]at ht
        exact hG0 t ht.1 (fun e=>by rw [e]at ht;simp at ht) ht.2.2
      · rcases List.mem_append.1 hx with h|h
        · exact(cP hi.size hio).2 (.inl (hi.don x h hxr))
        · rcases List.mem_cons.1 h with rfl|h
          · exact(cP hi.size hio).2 (.inr rfl)
          · rw [g1 x h]at hxr;cases hxr
      · rcases(cP hi.size hio).1 hj with h|rfl
        · obtain⟨oj,h⟩:=hi.lst j h
          exact⟨oj,by simp [h]⟩
        · exact⟨o',by simp⟩
      · rw [cP hi.size hio,hi.cnt u' k hk']
        constructor
        · rintro (h|rfl)
          · omega
          · rcases Nat.lt_trichotomy u' s with h|h|h
            · omega
            · omega
            · exact absurd rfl (((hc.row u' k hk').2 s k h hrs).2)
        · intro h
          rcases Nat.lt_or_ge u' s with h'|h'
          · exact .inl h'
          · have:u'=s:=by omega
            subst this;rw [hrs]at hk';exact .inr (Option.some.inj hk').symm
      · refine hst'.le fun t=>Le.of_eq ?_
        unfold dB zF;rw [jI hi.size ho]
        have hlG:fg ops listed t=true→G' t=G t:=fun h=>by
          obtain⟨j,oj,hj,hjl,hjt⟩:=dQ.1 h;obtain⟨oj',hoj'⟩:=hi.lst j hjl;have hg:=hc.get (j,oj') (by rw [hi.pi];simp [hoj']);simp only at hg;rw [hj]at hg;obtain rfl:=Option.some.inj hg;exact hGd t (bN.2 ⟨_,hoj',hjt⟩)
        cases hod:o'.dst with
        |none =>
          simp only [Bool.or_eq_true];by_cases h:fg ops listed t=true
          · rw [if_pos h,if_pos (.inl h),hlG h]
          · rw [if_neg h,if_neg (by rintro (h'|h');exact h h';simp at h')]
        |some d =>
          simp only [Bool.or_eq_true,beq_iff_eq,Option.some.injEq];by_cases htd:t=d
          · subst htd
            rw [if_pos (.inr rfl),aF,hGo _ hod]
          · rw [av htd]
            by_cases h:fg ops listed t=true
            · rw [if_pos h,if_pos (.inl h),hlG h]
            · rw [if_neg h,if_neg (by rintro (h'|h');exact h h';exact htd h'.symm)]
attribute [local semireducible] WP WPL Dk PuH
theorem WdZ {id:Nat}{l:List Oper}(kk:Nat) (pi rs:List Nat) (E Hc:LH) (h:Mz P C n l.toArray rs Hc (fun F H=>WPL P C n l.toArray (l.drop kk) (fun F H=>Q .normal F H) F H) 0 (pk l pi) F E) (h0:H=E++Hc:=by exact rfl) (hm:P.follows .mixedOrders=true:=by kernel_rfl) (hchk:zOk l.toArray kk rs pi=true:=by decide +kernel) :
  WP P C n (.region id l.toArray true) Q F H:=by
 intro a w hs;subst h0;have hc:=Do hchk;obtain⟨pre,rest,G,hpr,g1,g2,g3,g4⟩:=h.walk hc.dst1
 have hrep:∀j,(Array.replicate l.toArray.size false).getD j false=false:=fun j=>by
  by_cases hj:j<l.length <;> simp [hj]
 refine wp_mono (Q:=g8 C n (fun e F H=>e = .normal∧Q .normal F H)) (wp_region_any hm ?_) (fun e a w h=>h.imp (fun⟨F,H,hs,he,hq⟩=>⟨F,H,hs,he▸hq⟩) fun h=>h);refine LG (K:=fun F H=>WPL P C n l.toArray (l.drop kk) (fun F H=>Q .normal F H) F H) (Hc:=Hc) (E:=E) (F0:=F) (s:=0) hc (fun ch _ _ hp => .inr ⟨ch,rfl,hp⟩) (fun G E a w hK hst=>?_) l.toArray.size _ a _ pre rest G ?_ ⟨hpr,fun l1 i o l2 he _=>g2 l1 i o l2 he,g3,g4,fun x hx hxr=>?_,fun j hj=>?_,by simp,fun m j hm=>?_,fun u k _=>?_⟩ ?_
 ·exact hK a w hst _ ⟨fun a2 w2 F2 H2 hs2 hq => .mk hs2 ⟨rfl,hq⟩,fun ch _ _ hp => .inr ⟨ch,rfl,hp⟩⟩
 ·have hk:=hc.hk
  have:(left l.toArray kk (Array.replicate l.toArray.size false)).length≤kk:=by
   unfold left;refine Nat.le_trans (List.length_filter_le _ _) ?_;simp;omega
  omega
 ·rw [g1 x hx]at hxr;cases hxr
 ·rw [hrep j]at hj;cases hj
 ·rw [hrep m]at hm;cases hm
 ·rw [hrep k];exact⟨fun h=>(by cases h),fun h=>om⟩
 ·obtain⟨hdef,hn,m,h1,h2,h3,h4,h5⟩:=hs;refine⟨hdef,hn,m,⟨h1.at',h1.base⟩,⟨h2.1,h2.2⟩,h3.drw,h4,fun t=>?_⟩
  have:fg l.toArray (Array.replicate l.toArray.size false) t=false:=by
   cases hb:fg l.toArray (Array.replicate l.toArray.size false) t with
   |false=>rfl
   |true =>
    obtain⟨j,_,_,hj,_⟩:=dQ.1 hb;rw [hrep j]at hj;cases hj
  unfold zF;rw [this];exact h5 t
section
variable {s i d:Nat}{r:List NO'}{E:LH}{ty:TypeId}{pos:String}{aft:Array Edge}
theorem ZkN (h:K F (E++Hc)):Mz P C n ops rs Hc K s [] F E := .nil h
def frB (rs:List Nat):List NO'→Bool
 | []=>true
 |x::r => !rs.contains x.1&&frB rs r
def mkZ (P:Program) (C:Ctx) (n:Nat) (ops:Array Oper) (rs:List Nat) (Hc:LH) (K:Fr→LH→Prop) (s:Nat) (r:List NO') (E:LH):List NW→Fr→Prop:=fun N F=>N=[]∧Mz P C n ops rs Hc K s r F E
theorem Ct (h:Mz P C n ops rs Hc K s r F E):mkZ P C n ops rs Hc K s r E [] F:=⟨rfl,h⟩
theorem Dr.mz {r:List NO'}:∀{L:List NO'}{F F':Fr},frB rs L=true→Dr P ops n Hc L [] F F'→Mz P C n ops rs Hc K s r F' E→Mz P C n ops rs Hc K s (L++r) F E
 | [],_,_,_,h,hx=>by cases h;exact hx
 |(i,o)::L,F,F',hf,h,hx=>by
  simp only [frB,Bool.and_eq_true,Bool.not_eq_true']at hf;cases h with
  |val hd hds hdn h=>exact .free hf.1 hd hdn hds (Dr.mz hf.2 h hx)
theorem ZkD {L:List NO'}(k:Nat) (h:Dk P ops n Hc (L.take k) (mkZ P C n ops rs Hc K s (L.drop k) E) F) (hf:frB rs (L.take k)=true:=by exact rfl):Mz P C n ops rs Hc K s L F E:=by
 obtain⟨N,F',h1,rfl,hx⟩:=h;have:=Dr.mz hf h1 hx;rwa [List.take_append_drop]at this
theorem TZ.of {o:Oper}{Fe:Fr}{Post:SV→LH→Prop}(ho:ops[i]? = some o) (hg:o.guard=none) (h:∀F:Fr,(∀t,t∈o.looksAt ops→Fe t=F t)→WPL P C n ops [o] (fun F' H'=>∃sv,Post sv H'∧F'=dB o F sv) F H):TZ P C n ops i o Fe H Post:=by
 obtain⟨od,oop,oty,opos,oaft,og⟩:=o;simp only at hg;subst hg;intro F hF a w hst Q' K' hpan hK;have h':=h F hF a w hst (fun e a' w'=>match e with| .normal=>K' a' w'| .panic ch=>Q' (.panic ch) a' w'|_=>False) ⟨fun a' w' F' H' hst' hKK=>?_,fun ch a' w' hp=>hpan ch a' w' hp⟩
 ·unfold wpOp;rw [ho];unfold wpList at h';simp only [Region.wanted,if_true]at h'⊢;left;rcases h' with h'|⟨_,a0,w0,h0⟩
  ·exact qB h' (fun _ _ _ h=>h) (fun _ _ h=>h.elim)
  ·exact h0.elim
 ·obtain⟨sv,hP,rfl⟩:=hKK;exact hK sv H' hP a' w' hst'
theorem PuH.leA {f:FuncId}{svs svs':List SV}{Hin:LH}{R X:SV→LH→Prop}(h:PuH P f svs Hin R X) (hle:LeL svs' svs):PuH P f svs' Hin R X :=
 ⟨h.1,fun m w vs h1 h2 h3=>h.2 m w vs h1 h2 (h3.le hle)⟩
theorem ZkA {T e:TypeId}{sz by_:Nat}{z:List SV}{g:Bool} [hS:TSl P T e] [hT:TY P e sz by_ z g]{x y:Operand}{n0:Nat}{cs ds:List SV}{so:SV}{Hs Er:LH}
  (hown:Own e sz n0 cs so Hs) (hs:Tk E Hs Er) (hl:n0≤1000000000) (k:∀s' H',Own e sz (n0+1) (cs++ds) s' H'→Mz P C n ops rs Hc K (s+1) r (upd F d s') (H'++Er))
  (hx:ev F x=so:=by exact rfl) (hy:ev F y=sl ds 1:=by exact rfl) (hds:ds.length=sz:=by exact rfl) (hpos:0<sz:=by decide) (hby:by_≤10000:=by decide)
  (ho:ops[i]? = some ⟨some d, .call ⟨.builtin .append,#[x,y],#[T,T]⟩,ty,pos,aft,none⟩:=by exact rfl) (hr:rs[s]? = some i:=by exact rfl) (hd:Nat.blt d n=true:=by exact rfl) :
  Mz P C n ops rs Hc K s ((i,⟨some d, .call ⟨.builtin .append,#[x,y],#[T,T]⟩,ty,pos,aft,none⟩)::r) F E:=by
 refine .row (Post:=fun sv E'=>∃H',Own e sz (n0+1) (cs++ds) sv H'∧E'=H'++Er) hr (TZ.of ho rfl fun F1 hF1=>?_) fun sv E' hP=>?_
 ·have hx1:ev F1 x=so:=by rw [←hx];exact(dz (by simp [Op.operands,Call.operands]) hF1)
  have hy1:ev F1 y=sl ds 1:=by rw [←hy];exact(dz (by simp [Op.operands,Call.operands]) hF1)
  refine WPL.perm ((hs.perm.append_right Hc).trans (List.Perm.of_eq (List.append_assoc _ _ _))) ?_;exact .appOwnS hown hx1 hy1 (Spl.app _ _) hds hpos hl hby (fun s' H' hO=>WPL.nil ⟨s',⟨H'++Er,(List.append_assoc _ _ _).symm,H',hO,rfl⟩,rfl⟩) hd
 ·obtain⟨H',hR,rfl⟩:=hP;exact k sv H' hR
end
end
section
variable {F:Fr}{H:LH}{ty:TypeId}
end
section
variable {P:Program}{F:Fr}{H:LH}{ty:TypeId}
end
theorem sn:∀t:Tr,fj t≤1000000→Pu Tryz.prog 151 [bt t] (lit (.int .i64 (fj t:Nat)))
 | .leaf i,_=>by
  have d1:=iZ i;show Pu _ _ _ (lit (.int .i64 (0:Nat)))
  refine Pi Tryz.func151 fun C=>?_
  exact Y1 d1
 | .node l a b,h=>by
  simp only [fj]at h;have c1:=sn a om;have c2:=sn b om;have d1:=iY l a b;show Pu _ _ _ (lit (.int .i64 (1+max (fj a) (fj b):Nat)))
  generalize fj a=x at *;generalize fj b=y at *;simp only [bt,mg]at d1⊢;refine Pi Tryz.func151 fun C=>?_
  repeat(first|(refine A1 ⟨?_⟩;intros)|refine W4 d1 ⟨?_⟩|refine W4 c1 ⟨?_⟩|refine W4 c2 ⟨?_⟩)
  refine Wdo (zd rfl rfl (r:=((max x y:Nat):Int)) (by split <;> omega)) ?_;repeat(refine A1 ⟨?_⟩;intros)
  ((first|refine aS ?_|refine eV ?_);refine aJ (RV.tmp rfl) (Le.int ?_))
  all_goals omega
section
variable {P:Program}{C:Ctx}{n:Nat}{F:Fr}{ops:Array Oper}{rs:List Nat}{Hc:LH}{K:Fr→LH→Prop}{s i d:Nat}{r:List NO'}{E:LH}{ty:TypeId}{pos:String}{aft:Array Edge}
end
end Go.Ab
