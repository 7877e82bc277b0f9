/- Texts laid one behind the other: TcF, PAll, RSrt. -/
import Derived.Test.YtncbhpffccggcaaGreatDoorB28
set_option linter.all false
set_option maxHeartbeats 16000000
namespace Go.Ab
open Go.Proofs
variable [Base]
abbrev CG:TypeId:=77
def be (l:Pts) (i:Nat):Bool:=inB l i&&decide (cP l i=i)
def CP (l:Pts) (i:Nat) (b:Bool) (k:Nat):Bool:=if inB l k&&decide (cP l k=i)then b&&oY (clB l k)else b
def df (l:Pts) (i:Nat):Bool:=(List.range l.length).foldl (CP l i) true
def cl (l:Pts) (t:Tr) (i:Nat):Tr:=aa (gD (fun k=>decide (cP l k=i)) t 0) []
def gO (l:Pts) (t:Tr):List (Tr×Bool):=((List.range l.length).filter (be l)).map fun i=>(cl l t i,df l i)
abbrev cpx (c:Tr×Bool):List SV:=[bt c.1,lit (.bool c.2)]
theorem Ba (c:Tr×Bool):(cpx c).length=2:=rfl
abbrev cps (l:List (Tr×Bool)):SV:=sl (l.map cpx).flatten l.length
theorem qL {p:Li→Prop}{keep:Nat→Bool}:∀{t:Tr}{k:Nat},t.all p→(gD keep t k).all p
 | .leaf _,_,_=>trivial
 | .node _ _ _,_,h=>⟨h.1,qL h.2.1,qL h.2.2⟩
theorem qJ {keep:Nat→Bool}:∀{t:Tr}{k:Nat},t.lok→(gD keep t k).lok
 | .leaf _,_,_=>trivial
 | .node _ _ _,_,h=>⟨h.1,qJ h.2.1,qJ h.2.2⟩
theorem qK {keep:Nat→Bool}:∀(t:Tr) (k:Nat),br (gD keep t k)=br t
 | .leaf _,_=>rfl
 | .node _ a b,k=>by simp only [gD,br,qK a,qK b]
structure KS (L:Nat) (l:Pts):Prop where
 l1:1≤L
 l2:L≤500
 c:∀x∈l,(∀s∈x.1,lS L s)∧x.1.length≤100000
 n:l.length≤1000000
structure JK where
 k:Nat
 p:Nat→Nat
structure KX where
 k:Nat
 p:Nat→Nat
 s:SV
 Hs:LH
theorem rf (x y z:Nat×TypeId×List SV) (A B:LH):(x::y::z::(A++B)).Perm (A++(x::y::z::B)):=by
 have:=(List.perm_append_comm (l₁:=[x,y,z]) (l₂:=A)).append_right B;simpa using this
theorem yS (x y z u v:Nat×TypeId×List SV) (A B:LH):(x::y::z::u::v::(A++B)).Perm (A++(x::y::z::u::v::B)):=by
 have:=(List.perm_append_comm (l₁:=[x,y,z,u,v]) (l₂:=A)).append_right B;simpa using this
theorem J7 (x y:Nat×TypeId×List SV) (A B:LH):(x::y::(A++B)).Perm (A++(x::y::B)):=by
 have:=(List.perm_append_comm (l₁:=[x,y]) (l₂:=A)).append_right B;simpa using this
theorem DZ (x y z u:Nat×TypeId×List SV) (A B:LH):(x::y::z::u::(A++B)).Perm ((A++[u,z])++(x::y::B)):=by
 have h1:[x,y,z,u].Perm [u,z,x,y]:=(List.perm_append_comm (l₁:=[x,y]) (l₂:=[z,u])).trans (List.Perm.swap _ _ _);have h2:=((h1.append_right A).trans List.perm_append_comm).append_right B;simpa using h2
theorem E0 (x y z u:Nat×TypeId×List SV) (A B:LH):(B++(x::y::(A++[u,z]))).Perm (x::y::z::u::(A++B)):=by
 have h1:[x,y,z,u].Perm [x,y,u,z]:=(List.Perm.swap _ _ _).cons _ |>.cons _
 have h2:(x::y::(A++[u,z])).Perm ([x,y,z,u]++A):=by
  have e:(x::y::(A++[u,z])).Perm ([x,y]++([u,z]++A)):=(List.perm_append_comm (l₁:=A) (l₂:=[u,z])).cons y |>.cons x
  refine e.trans ?_;have:=h1.symm.append_right A;simpa using this
 have h3:=(h2.append_left B).trans List.perm_append_comm;simpa using h3
def fk (l:Pts) (t:Tr) (k:Nat):List (Tr×Bool):=((List.range k).filter (be l)).map fun i=>(cl l t i,df l i)
theorem vN (l:Pts) (t:Tr) (k:Nat):fk l t (k+1)=if be l k then fk l t k++[(cl l t k,df l k)]else fk l t k:=by
 unfold fk;rw [List.range_succ,List.filter_append,List.map_append];by_cases h:be l k=true
 ·rw [if_pos h,List.filter_cons_of_pos h];rfl
 ·rw [if_neg h,List.filter_cons_of_neg h,List.filter_nil,List.map_nil,List.append_nil]
theorem xS (l:Pts) (t:Tr) (k:Nat):(fk l t k).length≤k:=by
 unfold fk;rw [List.length_map];exact Nat.le_trans (List.length_filter_le _ _) (by simp)
theorem GK {l:List (Tr×Bool)}{c:Tr×Bool}{s:SV}{H:LH}(h:Own CG 2 (l.length+1) ((l.map cpx).flatten++cpx c) s H):Own CG 2 (l++[c]).length ((l++[c]).map cpx).flatten s H:=by
 rw [List.map_append,List.flatten_append,List.length_append];simpa using h
theorem vA {l:Pts}{k:Nat}{c:PC}{i:Bool}(h:l[k]? = some (c,i)):inB l k=i∧clB l k=c:=by
 unfold inB clB;rw [List.getD,h];exact⟨rfl,rfl⟩
theorem FB {L:Nat}{t:Tr}{l:Pts}{n:Nat}(hl:l=a8 t []) (hnl:n=l.length) (h:KS L l) (hall:t.all fun m=>m.le L) (hlok:t.lok) (hd:br t≤90000) (hlv:aV t=n):Pu Tryz.prog 31 [bt t] (cps (gO l t)):=by
 have cp:=CM h.l1 h.l2 t hall om (by have:=h.n;omega);rw [←hl]at cp;have hn:=h.n;rw [←hnl]at hn;clear hl;refine Pi Tryz.func31 fun C=>?_
 repeat(first|(refine A1 ⟨?_⟩;intros)|refine W4 cp ⟨?_⟩)
 refine WPL.make (k:=n) (by rw [hnl];rfl) (by rw [hnl];rfl) om om rfl (fun b5=>?_);rw [E3];repeat(refine A1 ⟨?_⟩;intros)
 rename_i b4
 refine WP.loopS (ι:=Nat) (fun k=>k≤n) (fun k=>n-k)
  (fun k=>fm [(0,bt t),(3,pls l),(4,lit (.pointer (some ⟨b4,0,none⟩))),(25,lit (.int .i64 n)),(26,lit (.int .i64 k))]) (fun k=>cJ b4 b5 n (idK k)) 0 (Nat.zero_le _) lfA Sr ?_
 rintro k hk K hK;by_cases hkl:k<n
 ·as_aux_lemma =>
  have hgo:=fun F' H'=>hK F' H' (k+1) om om
  have hs:=uO (n:=n) (p:=idK k) (v:=k) hkl;rw [HV]at hs;have hb:=uP (p:=idK k) hkl;clear hK cp;repeat(refine A1 ⟨?_⟩;intros)
  refine WPL.store (b:=b5) (o:=k) (sv:=lit (.int .i64 ((k:Nat):Int))) rfl rfl rfl (.there _ (.here _)) hs hb ?_;repeat(refine A1 ⟨?_⟩;intros)
  exact hgo _ _ lfA Sr
 have hke:n=k:=by omega
 subst hke;clear hK hkl hk cp;refine WP.perm (H':=cJ b4 b5 n id) (List.Perm.of_eq (by show cJ b4 b5 n (idK n)=_;unfold cJ;rw [J8])) ?_;repeat(refine A1 ⟨?_⟩;intros)
 rename_i b6;refine Ss ?_;refine Ws (sv:=pu b4) ?_;repeat(refine A1 ⟨?_⟩;intros)
 have hlc:∀k,k<n→∃(c:PC) (i:Bool),l[k]? = some (c,i)∧(c,i)∈l∧(((l.map ptx).flatten).drop (k*2)).take 2=[pcs c,pt (bc (.leaf i))]∧(l.map ptx).flatten≠[]:=fun k hk=>by
  obtain⟨⟨c,i⟩,h1,h2,h3,h4⟩:=elt uK om (show k<l.length by omega);exact⟨c,i,h1,h2,h3,h4⟩
 refine WP.loopS (ι:=JK) (fun y=>y.k≤n∧bJ y.p∧∀j,rep y.p j=((List.range y.k).foldl (FD l) id) j) (fun y=>n-y.k)
  (fun y=>fm [(0,bt t),(3,pls l),(4,lit (.pointer (some ⟨b4,0,none⟩))),(6,lit (.pointer (some ⟨b6,0,none⟩))),(35,pls l),(36,lit (.int .i64 n)),(37,lit (.int .i64 ((y.k:Nat):Int)))])
  (fun y=>(b6,fiT,[pu b4])::cJ b4 b5 n y.p) ⟨0,id⟩ ⟨Nat.zero_le _,Co,fun j=>IZ j⟩ (LeF.cons Lr (LeF.cons Lr (LeF.cons Lr (LeF.cons Lr (LeF.cons Lr (LeF.cons (Le.of_eq (by rw [hnl];rfl)) lfA)))))) Sr ?_
 rintro ⟨k,p⟩ ⟨hk,hp,hg⟩ K hK;simp only at hk hp hg⊢;by_cases hkl:k<n
 ·as_aux_lemma =>
  obtain⟨cx,xi,hgx,hmx,hatx,hnex⟩:=hlc k hkl;have hgo:=fun p' (h1:bJ p') (h2:∀j,rep p' j=((List.range (k+1)).foldl (FD l) id) j) F' H'=>hK F' H' ⟨k+1,p'⟩ ⟨by simp only;omega,h1,h2⟩ (by simp only;omega)
  simp only [qV]at hgo;generalize hG:(List.range k).foldl (FD l) id=G at *;have hgf:∀j,G j≤j:=fun j=>by rw [←hg];exact yF hp j
  clear hK;rw [eB]at hatx;repeat(refine A1 ⟨?_⟩;intros)
  refine Wo (a7 (cs':=[pcs cx,pt [lit (.int .i64 0),lit (.int .i64 0),lit (.pointer none),lit (.int .i64 0),lit (.int .i64 0),lit (.pointer none),lit (.int .i64 0),lit (.int .i64 0),lit (.pointer none),lit (.pointer none),lit (.pointer none),lit (.bool xi)]]) rfl rfl om om hatx hnex) ?_;repeat(refine A1 ⟨?_⟩;intros)
  rename_i b8;refine Wo (E7 k rfl rfl rfl om) ?_;rw [oN uK];repeat(refine A1 ⟨?_⟩;intros)
  refine WP.loopS (ι:=JK) (fun y=>y.k≤k∧bJ y.p∧∀j,rep y.p j=((List.range y.k).foldl (zD l k) G) j) (fun y=>k-y.k)
   (fun y=>fm [(0,bt t),(3,pls l),(4,lit (.pointer (some ⟨b4,0,none⟩))),(6,lit (.pointer (some ⟨b6,0,none⟩))),(7,lit (.int .i64 k)),(8,lit (.pointer (some ⟨b8,0,none⟩))),(35,pls l),(36,lit (.int .i64 n)),(37,lit (.int .i64 ((k:Nat):Int))),(44,sl ((l.take k).map ptx).flatten k),(45,lit (.int .i64 k)),(46,lit (.int .i64 ((y.k:Nat):Int)))])
   (fun y=>(b8,lV,[pcs cx,pt [lit (.int .i64 0),lit (.int .i64 0),lit (.pointer none),lit (.int .i64 0),lit (.int .i64 0),lit (.pointer none),lit (.int .i64 0),lit (.int .i64 0),lit (.pointer none),lit (.pointer none),lit (.pointer none),lit (.bool xi)]])::(b6,fiT,[pu b4])::cJ b4 b5 n y.p) ⟨0,p⟩ ⟨Nat.zero_le _,hp,hg⟩ lfA Sr ?_
  clear hp hg;rintro ⟨j,p1⟩ ⟨hj,hp,hg⟩ K2 hK2;simp only at hj hp hg⊢;by_cases hjl:j<k
  ·obtain⟨⟨cy,yi⟩,hgy,hmy,haty,hney⟩:=elt (l:=l.take k) uK om (show j<(l.take k).length by rw [List.length_take];omega);rw [List.getElem?_take,if_pos hjl]at hgy;have hmy:=List.mem_of_getElem? hgy;rw [show ptx (cy,yi)=[pcs cy,pt (bc (.leaf yi))]from rfl,eB]at haty;have hgo2:=fun p' (h1:bJ p') (h2:∀i,rep p' i=((List.range (j+1)).foldl (zD l k) G) i) F' H'=>hK2 F' H' ⟨j+1,p'⟩ ⟨by simp only;omega,h1,h2⟩ (by simp only;omega)
   simp only [qV]at hgo2;generalize hJ:(List.range j).foldl (zD l k) G=J at *;have hjn:j<n:=by omega
   clear hK2 hgo;repeat(refine A1 ⟨?_⟩;intros)
   refine Wo (a7 (cs':=[pcs cy,pt [lit (.int .i64 0),lit (.int .i64 0),lit (.pointer none),lit (.int .i64 0),lit (.int .i64 0),lit (.pointer none),lit (.int .i64 0),lit (.int .i64 0),lit (.pointer none),lit (.pointer none),lit (.pointer none),lit (.bool yi)]]) rfl rfl om om haty hney) ?_;repeat(first|(refine AS ⟨?_⟩;intros)|(refine O1 ⟨?_⟩;intros))
   rename_i b10;refine WP.perm (rf _ _ _ (cJ b4 b5 n p1) []) ?_;refine WdZ 6 [0,1,3,4,2,5] [2,5] (cJ b4 b5 n p1) _ ?_;refine ZkD 4 ?_;repeat(refine A1 ⟨?_⟩;intros)
   refine j5 ?_;refine Ir (nP hp (show k<n by omega) hn b4 b5) (tk2 _ _) ?_;rintro _ _ ⟨rfl,p2,k1,k2,rfl⟩;simp only [List.append_nil];refine Ir (nP k1 hjn hn b4 b5) (tk2 _ _) ?_;rintro _ _ ⟨rfl,p3,k3,k4,rfl⟩;simp only [List.append_nil];refine ZkN ?_;refine WPL.perm (rf _ _ _ (cJ b4 b5 n p3) []).symm ?_;have hr3:∀i,rep p3 i=J i:=fun i=>by rw [k4,k2,hg]
   rw [hg k,k2,hg j];have hJk:J k<n:=by rw [←hg];have:=yF hp k;omega
   have hJj:J j<n:=by rw [←hg];have:=yF hp j;omega
   replace hgo2:=fun p' h1 h2=>hgo2 p' h1 h2
   have hin:=vA hgx;have hiy:=vA hgy;unfold zD jnB at hgo2;rw [hin.1,hin.2,hiy.1,hiy.2]at hgo2;have ct:=ym h.l1 h.l2 (h.c _ hmx).1 (h.c _ hmy).1 (h.c _ hmx).2 (h.c _ hmy).2;simp only at ct
   have hj1:J k≠J j→bJ (gC p3 (max (J k) (J j)) (min (J k) (J j)))∧∀i,rep (gC p3 (max (J k) (J j)) (min (J k) (J j))) i=pn J k j i:=fun hne=>⟨pm k3 _ _,fun i=>by
    have e:=xl k3 (i:=k) (k:=j) (by rw [hr3,hr3];exact hne);rw [hr3,hr3]at e;rw [e];unfold pn;rw [hr3,hr3,hr3]⟩
   clear hin hiy hgx hgy hmx hmy hatx hnex haty hney hG hJ hg k1 k2 k4 hp hgf;cases xi with
   |false =>
    simp only [Bool.false_and,Bool.false_eq_true,if_false]at hgo2;replace hgo2:=hgo2 p3 k3 hr3;clear ct hj1;repeat(refine A1 ⟨?_⟩;intros)
    exact hgo2 _ _ lfA (Sc Sr)
   |true =>
    cases yi with
    |false =>
     simp only [Bool.false_and,Bool.and_false,Bool.false_eq_true,if_false]at hgo2;replace hgo2:=hgo2 p3 k3 hr3;clear ct hj1;repeat(refine A1 ⟨?_⟩;intros)
     exact hgo2 _ _ lfA (Sc Sr)
    |true =>
     by_cases he:J k=J j
     ·simp only [he,ne_eq,not_true,decide_false,Bool.false_and,Bool.and_false,Bool.false_eq_true,if_false]at hgo2;replace hgo2:=hgo2 p3 k3 hr3;clear ct hj1;rw [he];repeat(refine A1 ⟨?_⟩;intros)
      exact hgo2 _ _ lfA (Sc Sr)
     ·cases ht:dE cx cy with
      |false =>
       simp only [ht,Bool.false_and,Bool.and_false,Bool.false_eq_true,if_false]at hgo2;replace hgo2:=hgo2 p3 k3 hr3;rw [ht]at ct;clear hj1;repeat(first|(refine A1 ⟨?_⟩;intros)|refine W4 ct ⟨?_⟩)
       exact hgo2 _ _ lfA (Sc Sr)
      |true =>
       have hde:decide (J k≠J j)=true:=decide_eq_true he;simp only [ht,hde,Bool.and_self,if_true]at hgo2;replace hgo2:=hgo2 _ (hj1 he).1 (hj1 he).2;rw [ht]at ct;clear hj1 hde;have hs:=uO (n:=n) (p:=p3) (i:=max (J k) (J j)) (v:=min (J k) (J j)) om;have hb:=uP (n:=n) (p:=p3) (i:=max (J k) (J j)) om;have e1:(if((J k:Nat):Int)<((J j:Nat):Int)then((J j:Nat):Int)else((J k:Nat):Int))=((max (J k) (J j):Nat):Int):=by split <;> omega
       have e2:(if((J j:Nat):Int)<((J k:Nat):Int)then((J j:Nat):Int)else((J k:Nat):Int))=((min (J k) (J j):Nat):Int):=by split <;> omega
       have hmx:max (J k) (J j)<n:=by omega
       generalize max (J k) (J j)=M at *;generalize min (J k) (J j)=m at *;repeat(first|(refine A1 ⟨?_⟩;intros)|refine W4 ct ⟨?_⟩)
       refine Wo (uX rfl rfl (r:=(M:Int)) e1) ?_;repeat(refine A1 ⟨?_⟩;intros)
       refine Wo (yU rfl rfl (r:=(m:Int)) e2) ?_;repeat(refine A1 ⟨?_⟩;intros)
       refine WPL.store (b:=b5) (o:=M) (sv:=lit (.int .i64 ((m:Nat):Int))) rfl rfl rfl (.there _ (.there _ (.there _ (.there _ (.here _))))) hs hb ?_;repeat(refine A1 ⟨?_⟩;intros)
       exact hgo2 _ _ lfA (Sc Sr)
  ·have hje:j=k:=by omega
   subst hje;replace hgo:=hgo p1 hp hg;clear hK2;repeat(refine A1 ⟨?_⟩;intros)
   exact hgo _ _ lfA (Sc Sr)
 ·have hke:k=n:=by omega
  subst hke;clear hK;replace hg:∀j,rep p j=cP l j:=fun j=>by rw [hg,hnl];rfl
  generalize hGe:cP l=G at *;refine WP.perm (H':=(b6,fiT,[pu b4])::(cJ b4 b5 k p++[])) (List.Perm.of_eq (by rw [List.append_nil])) ?_;rw [show gO l t=fk l t k by rw [hnl];rfl];have hcr:∀i,be l i=(inB l i&&decide (G i=i)):=fun i=>by unfold be;rw [hGe]
  have hbs:∀i,CP l i=fun b j=>if inB l j&&decide (G j=i)then b&&oY (clB l j)else b:=fun i=>by funext b j;unfold CP;rw [hGe]
  repeat(refine A1 ⟨?_⟩;intros)
  refine WP.loopS (ι:=KX) (fun y=>y.k≤k∧bJ y.p∧(∀j,rep y.p j=G j)∧Own CG 2 (fk l t y.k).length ((fk l t y.k).map cpx).flatten y.s y.Hs) (fun y=>k-y.k)
   (fun y=>fm [(0,bt t),(3,pls l),(4,lit (.pointer (some ⟨b4,0,none⟩))),(6,lit (.pointer (some ⟨b6,0,none⟩))),(13,y.s),(91,pls l),(92,lit (.int .i64 k)),(93,lit (.int .i64 ((y.k:Nat):Int)))])
   (fun y=>(b6,fiT,[pu b4])::(cJ b4 b5 k y.p++y.Hs)) ⟨0,p,lit (.slice none 0 0),[]⟩ ⟨Nat.zero_le _,hp,hg,Own.nil _ _⟩ (LeF.cons Lr (LeF.cons Lr (LeF.cons Lr (LeF.cons Lr (LeF.cons Lr (LeF.cons Lr (LeF.cons (Le.of_eq (by rw [hnl];rfl)) lfA))))))) Sr ?_
  clear hp hg;rintro ⟨i,p,so,Hs⟩ ⟨hi,hp,hg,hown⟩ K hK;simp only at hi hp hg hown⊢;by_cases hil:i<k
  ·obtain⟨cx,xi,hgx,hmx,hatx,hnex⟩:=hlc i hil;have hin:=vA hgx;have hgo:=fun p' so' Hs' (h1:bJ p') (h2:∀j,rep p' j=G j) (h3:Own CG 2 (fk l t (i+1)).length ((fk l t (i+1)).map cpx).flatten so' Hs') F' H'=>hK F' H' ⟨i+1,p',so',Hs'⟩ ⟨by simp only;omega,h1,h2,h3⟩ (by simp only;omega)
   simp only at hgo;rw [vN,hcr,hin.1]at hgo;have hle:=xS l t i;rw [eB]at hatx;clear hK hgx hmx;cases xi with
   |false =>
    as_aux_lemma =>
    rw [Bool.false_and,if_neg (by decide)]at hgo;replace hgo:=hgo p so Hs hp hg hown;repeat(refine A1 ⟨?_⟩;intros)
    refine Wo (a7 (cs':=[pcs cx,pt [lit (.int .i64 0),lit (.int .i64 0),lit (.pointer none),lit (.int .i64 0),lit (.int .i64 0),lit (.pointer none),lit (.int .i64 0),lit (.int .i64 0),lit (.pointer none),lit (.pointer none),lit (.pointer none),lit (.bool false)]]) rfl rfl om om hatx hnex) ?_;repeat(refine A1 ⟨?_⟩;intros)
    exact hgo _ _ lfA (Sc (Sc Sr))
   |true =>
    rw [Bool.true_and]at hgo;repeat(refine A1 ⟨?_⟩;intros)
    refine Wo (a7 (cs':=[pcs cx,pt [lit (.int .i64 0),lit (.int .i64 0),lit (.pointer none),lit (.int .i64 0),lit (.int .i64 0),lit (.pointer none),lit (.int .i64 0),lit (.int .i64 0),lit (.pointer none),lit (.pointer none),lit (.pointer none),lit (.bool true)]]) rfl rfl om om hatx hnex) ?_;repeat(first|(refine AS ⟨?_⟩;intros)|(refine O1 ⟨?_⟩;intros))
    rename_i b14 b15;refine WP.perm (rf _ _ _ (cJ b4 b5 k p) Hs) ?_;refine WdZ 13 [0,1,2,3,4,5,6,7,8,10,9,11,12] [9] (cJ b4 b5 k p) _ ?_;refine ZkD 10 ?_;repeat(refine A1 ⟨?_⟩;intros)
    refine j5 ?_;refine IJ (nP hp hil hn b4 b5) (tk2 _ _) ?_;rintro _ _ ⟨rfl,p1,k1,k2,rfl⟩;simp only [List.append_nil];rw [hg i];replace k2:∀j,rep p1 j=G j:=fun j=>by rw [k2,hg]
    clear hp hg p;by_cases hGi:G i=i
    ·rw [hGi];refine ZkD 2 ?_;repeat(refine A1 ⟨?_⟩;intros)
     refine j5 ?_;refine ZkN ?_;refine WPL.perm (rf _ _ _ (cJ b4 b5 k p1) Hs).symm ?_;repeat(refine A1 ⟨?_⟩;intros)
     rename_i b16
     refine WP.loopS (ι:=JK) (fun y=>y.k≤k∧bJ y.p∧∀j,rep y.p j=G j) (fun y=>k-y.k)
      (fun y=>fm [(0,bt t),(3,pls l),(4,lit (.pointer (some ⟨b4,0,none⟩))),(6,lit (.pointer (some ⟨b6,0,none⟩))),(13,so),(14,lit (.pointer (some ⟨b14,0,none⟩))),(16,lit (.pointer (some ⟨b16,0,none⟩))),(91,pls l),(92,lit (.int .i64 k)),(93,lit (.int .i64 ((i:Nat):Int))),(112,pls l),(113,lit (.int .i64 k)),(114,lit (.int .i64 ((y.k:Nat):Int)))])
      (fun y=>(b16,CG,[lit (.pointer none),lit (.bool ((List.range y.k).foldl (CP l i) true))])::(b15,lV,[pcs cx,pt [lit (.int .i64 0),lit (.int .i64 0),lit (.pointer none),lit (.int .i64 0),lit (.int .i64 0),lit (.pointer none),lit (.int .i64 0),lit (.int .i64 0),lit (.pointer none),lit (.pointer none),lit (.pointer none),lit (.bool true)]])::(b14,iT,[lit (.int .i64 ((i:Nat):Int))])::(b6,fiT,[pu b4])::(cJ b4 b5 k y.p++Hs)) ⟨0,p1⟩ ⟨Nat.zero_le _,k1,k2⟩ (LeF.cons Lr (LeF.cons Lr (LeF.cons Lr (LeF.cons Lr (LeF.cons Lr (LeF.cons Lr (LeF.cons Lr (LeF.cons Lr (LeF.cons Lr (LeF.cons Lr (LeF.cons Lr (LeF.cons (Le.of_eq (by rw [hnl];rfl)) lfA)))))))))))) Sr ?_
     clear k1 k2;rintro ⟨j,p1⟩ ⟨hj,k1,k2⟩ K2 hK2;simp only at hj k1 k2⊢;by_cases hjl:j<k
     ·obtain⟨cy,yi,hgy,hmy,haty,hney⟩:=hlc j hjl;have hiy:=vA hgy;have hgo2:=fun p' (h1:bJ p') (h2:∀i,rep p' i=G i) F' H'=>hK2 F' H' ⟨j+1,p'⟩ ⟨by simp only;omega,h1,h2⟩ (by simp only;omega)
      simp only [qV]at hgo2;generalize(List.range j).foldl (CP l i) true=B at *;rw [hbs]at hgo2;simp only [hiy.1,hiy.2]at hgo2;have cb:=xY cy (h.c _ hmy).2;rw [eB]at haty;clear hK2 hgo hgy hmy hown;cases yi with
      |false =>
       as_aux_lemma =>
       simp only [Bool.false_and,Bool.false_eq_true,if_false]at hgo2;replace hgo2:=hgo2 p1 k1 k2;repeat(refine A1 ⟨?_⟩;intros)
       refine Wo (a7 (cs':=[pcs cy,pt [lit (.int .i64 0),lit (.int .i64 0),lit (.pointer none),lit (.int .i64 0),lit (.int .i64 0),lit (.pointer none),lit (.int .i64 0),lit (.int .i64 0),lit (.pointer none),lit (.pointer none),lit (.pointer none),lit (.bool false)]]) rfl rfl om om haty hney) ?_;repeat(refine A1 ⟨?_⟩;intros)
       exact hgo2 _ _ lfA (Sc Sr)
      |true =>
       rw [Bool.true_and]at hgo2;repeat(refine A1 ⟨?_⟩;intros)
       refine Wo (a7 (cs':=[pcs cy,pt [lit (.int .i64 0),lit (.int .i64 0),lit (.pointer none),lit (.int .i64 0),lit (.int .i64 0),lit (.pointer none),lit (.int .i64 0),lit (.int .i64 0),lit (.pointer none),lit (.pointer none),lit (.pointer none),lit (.bool true)]]) rfl rfl om om haty hney) ?_;repeat(first|(refine AS ⟨?_⟩;intros)|(refine O1 ⟨?_⟩;intros))
       rename_i b18;refine WP.perm (yS _ _ _ _ _ (cJ b4 b5 k p1) Hs) ?_;refine WdZ 12 [0,1,2,3,4,5,6,7,9,8,10,11] [8] (cJ b4 b5 k p1) _ ?_;refine ZkD 9 ?_;repeat(refine A1 ⟨?_⟩;intros)
       refine j5 ?_;refine IJ (nP k1 hjl hn b4 b5) (tk2 _ _) ?_;rintro _ _ ⟨rfl,p2,m1,m2,rfl⟩;simp only [List.append_nil];rw [k2 j];replace m2:∀j,rep p2 j=G j:=fun j=>by rw [m2,k2]
       clear k1 k2 p1;by_cases hGj:G j=i
       ·simp only [hGj,decide_true,if_true]at hgo2;replace hgo2:=hgo2 p2 m1 m2;rw [hGj];refine ZkD 2 ?_;repeat(refine A1 ⟨?_⟩;intros)
        refine j5 ?_;refine ZkN ?_;refine WPL.perm (yS _ _ _ _ _ (cJ b4 b5 k p2) Hs).symm ?_;cases B with
        |false =>
         as_aux_lemma =>
         rw [Bool.false_and]at hgo2;repeat(refine A1 ⟨?_⟩;intros)
         exact hgo2 _ _ lfA (Sc Sr)
        |true =>
         as_aux_lemma =>
         rw [Bool.true_and]at hgo2;generalize oY cy=bb at *;repeat(first|(refine A1 ⟨?_⟩;intros)|refine W4 cb ⟨?_⟩)
         exact hgo2 _ _ lfA (Sc Sr)
       ·have hde:decide (G j=i)=false:=decide_eq_false hGj;simp only [hde,Bool.false_eq_true,if_false]at hgo2;replace hgo2:=hgo2 p2 m1 m2;refine ZkD 2 ?_;repeat(refine A1 ⟨?_⟩;intros)
        refine j5 ?_;refine ZkN ?_;refine WPL.perm (yS _ _ _ _ _ (cJ b4 b5 k p2) Hs).symm ?_;repeat(refine A1 ⟨?_⟩;intros)
        exact hgo2 _ _ lfA (Sc Sr)
     ·have hje:j=k:=by omega
      subst hje;clear hK2;have hbe:(List.range j).foldl (CP l i) true=df l i:=by rw [hnl];rfl
      rw [hbe];have hse:(fun x=>decide (rep p1 x=i))=fun x=>decide (cP l x=i):=funext fun x=>by rw [k2,hGe]
      have cs:=wn hn b4 b5 b6 b14 i t p1 k1 om;rw [hse]at cs;have cr:=mC h.l1 h.l2 (gD (fun x=>decide (cP l x=i)) t 0) (qL hall) (by rw [qK];omega);rw [lZ aj (qJ hlok)]at cr;have ect:aa (gD (fun x=>decide (cP l x=i)) t 0) []=cl l t i:=rfl;rw [ect]at cr;generalize gD (fun x=>decide (cP l x=i)) t 0=st at *;rw [if_pos (decide_eq_true hGi)]at hgo;clear hse hbe ect;generalize cl l t i=ct at *;generalize df l i=cb at *;generalize fk l t i=D at *;repeat(refine A1 ⟨?_⟩;intros)
      refine WPL.perm (DZ _ _ _ _ (cJ b4 b5 j p1) Hs) ?_;refine WfT cs ?_ (hs:=Tk.cons (.here _) (Tk.cons (.here _) (Tk.cons (.here _) (Tk.cons (.here _) (Tk.nil _)))));rintro _ _ ⟨rfl,p2,m1,m2,rfl⟩;replace m2:∀x,rep p2 x=G x:=fun x=>by rw [m2,k2]
      clear cs k1 k2;simp only [List.cons_append];repeat(first|(refine Wo (aD [bt ct,lit (.bool cb)] rfl) ?_)|(refine Wdo (aD [bt ct,lit (.bool cb)] rfl) ?_)|(refine A1 ⟨?_⟩;intros)|refine W4 cr ⟨?_⟩)
      refine zL (ds:=cpx (ct,cb)) hown (Rs:=(b16,CG,[bt ct,lit (.bool cb)])::(b15,lV,[pcs cx,pt [lit (.int .i64 0),lit (.int .i64 0),lit (.pointer none),lit (.int .i64 0),lit (.int .i64 0),lit (.pointer none),lit (.int .i64 0),lit (.int .i64 0),lit (.pointer none),lit (.pointer none),lit (.pointer none),lit (.bool true)]])::(cJ b4 b5 j p2++pl b4 b6 b14 i)) (J7 _ _ Hs _) om (fun s' H1 hown'=>?_);replace hgo:=hgo p2 s' H1 m1 m2 (GK hown');clear hown hown';refine WPL.perm (E0 _ _ _ _ (cJ b4 b5 j p2) H1) ?_;repeat(refine A1 ⟨?_⟩;intros)
      exact hgo _ _ lfA (Sc (Sc (Sc Sr)))
    ·as_aux_lemma =>
     rw [if_neg (by simpa using hGi)]at hgo;replace hgo:=hgo p1 so Hs k1 k2 hown;refine ZkD 2 ?_;repeat(refine A1 ⟨?_⟩;intros)
     refine j5 ?_;refine ZkN ?_;refine WPL.perm (rf _ _ _ (cJ b4 b5 k p1) Hs).symm ?_;repeat(refine A1 ⟨?_⟩;intros)
     exact hgo _ _ lfA (Sc (Sc Sr))
  ·have hie:i=k:=by omega
   subst hie;clear hK;refine WP.rowS 13 hown rfl (R:=(b6,fiT,[pu b4])::cJ b4 b5 i p) ?_ ?_
   ·refine(List.Perm.cons _ List.perm_append_comm).trans ?_;exact List.perm_middle.symm
   exact Z1
def lR (op:Int) (t:Tr) (Hs:List Tr):Tr:=Hs.foldl (fun a h=>aQ op a h []) t
theorem uc (op:Int) (t:Tr) (Hs:List Tr) (k:Nat){h:Tr}(hk:Hs[k]? = some h):lR op t (Hs.take (k+1))=aQ op (lR op t (Hs.take k)) h []:=by
 unfold lR;rw [dQ hk,List.foldl_append];rfl
theorem qu {op:Int}{L:List Li}(hL:∀l∈L,l.ok):∀(Hs:List Tr){t:Tr},Gd L t→(∀h∈Hs,h.lin L)→Gd L (lR op t Hs)
 | [],_,h,_=>h
 |a::Hs,t,h,k=>qu hL Hs (t:=aQ op t a []) (Gd.merge hL h.1 (k a Ms)) fun b hb=>k b (Mc hb)
open Classical in
theorem gF:∀(t:Tr) (I:Pq→Prop),bz (bz t I) I=bz t I
 | .leaf _,_=>rfl
 | .node l a b,I=>by
  have e:bz (.node l a b) I=if¬Rgt I l then bz a I else if¬Lft I l then bz b I else fQ l (bz a fun q=>I q∧0<a6 l q) (bz b fun q=>I q∧a6 l q<0):=by
   rw [bz]
  rw [e];by_cases h1:Rgt I l
  ·rw [if_neg (fun k=>k h1)];by_cases h2:Lft I l
   ·rw [if_neg (fun k=>k h2)];have ha:=gF a fun q=>I q∧0<a6 l q
    have hb:=gF b fun q=>I q∧a6 l q<0
    generalize bz a (fun q=>I q∧0<a6 l q)=A at *;generalize bz b (fun q=>I q∧a6 l q<0)=B at *
    have nd:bz (.node l A B) I=fQ l A B:=by
     rw [bz,if_neg (fun k=>k h1),if_neg (fun k=>k h2),ha,hb]
    cases A with
    |leaf i =>
     cases B with
     |leaf j =>
      show bz (if i=j then Tr.leaf i else Tr.node l (.leaf i) (.leaf j)) I=if i=j then Tr.leaf i else Tr.node l (.leaf i) (.leaf j)
      by_cases c:i=j
      ·rw [if_pos c];rfl
      ·rw [if_neg c,nd];show(if i=j then Tr.leaf i else Tr.node l (.leaf i) (.leaf j))=_
       rw [if_neg c]
     |node m x y=>exact nd
    |node m x y=>exact nd
   ·rw [if_pos h2];exact gF b I
  ·rw [if_pos h1];exact gF a I
theorem p9 {L:List Li}(hL:∀l∈L,l.ok){t:Tr}(h:t.lin L):aa (aa t []) []=aa t []:=by
 have h2:=m7 hL h;rw [kN (ci hL h2),kN (ci hL h),gF]
abbrev btL (l:List Tr):SV:=sl (l.map fun t=>[bt t]).flatten l.length
theorem GG {L:List Li}{LL:Nat}(h:LnE L LL) (op:Int) (hop:1≤op∧op≤4){t:Tr}{Hs:List Tr}(ht:t.lin L) (hd:br t≤500) (hH:∀x∈Hs,x.lin L∧br x≤500) (hn:Hs.length≤1000000):Pu Tryz.prog 25 [lit (.int .i64 op),bt t,btL Hs] (Ab.tup [bt (lR op (aa t []) Hs),lit .nilIface]):=by
 have c1:=jH t om;have c2:=mC h.l1 h.l2 t (h.all ht) om;rw [lZ aj (ci h.ok ht)]at c2;have hr:Gd L (aa t []):=Gd.restr h.ok ht
 have step:∀k x,Hs[k]? = some x→Pu Tryz.prog 52 [lit (.int .i64 op),bt (lR op (aa t []) (Hs.take k)),bt x] (Ab.tup [bt (lR op (aa t []) (Hs.take (k+1))),lit .nilIface]):=fun k x hk=>by
  have hg:Gd L (lR op (aa t []) (Hs.take k)):=qu h.ok _ hr fun y hy=>(hH y (List.mem_of_mem_take hy)).1
  have hd1:=hg.dep;have hl:=h.len;obtain⟨x1,x2⟩:=hH x (List.mem_of_getElem? hk);rw [uc op _ Hs k hk];exact pg h op hop hg.1 x1 om x2
 clear hr hH ht h;generalize aa t []=r at *;refine Pi Tryz.func25 fun C=>?_
 repeat(first|(refine A1 ⟨?_⟩;intros)|refine W4 c1 ⟨?_⟩|refine W4 c2 ⟨?_⟩)
 refine WP.loopS (ι:=Nat) (fun k=>k≤Hs.length) (fun k=>Hs.length-k)
  (fun k=>fm [(0,lit (.int .i64 op)),(8,bt (lR op r (Hs.take k))),(18,btL Hs),(19,lit (.int .i64 Hs.length)),(20,lit (.int .i64 k))]) (fun _=>[]) 0 (Nat.zero_le _) lfA (List.nil_sublist _) ?_
 rintro k hk K hK;by_cases hkl:k<Hs.length
 ·obtain⟨x,hget,hmm,hat,hne⟩:=elt (f:=fun t=>[bt t]) (n:=1) (fun _=>rfl) om hkl;have c3:=step k x hget;have hgo:=fun F' H'=>hK F' H' (k+1) om om
  generalize lR op r (Hs.take (k+1))=u at *;generalize lR op r (Hs.take k)=v at *;clear hK hget hmm step c1 c2;repeat(refine A1 ⟨?_⟩;intros)
  refine Wo (a7 (cs':=[bt x]) rfl rfl om om hat hne) ?_;repeat(first|(refine A1 ⟨?_⟩;intros)|refine W4 c3 ⟨?_⟩)
  exact hgo _ _ lfA (List.nil_sublist _)
 ·have hke:k=Hs.length:=by omega
  subst hke;rw [List.take_length]at *;clear hK step c1 c2;repeat(refine A1 ⟨?_⟩;intros)
  exact G2
end Go.Ab
namespace Go.Ab
open Go.Proofs
variable [Base]
abbrev rpx (p:Pq):List SV:=[lit (.bool (decide (p.1.num<0))),nat p.1.num.natAbs,dg (kv p.1.den),lit (.bool (decide (p.2.num<0))),nat p.2.num.natAbs,dg (kv p.2.den)]
theorem bW (p:Pq):(rpx p).length=6:=rfl
abbrev rps (l:List Pq):SV:=sl (l.map rpx).flatten l.length
theorem GD (p q:Pq) (h1:ht p.1≤3000000∧ht p.2≤3000000) (h2:ht q.1≤3000000∧ht q.2≤3000000):Pu Tryz.prog 151 [ag (rpx p),ag (rpx q)] (lit (.int .i64 (rg p q))):=by
 obtain⟨x,y⟩:=p;obtain⟨u,v⟩:=q;have c1:=iM x u h1.1 h2.1;have c2:=iM y v h1.2 h2.2;have e1:=e7 (x:=x) (y:=u);unfold rg;simp only;generalize(x-u).num.sign=s at *;generalize(y-v).num.sign=t at *;clear h1 h2;by_cases h:x=u
 ·have hs:=e1.2 h;rw [if_pos h];clear e1 h;subst hs;refine Pi Tryz.func151 fun C=>?_
  exact Y2 c1 c2
 ·have hs:s≠0:=fun e=>h (e1.1 e)
  rw [if_neg h];clear e1 h;refine Pi Tryz.func151 fun C=>?_
  exact Y2 c1 c2
theorem Bu (l:List Pq) (hl:l.length≤100000) (hh:∀p∈l,ht p.1≤3000000∧ht p.2≤3000000):Pu Tryz.prog 110 [rps l] (rps (srt l)):=by
 refine Pi Tryz.func110 fun C=>?_
 repeat(refine A1 ⟨?_⟩;intros)
 refine WP.loopS (ι:=Nat) (fun k=>k≤l.length) (fun k=>l.length-k) (fun k=>fm [(3,rps (srt (l.take k))),(7,rps l),(8,lit (.int .i64 l.length)),(9,lit (.int .i64 k))]) (fun _=>[]) 0
  (Nat.zero_le _) (LeF.cons dM lfA) (List.nil_sublist _) ?_
 rintro k hk K hK;by_cases hkl:k<l.length
 ·have hget:=List.getElem?_eq_getElem hkl;generalize l[k]=p at hget;have hp:=hh p (List.mem_of_getElem? hget);have hat:=eA (f:=rpx) (n:=6) bW hget;have hne:(l.map rpx).flatten≠[]:=eN bW om (fun e=>by rw [e]at hkl;simp at hkl);have hgo:=fun F' H' h1 h2=>hK F' H' (k+1) om om h1 h2
  rw [Dn hget]at hgo;have hsm:∀q∈srt (l.take k),ht q.1≤3000000∧ht q.2≤3000000:=fun q hq=>hh q (List.mem_of_mem_take ((zW _ q).1 hq))
  have hsl:=zX (l.take k);rw [List.length_take]at hsl;generalize srt (l.take k)=out at hgo hsm hsl⊢;clear hK hh;repeat(refine A1 ⟨?_⟩;intros)
  refine Wo (a7 (cs':=rpx p) rfl rfl om om hat hne) ?_;repeat(refine A1 ⟨?_⟩;intros)
  rename_i b5
  refine WP.loopS (ι:=Nat) (fun j=>j≤pat out p) (fun j=>out.length-j) (fun j=>fm [(3,rps out),(5,lit (.pointer (some ⟨b5,0,none⟩))),(6,lit (.int .i64 j)),(7,rps l),(8,lit (.int .i64 l.length)),(9,lit (.int .i64 k))])
   (fun _=>[(b5,106,rpx p)]) 0 (Nat.zero_le _) lfA Sr ?_
  rintro j hj K2 hK2;have hpl:=J9 out p;have hfl:=cG bW out;have hins:=oL bW out p j;have hdl:(((out.map rpx).flatten).drop (j*6)).length=(out.length-j)*6:=by rw [List.length_drop,hfl,Nat.sub_mul]
  have hln:j+(1+(out.length-j))=(out.take j++p::out.drop j).length:=by rw [List.length_append,List.length_cons,List.length_take,List.length_drop];omega
  have htl:(((out.map rpx).flatten).take (j*6)).length=j*6:=by rw [List.length_take,hfl];omega
  have hpl2:(rpx p++((out.map rpx).flatten).drop (j*6)).length=(1+(out.length-j))*6:=by rw [List.length_append,hdl,bW];omega
  by_cases hjl:j<out.length
  ·have hgo2:=out[j]?;have hget2:=List.getElem?_eq_getElem hjl;generalize out[j]=o at hget2;have ho:=hsm o (List.mem_of_getElem? hget2);have hat2:=eA (f:=rpx) (n:=6) bW hget2;have hne2:(out.map rpx).flatten≠[]:=eN bW om (fun e=>by rw [e]at hjl;simp at hjl);have c:=GD o p ho hp;obtain⟨s1,s2⟩:=E4 hj hget2;cases hlt:plt o p with
   |true =>
    have hneg:rg o p<0:=by unfold plt at hlt;exact of_decide_eq_true hlt
    have hj1:=s1 hlt;generalize rg o p=s at c hneg;clear hgo s1 s2;repeat(refine A1 ⟨?_⟩;intros)
    refine cQ (a7 (cs':=rpx o) rfl rfl om om hat2 hne2) ?_;repeat(first|(refine A1 ⟨?_⟩;intros)|refine W4 c ⟨?_⟩)
    exact hK2 _ _ (j+1) hj1 om lfA Sr
   |false =>
    have hneg:¬rg o p<0:=by unfold plt at hlt;exact of_decide_eq_false hlt
    have hje:=s2 hlt;clear hK2 s1 s2;by_cases hz:o=p
    ·have h0:=tn.2 hz;have hpi:lQ out p=out:=by unfold lQ;rw [if_pos (by rw [←hje,hget2,hz])]
     rw [hpi]at hgo;rw [h0]at c;clear hneg hlt;repeat(refine A1 ⟨?_⟩;intros)
     refine cQ (a7 (cs':=rpx o) rfl rfl om om hat2 hne2) ?_;repeat(first|(refine A1 ⟨?_⟩;intros)|refine W4 c ⟨?_⟩)
     refine cQ (a7 (cs':=rpx o) rfl rfl om om hat2 hne2) ?_;repeat(first|(refine A1 ⟨?_⟩;intros)|refine W4 c ⟨?_⟩)
     exact hgo _ _ lfA (List.nil_sublist _)
    ·have h0:¬rg o p=0:=fun e=>hz (tn.1 e)
     have hpi:lQ out p=out.take j++p::out.drop j:=by unfold lQ;rw [←hje,if_neg (by rw [hget2];exact fun e=>hz (Option.some.inj e))]
     rw [hpi]at hgo;have hpos:0<rg o p:=by omega
     generalize rg o p=s at c hpos;clear hneg hlt h0;repeat(refine A1 ⟨?_⟩;intros)
     refine cQ (a7 (cs':=rpx o) rfl rfl om om hat2 hne2) ?_;repeat(first|(refine A1 ⟨?_⟩;intros)|refine W4 c ⟨?_⟩)
     refine cQ (a7 (cs':=rpx o) rfl rfl om om hat2 hne2) ?_;repeat(first|(refine A1 ⟨?_⟩;intros)|refine W4 c ⟨?_⟩)
     refine Wdo (gq j rfl rfl rfl rfl rfl hfl om) ?_;repeat(first|(refine Wdo (iw (s:=ag (rpx p)) (ds:=rpx p) rfl inferInstance) ?_)|(refine Wdo (gn j rfl rfl rfl hfl om) ?_)|(refine A1 ⟨?_⟩;intros))
     refine Wdo (az (k:=1) (k0:=out.length-j) rfl rfl rfl hdl om) ?_;refine Wdo (az (k:=j) (k0:=1+(out.length-j)) rfl rfl htl hpl2 om) ?_;rw [hins,hln];repeat(refine A1 ⟨?_⟩;intros)
     exact hgo _ _ lfA (List.nil_sublist _)
  ·have hje:j=pat out p:=by omega
   have hpi:lQ out p=out.take j++p::out.drop j:=by unfold lQ;rw [←hje,if_neg (by rw [List.getElem?_eq_none om];intro e;cases e)]
   rw [hpi]at hgo;clear hK2;repeat(refine A1 ⟨?_⟩;intros)
   refine Wdo (gq j rfl rfl rfl rfl rfl hfl om) ?_;repeat(first|(refine Wdo (iw (s:=ag (rpx p)) (ds:=rpx p) rfl inferInstance) ?_)|(refine Wdo (gn j rfl rfl rfl hfl om) ?_)|(refine A1 ⟨?_⟩;intros))
   refine Wdo (az (k:=1) (k0:=out.length-j) rfl rfl rfl hdl om) ?_;refine Wdo (az (k:=j) (k0:=1+(out.length-j)) rfl rfl htl hpl2 om) ?_;rw [hins,hln];repeat(refine A1 ⟨?_⟩;intros)
   exact hgo _ _ lfA (List.nil_sublist _)
 ·have hke:k=l.length:=by omega
  subst hke;rw [List.take_length];repeat(refine A1 ⟨?_⟩;intros)
  exact aS (aF (RV.tmp rfl) Lr)
end Go.Ab
