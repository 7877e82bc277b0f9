/- Texts laid one behind the other: TqC, TcF, TqD, GwM. -/
import Derived.Test.YtnhepimaijhhaaaGreatDoorB34
import Derived.Test.YtnhepimaijhhaaaGreatDoorB26
import Derived.Test.YtnhepimaijhhaaaGreatDoorB30
import Derived.Test.YtnhepimaijhhaaaGreatDoorB15
set_option linter.all false
set_option maxHeartbeats 16000000
namespace Go.Ab
open Go.Proofs
variable [Base]
abbrev Dis (x y:PC×Bool):Prop:=∀q,Inn (a8 x.1) q→¬Inn (a8 y.1) q
theorem dis:∀(t:Tr) (c:PC),da c→t.lok→Prp t (Inn (a8 c))→(∀x∈ar t c,∀q,Inn (a8 x.1) q→Inn (a8 c) q)∧(ar t c).Pairwise Dis
 | .leaf i,c,_,_,_=>⟨fun x hx q h=>by unfold ar at hx;rw [List.mem_singleton.1 hx]at h;exact h,List.pairwise_singleton _ _⟩
 | .node l a b,c,hc,hl,hp=>by
  obtain⟨hl0,hla,hlb⟩:=hl
  obtain⟨p1,p2,p3,p4⟩:=hp
  have q2:Lft (Inn (a8 c)) l.neg:=by
   obtain⟨q,h1,h2⟩:=p2
   exact⟨q,h1,by rw [fy];grind⟩
  have k1:=(eM hc hl0 (aF l)).2 p1
  have k2:=(eM hc (Li.ok.neg hl0) (aF l.neg)).2 q2
  obtain⟨g1,g2⟩:=iJ hc hl0 (aF l) (d:=(aK (aF l) c l).1) (by rw [←k1])
  obtain⟨g3,g4⟩:=iJ hc (Li.ok.neg hl0) (aF l.neg) (d:=(aK (aF l.neg) c l.neg).1) (by rw [←k2])
  have g5:Inn (a8 (aK (aF l.neg) c l.neg).1)=fun q=>Inn (a8 c) q∧a7 l q<0:=by
   rw [g4];funext q;rw [fy]
   exact propext ⟨fun h=>⟨h.1,by have:=h.2;grind⟩,fun h=>⟨h.1,by have:=h.2;grind⟩⟩
  obtain⟨i1,j1⟩:=dis a (aK (aF l) c l).1 g1 hla (by rw [g2];exact p3)
  obtain⟨i2,j2⟩:=dis b (aK (aF l.neg) c l.neg).1 g3 hlb (by rw [g5];exact p4)
  have r1:∀x∈ar a (aK (aF l) c l).1,∀q,Inn (a8 x.1) q→Inn (a8 c) q∧0<a7 l q:=fun x hx q h=>by
   have:=i1 x hx q h
   rw [g2]at this;exact this
  have r2:∀x∈ar b (aK (aF l.neg) c l.neg).1,∀q,Inn (a8 x.1) q→Inn (a8 c) q∧a7 l q<0:=fun x hx q h=>by
   have:=i2 x hx q h
   rw [g5]at this;exact this
  unfold ar
  rw [if_pos k1,if_pos k2]
  refine⟨fun x hx q h=>?_,?_⟩
  ·rcases List.mem_append.1 hx with hx|hx
   ·exact(r1 x hx q h).1
   ·exact(r2 x hx q h).1
  ·refine List.pairwise_append.2 ⟨j1,j2,fun x hx y hy q h1 h2=>?_⟩
   have a1:=(r1 x hx q h1).2
   have a2:=(r2 y hy q h2).2
   grind
theorem F2.at {l:Pts}{Y:RPs}(h:F2 CR l Y){k:Nat}(hk:k<l.length):CR (l.getD k ([],false)) (Y.getD k ([],false)):=by
 obtain⟨y,h1,h2⟩:=h.get (List.getElem?_eq_getElem hk)
 rw [List.getD,List.getD,List.getElem?_eq_getElem hk,h1]
 exact h2
theorem yO {w v:Nat→Bool}{n:Nat}(h:∀k,k<n→w k=v k):gg w n=gg v n:=List.filter_congr fun k hk=>h k (List.mem_range.1 hk)
theorem Ak {l:Pts}{Y:RPs}(h:F2 CR l Y):cl Y=(gg (inB l) l.length).map fun k=>(Y.getD k ([],false)).1:=by
 unfold cl
 rw [xl ([],false) (fun x=>x.2) Y,List.map_map]
 have e:gg (fun k=>(Y.getD k ([],false)).2) Y.length=gg (inB l) l.length:=by
  rw [←h.len]
  exact yO fun k hk=>(h.at hk).f.symm
 rw [e];rfl
theorem Dm {l:Pts}{Y:RPs}(h:F2 CR l Y){a:Nat}(ha:a<(gg (inB l) l.length).length):rgA (cl Y) a=(Y.getD (enN (inB l) l.length a) ([],false)).1:=by
 unfold rgA
 rw [Ak h,List.getD,List.getElem?_map,uc ha];rfl
theorem JE {l:Pts}{Y:RPs}(h:F2 CR l Y) (hd:l.Pairwise Dis):(cl Y).length=(gg (inB l) l.length).length∧Lbl (cl Y).length (enN (inB l) l.length) (iM l) (oO (cl Y)):=by
 have hm:(cl Y).length=(gg (inB l) l.length).length:=by rw [Ak h,List.length_map]
 refine⟨hm,?_⟩
 rw [Fw,ES,EY,r7 (inB l)]
 have e1:(List.range l.length).filter (inB l)=(List.range (gg (inB l) l.length).length).map (enN (inB l) l.length):=wX (inB l) l.length
 have e2:(([]:List Nat).filter (inB l))=([]:List Nat).map (enN (inB l) l.length):=rfl
 rw [e1,e2,zP,←hm]
 refine wS (fun a b ha hb hab=>AD om om hab) _ (fun a ha=>⟨ha,rfl⟩) (fun p hp=>?_)
 obtain⟨h1,h2⟩:=Jb hp
 refine⟨h1,om,?_⟩
 have q1:=(Al (Fa (w:=inB l) (n:=l.length) (a:=p.1) om)).1
 have q2:=(Al (Fa (w:=inB l) (n:=l.length) (a:=p.2) om)).1
 have q3:=AD (w:=inB l) (n:=l.length) (a:=p.2) (b:=p.1) om om h2
 have c1:=h.at q1
 have c2:=h.at q2
 rw [Dm h (a:=p.1) om,Dm h (a:=p.2) om]
 have hdis:∀q,Inn (a8 (clB l (enN (inB l) l.length p.1))) q→¬Inn (a8 (clB l (enN (inB l) l.length p.2))) q:=fun q i1 i2=>by
  have:=List.pairwise_iff_getElem.1 hd _ _ q2 q1 q3 q
  unfold clB at i1 i2
  rw [List.getD,List.getElem?_eq_getElem q1]at i1
  rw [List.getD,List.getElem?_eq_getElem q2]at i2
  exact this i2 i1
 rw [wJ c1.p c2.p hdis c1.ok c1.m c2.m]
 exact yA c1.ok c2.ok
abbrev Cl:TypeId:=77
def i8 (l:Pts) (i:Nat):Bool:=inB l i&&decide (iM l i=i)
def Cq (l:Pts) (i:Nat) (b:Bool) (k:Nat):Bool:=if inB l k&&decide (iM l k=i)then b&&mL (clB l k)else b
def jl (l:Pts) (i:Nat):Bool:=(List.range l.length).foldl (Cq l i) true
def eL (l:Pts) (t:Tr) (i:Nat):Tr:=ac (fD (fun k=>decide (iM l k=i)) t 0) []
def sb (l:Pts) (t:Tr):List (Tr×Bool):=((List.range l.length).filter (i8 l)).map fun i=>(eL l t i,jl l i)
abbrev cpx (c:Tr×Bool):List SV:=[bt c.1,lit (.bool c.2)]
theorem AN (c:Tr×Bool):(cpx c).length=2:=rfl
abbrev cps (l:List (Tr×Bool)):SV:=sl (l.map cpx).flatten l.length
theorem qI {p:Li→Prop}{keep:Nat→Bool}:∀{t:Tr}{k:Nat},t.all p→(fD keep t k).all p
 | .leaf _,_,_=>trivial
 | .node _ _ _,_,h=>⟨h.1,qI h.2.1,qI h.2.2⟩
theorem qG {keep:Nat→Bool}:∀{t:Tr}{k:Nat},t.lok→(fD keep t k).lok
 | .leaf _,_,_=>trivial
 | .node _ _ _,_,h=>⟨h.1,qG h.2.1,qG h.2.2⟩
theorem qH {keep:Nat→Bool}:∀(t:Tr) (k:Nat),bo (fD keep t k)=bo t
 | .leaf _,_=>rfl
 | .node _ a b,k=>by simp only [fD,bo,qH a,qH b]
structure L1 (L:Nat) (l:Pts):Prop where
 l1:1≤L
 l2:L≤500
 c:∀x∈l,(∀s∈x.1,o9 L s)∧x.1.length≤100000
 n:l.length≤1000000
structure JS where
 k:Nat
 p:Nat→Nat
structure L6 where
 k:Nat
 p:Nat→Nat
 s:SV
 Hs:LH
theorem r9 (x y z:Nat×TypeId×List SV) (A B:LH):(x::y::z::(A++B)).Perm (A++(x::y::z::B)):=by
 have:=(List.perm_append_comm (l₁:=[x,y,z]) (l₂:=A)).append_right B
 simpa using this
theorem yu (x y z u v:Nat×TypeId×List SV) (A B:LH):(x::y::z::u::v::(A++B)).Perm (A++(x::y::z::u::v::B)):=by
 have:=(List.perm_append_comm (l₁:=[x,y,z,u,v]) (l₂:=A)).append_right B
 simpa using this
theorem Jc (x y:Nat×TypeId×List SV) (A B:LH):(x::y::(A++B)).Perm (A++(x::y::B)):=by
 have:=(List.perm_append_comm (l₁:=[x,y]) (l₂:=A)).append_right B
 simpa using this
theorem DE (x y z u:Nat×TypeId×List SV) (A B:LH):(x::y::z::u::(A++B)).Perm ((A++[u,z])++(x::y::B)):=by
 have h1:[x,y,z,u].Perm [u,z,x,y]:=(List.perm_append_comm (l₁:=[x,y]) (l₂:=[z,u])).trans (List.Perm.swap _ _ _)
 have h2:=((h1.append_right A).trans List.perm_append_comm).append_right B
 simpa using h2
theorem DF (x y z u:Nat×TypeId×List SV) (A B:LH):(B++(x::y::(A++[u,z]))).Perm (x::y::z::u::(A++B)):=by
 have h1:[x,y,z,u].Perm [x,y,u,z]:=(List.Perm.swap _ _ _).cons _ |>.cons _
 have h2:(x::y::(A++[u,z])).Perm ([x,y,z,u]++A):=by
  have e:(x::y::(A++[u,z])).Perm ([x,y]++([u,z]++A)):=(List.perm_append_comm (l₁:=A) (l₂:=[u,z])).cons y |>.cons x
  refine e.trans ?_
  have:=h1.symm.append_right A
  simpa using this
 have h3:=(h2.append_left B).trans List.perm_append_comm
 simpa using h3
def fk (l:Pts) (t:Tr) (k:Nat):List (Tr×Bool):=((List.range k).filter (i8 l)).map fun i=>(eL l t i,jl l i)
theorem vD (l:Pts) (t:Tr) (k:Nat):fk l t (k+1)=if i8 l k then fk l t k++[(eL l t k,jl l k)]else fk l t k:=by
 unfold fk
 rw [List.range_succ,List.filter_append,List.map_append]
 by_cases h:i8 l k=true
 ·rw [if_pos h,List.filter_cons_of_pos h];rfl
 ·rw [if_neg h,List.filter_cons_of_neg h,List.filter_nil,List.map_nil,List.append_nil]
theorem xw (l:Pts) (t:Tr) (k:Nat):(fk l t k).length≤k:=by
 unfold fk
 rw [List.length_map]
 exact Nat.le_trans (List.length_filter_le _ _) (by simp)
theorem GK {l:List (Tr×Bool)}{c:Tr×Bool}{s:SV}{H:LH}(h:Own Cl 2 (l.length+1) ((l.map cpx).flatten++cpx c) s H):Own Cl 2 (l++[c]).length ((l++[c]).map cpx).flatten s H:=by
 rw [List.map_append,List.flatten_append,List.length_append]
 simpa using h
theorem vj {l:Pts}{k:Nat}{c:PC}{i:Bool}(h:l[k]? = some (c,i)):inB l k=i∧clB l k=c:=by
 unfold inB clB
 rw [List.getD,h];exact⟨rfl,rfl⟩
theorem Ft {L:Nat}{t:Tr}{l:Pts}{n:Nat}(hl:l=ar t []) (hnl:n=l.length) (h:L1 L l) (hall:t.all fun m=>m.le L) (hlok:t.lok) (hd:bo t≤90000) (hlv:aj t=n):Pu Tryz.prog 26 [bt t] (cps (sb l t)):=by
 have cp:=Cp h.l1 h.l2 t hall om (by have:=h.n;omega)
 rw [←hl]at cp
 have hn:=h.n
 rw [←hnl]at hn
 clear hl
 refine Pi Tryz.func26 fun C=>?_
 repeat(first|(refine A1 ⟨?_⟩;intros)|refine W4 cp ⟨?_⟩)
 refine WPL.make (k:=n) (by rw [hnl];rfl) (by rw [hnl];rfl) om om rfl (fun b5=>?_)
 rw [wu]
 repeat(refine A1 ⟨?_⟩;intros)
 rename_i b4
 refine WP.loopS (ι:=Nat) (fun k=>k≤n) (fun k=>n-k)
  (fun k=>fm [(0,bt t),(3,pls l),(4,lit (.pointer (some ⟨b4,0,none⟩))),(25,lit (.int .i64 n)),(26,lit (.int .i64 k))]) (fun k=>cL b4 b5 n (idK k)) 0 (Nat.zero_le _) lfA Sr ?_
 rintro k hk K hK
 by_cases hkl:k<n
 ·as_aux_lemma =>
  have hgo:=fun F' H'=>hK F' H' (k+1) om om
  have hs:=nk (n:=n) (p:=idK k) (v:=k) hkl
  rw [Ap]at hs
  have hb:=np (p:=idK k) hkl
  clear hK cp
  repeat(refine A1 ⟨?_⟩;intros)
  refine WPL.store (b:=b5) (o:=k) (sv:=lit (.int .i64 ((k:Nat):Int))) rfl rfl rfl (.there _ (.here _)) hs hb ?_
  repeat(refine A1 ⟨?_⟩;intros)
  exact hgo _ _ lfA Sr
 have hke:n=k:=by omega
 subst hke
 clear hK hkl hk cp
 refine WP.perm (H':=cL b4 b5 n id) (List.Perm.of_eq (by show cL b4 b5 n (idK n)=_;unfold cL;rw [DG])) ?_
 repeat(refine A1 ⟨?_⟩;intros)
 rename_i b6
 refine Ss ?_
 refine Ws (sv:=pl b4) ?_
 repeat(refine A1 ⟨?_⟩;intros)
 have hlc:∀k,k<n→∃(c:PC) (i:Bool),l[k]? = some (c,i)∧(c,i)∈l∧(((l.map ptx).flatten).drop (k*2)).take 2=[pcs c,pt (bc (.leaf i))]∧(l.map ptx).flatten≠[]:=fun k hk=>by
  obtain⟨⟨c,i⟩,h1,h2,h3,h4⟩:=elt uK om (show k<l.length by omega)
  exact⟨c,i,h1,h2,h3,h4⟩
 refine WP.loopS (ι:=JS) (fun y=>y.k≤n∧bM y.p∧∀j,rep y.p j=((List.range y.k).foldl (Fv l) id) j) (fun y=>n-y.k)
  (fun y=>fm [(0,bt t),(3,pls l),(4,lit (.pointer (some ⟨b4,0,none⟩))),(6,lit (.pointer (some ⟨b6,0,none⟩))),(35,pls l),(36,lit (.int .i64 n)),(37,lit (.int .i64 ((y.k:Nat):Int)))])
  (fun y=>(b6,fiT,[pl b4])::cL b4 b5 n y.p) ⟨0,id⟩ ⟨Nat.zero_le _,C6,fun j=>J3 j⟩ (LeF.cons Lr (LeF.cons Lr (LeF.cons Lr (LeF.cons Lr (LeF.cons Lr (LeF.cons (Le.of_eq (by rw [hnl];rfl)) lfA)))))) Sr ?_
 rintro ⟨k,p⟩ ⟨hk,hp,hg⟩ K hK
 simp only at hk hp hg⊢
 by_cases hkl:k<n
 ·as_aux_lemma =>
  obtain⟨cx,xi,hgx,hmx,hatx,hnex⟩:=hlc k hkl
  have hgo:=fun p' (h1:bM p') (h2:∀j,rep p' j=((List.range (k+1)).foldl (Fv l) id) j) F' H'=>hK F' H' ⟨k+1,p'⟩ ⟨by simp only;omega,h1,h2⟩ (by simp only;omega)
  simp only [kO]at hgo
  generalize hG:(List.range k).foldl (Fv l) id=G at *
  have hgf:∀j,G j≤j:=fun j=>by rw [←hg];exact yf hp j
  clear hK
  rw [fo]at hatx
  repeat(refine A1 ⟨?_⟩;intros)
  refine Wo (a6 (cs':=[pcs cx,pt [lit (.int .i64 0),lit (.int .i64 0),lit (.pointer none),lit (.int .i64 0),lit (.int .i64 0),lit (.pointer none),lit (.int .i64 0),lit (.int .i64 0),lit (.pointer none),lit (.pointer none),lit (.pointer none),lit (.bool xi)]]) rfl rfl om om hatx hnex) ?_
  repeat(refine A1 ⟨?_⟩;intros)
  rename_i b8
  refine Wo (DK k rfl rfl rfl om) ?_
  rw [oQ uK]
  repeat(refine A1 ⟨?_⟩;intros)
  refine WP.loopS (ι:=JS) (fun y=>y.k≤k∧bM y.p∧∀j,rep y.p j=((List.range y.k).foldl (zh l k) G) j) (fun y=>k-y.k)
   (fun y=>fm [(0,bt t),(3,pls l),(4,lit (.pointer (some ⟨b4,0,none⟩))),(6,lit (.pointer (some ⟨b6,0,none⟩))),(7,lit (.int .i64 k)),(8,lit (.pointer (some ⟨b8,0,none⟩))),(35,pls l),(36,lit (.int .i64 n)),(37,lit (.int .i64 ((k:Nat):Int))),(44,sl ((l.take k).map ptx).flatten k),(45,lit (.int .i64 k)),(46,lit (.int .i64 ((y.k:Nat):Int)))])
   (fun y=>(b8,m9,[pcs cx,pt [lit (.int .i64 0),lit (.int .i64 0),lit (.pointer none),lit (.int .i64 0),lit (.int .i64 0),lit (.pointer none),lit (.int .i64 0),lit (.int .i64 0),lit (.pointer none),lit (.pointer none),lit (.pointer none),lit (.bool xi)]])::(b6,fiT,[pl b4])::cL b4 b5 n y.p) ⟨0,p⟩ ⟨Nat.zero_le _,hp,hg⟩ lfA Sr ?_
  clear hp hg
  rintro ⟨j,p1⟩ ⟨hj,hp,hg⟩ K2 hK2
  simp only at hj hp hg⊢
  by_cases hjl:j<k
  ·obtain⟨⟨cy,yi⟩,hgy,hmy,haty,hney⟩:=elt (l:=l.take k) uK om (show j<(l.take k).length by rw [List.length_take];omega)
   rw [List.getElem?_take,if_pos hjl]at hgy
   have hmy:=List.mem_of_getElem? hgy
   rw [show ptx (cy,yi)=[pcs cy,pt (bc (.leaf yi))]from rfl,fo]at haty
   have hgo2:=fun p' (h1:bM p') (h2:∀i,rep p' i=((List.range (j+1)).foldl (zh l k) G) i) F' H'=>hK2 F' H' ⟨j+1,p'⟩ ⟨by simp only;omega,h1,h2⟩ (by simp only;omega)
   simp only [kO]at hgo2
   generalize hJ:(List.range j).foldl (zh l k) G=J at *
   have hjn:j<n:=by omega
   clear hK2 hgo
   repeat(refine A1 ⟨?_⟩;intros)
   refine Wo (a6 (cs':=[pcs cy,pt [lit (.int .i64 0),lit (.int .i64 0),lit (.pointer none),lit (.int .i64 0),lit (.int .i64 0),lit (.pointer none),lit (.int .i64 0),lit (.int .i64 0),lit (.pointer none),lit (.pointer none),lit (.pointer none),lit (.bool yi)]]) rfl rfl om om haty hney) ?_
   repeat(first|(refine AS ⟨?_⟩;intros)|(refine O1 ⟨?_⟩;intros))
   rename_i b10
   refine WP.perm (r9 _ _ _ (cL b4 b5 n p1) []) ?_
   refine WdZ 6 [0,1,3,4,2,5] [2,5] (cL b4 b5 n p1) _ ?_
   refine ZkD 4 ?_
   repeat(refine A1 ⟨?_⟩;intros)
   refine jf ?_
   refine Iv (nP hp (show k<n by omega) hn b4 b5) (tk2 _ _) ?_
   rintro _ _ ⟨rfl,p2,k1,k2,rfl⟩
   simp only [List.append_nil]
   refine Iv (nP k1 hjn hn b4 b5) (tk2 _ _) ?_
   rintro _ _ ⟨rfl,p3,k3,k4,rfl⟩
   simp only [List.append_nil]
   refine ZkN ?_
   refine WPL.perm (r9 _ _ _ (cL b4 b5 n p3) []).symm ?_
   have hr3:∀i,rep p3 i=J i:=fun i=>by rw [k4,k2,hg]
   rw [hg k,k2,hg j]
   have hJk:J k<n:=by rw [←hg];have:=yf hp k;omega
   have hJj:J j<n:=by rw [←hg];have:=yf hp j;omega
   replace hgo2:=fun p' h1 h2=>hgo2 p' h1 h2
   have hin:=vj hgx
   have hiy:=vj hgy
   unfold zh jnB at hgo2
   rw [hin.1,hin.2,hiy.1,hiy.2]at hgo2
   have ct:=xR h.l1 h.l2 (h.c _ hmx).1 (h.c _ hmy).1 (h.c _ hmx).2 (h.c _ hmy).2
   simp only at ct
   have hj1:J k≠J j→bM (fR p3 (max (J k) (J j)) (min (J k) (J j)))∧∀i,rep (fR p3 (max (J k) (J j)) (min (J k) (J j))) i=pg J k j i:=fun hne=>⟨pf k3 _ _,fun i=>by
    have e:=wU k3 (i:=k) (k:=j) (by rw [hr3,hr3];exact hne)
    rw [hr3,hr3]at e
    rw [e];unfold pg;rw [hr3,hr3,hr3]⟩
   clear hin hiy hgx hgy hmx hmy hatx hnex haty hney hG hJ hg k1 k2 k4 hp hgf
   cases xi with
   |false =>
    simp only [Bool.false_and,Bool.false_eq_true,if_false]at hgo2
    replace hgo2:=hgo2 p3 k3 hr3
    clear ct hj1
    repeat(refine A1 ⟨?_⟩;intros)
    exact hgo2 _ _ lfA (Sc Sr)
   |true =>
    cases yi with
    |false =>
     simp only [Bool.false_and,Bool.and_false,Bool.false_eq_true,if_false]at hgo2
     replace hgo2:=hgo2 p3 k3 hr3
     clear ct hj1
     repeat(refine A1 ⟨?_⟩;intros)
     exact hgo2 _ _ lfA (Sc Sr)
    |true =>
     by_cases he:J k=J j
     ·simp only [he,ne_eq,not_true,decide_false,Bool.false_and,Bool.and_false,Bool.false_eq_true,if_false]at hgo2
      replace hgo2:=hgo2 p3 k3 hr3
      clear ct hj1
      rw [he]
      repeat(refine A1 ⟨?_⟩;intros)
      exact hgo2 _ _ lfA (Sc Sr)
     ·cases ht:ej cx cy with
      |false =>
       simp only [ht,Bool.false_and,Bool.and_false,Bool.false_eq_true,if_false]at hgo2
       replace hgo2:=hgo2 p3 k3 hr3
       rw [ht]at ct
       clear hj1
       repeat(first|(refine A1 ⟨?_⟩;intros)|refine W4 ct ⟨?_⟩)
       exact hgo2 _ _ lfA (Sc Sr)
      |true =>
       have hde:decide (J k≠J j)=true:=decide_eq_true he
       simp only [ht,hde,Bool.and_self,if_true]at hgo2
       replace hgo2:=hgo2 _ (hj1 he).1 (hj1 he).2
       rw [ht]at ct
       clear hj1 hde
       have hs:=nk (n:=n) (p:=p3) (i:=max (J k) (J j)) (v:=min (J k) (J j)) om
       have hb:=np (n:=n) (p:=p3) (i:=max (J k) (J j)) om
       have e1:(if((J k:Nat):Int)<((J j:Nat):Int)then((J j:Nat):Int)else((J k:Nat):Int))=((max (J k) (J j):Nat):Int):=by split <;> omega
       have e2:(if((J j:Nat):Int)<((J k:Nat):Int)then((J j:Nat):Int)else((J k:Nat):Int))=((min (J k) (J j):Nat):Int):=by split <;> omega
       have hmx:max (J k) (J j)<n:=by omega
       generalize max (J k) (J j)=M at *
       generalize min (J k) (J j)=m at *
       repeat(first|(refine A1 ⟨?_⟩;intros)|refine W4 ct ⟨?_⟩)
       refine Wo (kS rfl rfl (r:=(M:Int)) e1) ?_
       repeat(refine A1 ⟨?_⟩;intros)
       refine Wo (mo rfl rfl (r:=(m:Int)) e2) ?_
       repeat(refine A1 ⟨?_⟩;intros)
       refine WPL.store (b:=b5) (o:=M) (sv:=lit (.int .i64 ((m:Nat):Int))) rfl rfl rfl (.there _ (.there _ (.there _ (.there _ (.here _))))) hs hb ?_
       repeat(refine A1 ⟨?_⟩;intros)
       exact hgo2 _ _ lfA (Sc Sr)
  ·have hje:j=k:=by omega
   subst hje
   replace hgo:=hgo p1 hp hg
   clear hK2
   repeat(refine A1 ⟨?_⟩;intros)
   exact hgo _ _ lfA (Sc Sr)
 ·have hke:k=n:=by omega
  subst hke
  clear hK
  replace hg:∀j,rep p j=iM l j:=fun j=>by rw [hg,hnl];rfl
  generalize hGe:iM l=G at *
  refine WP.perm (H':=(b6,fiT,[pl b4])::(cL b4 b5 k p++[])) (List.Perm.of_eq (by rw [List.append_nil])) ?_
  rw [show sb l t=fk l t k by rw [hnl];rfl]
  have hcr:∀i,i8 l i=(inB l i&&decide (G i=i)):=fun i=>by unfold i8;rw [hGe]
  have hbs:∀i,Cq l i=fun b j=>if inB l j&&decide (G j=i)then b&&mL (clB l j)else b:=fun i=>by funext b j;unfold Cq;rw [hGe]
  repeat(refine A1 ⟨?_⟩;intros)
  refine WP.loopS (ι:=L6) (fun y=>y.k≤k∧bM y.p∧(∀j,rep y.p j=G j)∧Own Cl 2 (fk l t y.k).length ((fk l t y.k).map cpx).flatten y.s y.Hs) (fun y=>k-y.k)
   (fun y=>fm [(0,bt t),(3,pls l),(4,lit (.pointer (some ⟨b4,0,none⟩))),(6,lit (.pointer (some ⟨b6,0,none⟩))),(13,y.s),(91,pls l),(92,lit (.int .i64 k)),(93,lit (.int .i64 ((y.k:Nat):Int)))])
   (fun y=>(b6,fiT,[pl b4])::(cL b4 b5 k y.p++y.Hs)) ⟨0,p,lit (.slice none 0 0),[]⟩ ⟨Nat.zero_le _,hp,hg,Own.nil _ _⟩ (LeF.cons Lr (LeF.cons Lr (LeF.cons Lr (LeF.cons Lr (LeF.cons Lr (LeF.cons Lr (LeF.cons (Le.of_eq (by rw [hnl];rfl)) lfA))))))) Sr ?_
  clear hp hg
  rintro ⟨i,p,so,Hs⟩ ⟨hi,hp,hg,hown⟩ K hK
  simp only at hi hp hg hown⊢
  by_cases hil:i<k
  ·obtain⟨cx,xi,hgx,hmx,hatx,hnex⟩:=hlc i hil
   have hin:=vj hgx
   have hgo:=fun p' so' Hs' (h1:bM p') (h2:∀j,rep p' j=G j) (h3:Own Cl 2 (fk l t (i+1)).length ((fk l t (i+1)).map cpx).flatten so' Hs') F' H'=>hK F' H' ⟨i+1,p',so',Hs'⟩ ⟨by simp only;omega,h1,h2,h3⟩ (by simp only;omega)
   simp only at hgo
   rw [vD,hcr,hin.1]at hgo
   have hle:=xw l t i
   rw [fo]at hatx
   clear hK hgx hmx
   cases xi with
   |false =>
    as_aux_lemma =>
    rw [Bool.false_and,if_neg (by decide)]at hgo
    replace hgo:=hgo p so Hs hp hg hown
    repeat(refine A1 ⟨?_⟩;intros)
    refine Wo (a6 (cs':=[pcs cx,pt [lit (.int .i64 0),lit (.int .i64 0),lit (.pointer none),lit (.int .i64 0),lit (.int .i64 0),lit (.pointer none),lit (.int .i64 0),lit (.int .i64 0),lit (.pointer none),lit (.pointer none),lit (.pointer none),lit (.bool false)]]) rfl rfl om om hatx hnex) ?_
    repeat(refine A1 ⟨?_⟩;intros)
    exact hgo _ _ lfA (Sc (Sc Sr))
   |true =>
    rw [Bool.true_and]at hgo
    repeat(refine A1 ⟨?_⟩;intros)
    refine Wo (a6 (cs':=[pcs cx,pt [lit (.int .i64 0),lit (.int .i64 0),lit (.pointer none),lit (.int .i64 0),lit (.int .i64 0),lit (.pointer none),lit (.int .i64 0),lit (.int .i64 0),lit (.pointer none),lit (.pointer none),lit (.pointer none),lit (.bool true)]]) rfl rfl om om hatx hnex) ?_
    repeat(first|(refine AS ⟨?_⟩;intros)|(refine O1 ⟨?_⟩;intros))
    rename_i b14 b15
    refine WP.perm (r9 _ _ _ (cL b4 b5 k p) Hs) ?_
    refine WdZ 13 [0,1,2,3,4,5,6,7,8,10,9,11,12] [9] (cL b4 b5 k p) _ ?_
    refine ZkD 10 ?_
    repeat(refine A1 ⟨?_⟩;intros)
    refine jf ?_
    refine IN (nP hp hil hn b4 b5) (tk2 _ _) ?_
    rintro _ _ ⟨rfl,p1,k1,k2,rfl⟩
    simp only [List.append_nil]
    rw [hg i]
    replace k2:∀j,rep p1 j=G j:=fun j=>by rw [k2,hg]
    clear hp hg p
    by_cases hGi:G i=i
    ·rw [hGi]
     refine ZkD 2 ?_
     repeat(refine A1 ⟨?_⟩;intros)
     refine jf ?_
     refine ZkN ?_
     refine WPL.perm (r9 _ _ _ (cL b4 b5 k p1) Hs).symm ?_
     repeat(refine A1 ⟨?_⟩;intros)
     rename_i b16
     refine WP.loopS (ι:=JS) (fun y=>y.k≤k∧bM y.p∧∀j,rep y.p j=G j) (fun y=>k-y.k)
      (fun y=>fm [(0,bt t),(3,pls l),(4,lit (.pointer (some ⟨b4,0,none⟩))),(6,lit (.pointer (some ⟨b6,0,none⟩))),(13,so),(14,lit (.pointer (some ⟨b14,0,none⟩))),(16,lit (.pointer (some ⟨b16,0,none⟩))),(91,pls l),(92,lit (.int .i64 k)),(93,lit (.int .i64 ((i:Nat):Int))),(112,pls l),(113,lit (.int .i64 k)),(114,lit (.int .i64 ((y.k:Nat):Int)))])
      (fun y=>(b16,Cl,[lit (.pointer none),lit (.bool ((List.range y.k).foldl (Cq l i) true))])::(b15,m9,[pcs cx,pt [lit (.int .i64 0),lit (.int .i64 0),lit (.pointer none),lit (.int .i64 0),lit (.int .i64 0),lit (.pointer none),lit (.int .i64 0),lit (.int .i64 0),lit (.pointer none),lit (.pointer none),lit (.pointer none),lit (.bool true)]])::(b14,iT,[lit (.int .i64 ((i:Nat):Int))])::(b6,fiT,[pl b4])::(cL b4 b5 k y.p++Hs)) ⟨0,p1⟩ ⟨Nat.zero_le _,k1,k2⟩ (LeF.cons Lr (LeF.cons Lr (LeF.cons Lr (LeF.cons Lr (LeF.cons Lr (LeF.cons Lr (LeF.cons Lr (LeF.cons Lr (LeF.cons Lr (LeF.cons Lr (LeF.cons Lr (LeF.cons (Le.of_eq (by rw [hnl];rfl)) lfA)))))))))))) Sr ?_
     clear k1 k2
     rintro ⟨j,p1⟩ ⟨hj,k1,k2⟩ K2 hK2
     simp only at hj k1 k2⊢
     by_cases hjl:j<k
     ·obtain⟨cy,yi,hgy,hmy,haty,hney⟩:=hlc j hjl
      have hiy:=vj hgy
      have hgo2:=fun p' (h1:bM p') (h2:∀i,rep p' i=G i) F' H'=>hK2 F' H' ⟨j+1,p'⟩ ⟨by simp only;omega,h1,h2⟩ (by simp only;omega)
      simp only [kO]at hgo2
      generalize(List.range j).foldl (Cq l i) true=B at *
      rw [hbs]at hgo2
      simp only [hiy.1,hiy.2]at hgo2
      have cb:=xB cy (h.c _ hmy).2
      rw [fo]at haty
      clear hK2 hgo hgy hmy hown
      cases yi with
      |false =>
       as_aux_lemma =>
       simp only [Bool.false_and,Bool.false_eq_true,if_false]at hgo2
       replace hgo2:=hgo2 p1 k1 k2
       repeat(refine A1 ⟨?_⟩;intros)
       refine Wo (a6 (cs':=[pcs cy,pt [lit (.int .i64 0),lit (.int .i64 0),lit (.pointer none),lit (.int .i64 0),lit (.int .i64 0),lit (.pointer none),lit (.int .i64 0),lit (.int .i64 0),lit (.pointer none),lit (.pointer none),lit (.pointer none),lit (.bool false)]]) rfl rfl om om haty hney) ?_
       repeat(refine A1 ⟨?_⟩;intros)
       exact hgo2 _ _ lfA (Sc Sr)
      |true =>
       rw [Bool.true_and]at hgo2
       repeat(refine A1 ⟨?_⟩;intros)
       refine Wo (a6 (cs':=[pcs cy,pt [lit (.int .i64 0),lit (.int .i64 0),lit (.pointer none),lit (.int .i64 0),lit (.int .i64 0),lit (.pointer none),lit (.int .i64 0),lit (.int .i64 0),lit (.pointer none),lit (.pointer none),lit (.pointer none),lit (.bool true)]]) rfl rfl om om haty hney) ?_
       repeat(first|(refine AS ⟨?_⟩;intros)|(refine O1 ⟨?_⟩;intros))
       rename_i b18
       refine WP.perm (yu _ _ _ _ _ (cL b4 b5 k p1) Hs) ?_
       refine WdZ 12 [0,1,2,3,4,5,6,7,9,8,10,11] [8] (cL b4 b5 k p1) _ ?_
       refine ZkD 9 ?_
       repeat(refine A1 ⟨?_⟩;intros)
       refine jf ?_
       refine IN (nP k1 hjl hn b4 b5) (tk2 _ _) ?_
       rintro _ _ ⟨rfl,p2,m1,m2,rfl⟩
       simp only [List.append_nil]
       rw [k2 j]
       replace m2:∀j,rep p2 j=G j:=fun j=>by rw [m2,k2]
       clear k1 k2 p1
       by_cases hGj:G j=i
       ·simp only [hGj,decide_true,if_true]at hgo2
        replace hgo2:=hgo2 p2 m1 m2
        rw [hGj]
        refine ZkD 2 ?_
        repeat(refine A1 ⟨?_⟩;intros)
        refine jf ?_
        refine ZkN ?_
        refine WPL.perm (yu _ _ _ _ _ (cL b4 b5 k p2) Hs).symm ?_
        cases B with
        |false =>
         as_aux_lemma =>
         rw [Bool.false_and]at hgo2
         repeat(refine A1 ⟨?_⟩;intros)
         exact hgo2 _ _ lfA (Sc Sr)
        |true =>
         as_aux_lemma =>
         rw [Bool.true_and]at hgo2
         generalize mL cy=bb at *
         repeat(first|(refine A1 ⟨?_⟩;intros)|refine W4 cb ⟨?_⟩)
         exact hgo2 _ _ lfA (Sc Sr)
       ·have hde:decide (G j=i)=false:=decide_eq_false hGj
        simp only [hde,Bool.false_eq_true,if_false]at hgo2
        replace hgo2:=hgo2 p2 m1 m2
        refine ZkD 2 ?_
        repeat(refine A1 ⟨?_⟩;intros)
        refine jf ?_
        refine ZkN ?_
        refine WPL.perm (yu _ _ _ _ _ (cL b4 b5 k p2) Hs).symm ?_
        repeat(refine A1 ⟨?_⟩;intros)
        exact hgo2 _ _ lfA (Sc Sr)
     ·have hje:j=k:=by omega
      subst hje
      clear hK2
      have hbe:(List.range j).foldl (Cq l i) true=jl l i:=by rw [hnl];rfl
      rw [hbe]
      have hse:(fun x=>decide (rep p1 x=i))=fun x=>decide (iM l x=i):=funext fun x=>by rw [k2,hGe]
      have cs:=w7 hn b4 b5 b6 b14 i t p1 k1 om
      rw [hse]at cs
      have cr:=sh h.l1 h.l2 (fD (fun x=>decide (iM l x=i)) t 0) (qI hall) (by rw [qH];omega)
      rw [qX aF (qG hlok)]at cr
      have ect:ac (fD (fun x=>decide (iM l x=i)) t 0) []=eL l t i:=rfl
      rw [ect]at cr
      generalize fD (fun x=>decide (iM l x=i)) t 0=st at *
      rw [if_pos (decide_eq_true hGi)]at hgo
      clear hse hbe ect
      generalize eL l t i=ct at *
      generalize jl l i=cb at *
      generalize fk l t i=D at *
      repeat(refine A1 ⟨?_⟩;intros)
      refine WPL.perm (DE _ _ _ _ (cL b4 b5 j p1) Hs) ?_
      refine WfT cs ?_ (hs:=Tk.cons (.here _) (Tk.cons (.here _) (Tk.cons (.here _) (Tk.cons (.here _) (Tk.nil _)))))
      rintro _ _ ⟨rfl,p2,m1,m2,rfl⟩
      replace m2:∀x,rep p2 x=G x:=fun x=>by rw [m2,k2]
      clear cs k1 k2
      simp only [List.cons_append]
      repeat(first|(refine Wo (aA [bt ct,lit (.bool cb)] rfl) ?_)|(refine Wdo (aA [bt ct,lit (.bool cb)] rfl) ?_)|(refine A1 ⟨?_⟩;intros)|refine W4 cr ⟨?_⟩)
      refine vK (ds:=cpx (ct,cb)) hown (Rs:=(b16,Cl,[bt ct,lit (.bool cb)])::(b15,m9,[pcs cx,pt [lit (.int .i64 0),lit (.int .i64 0),lit (.pointer none),lit (.int .i64 0),lit (.int .i64 0),lit (.pointer none),lit (.int .i64 0),lit (.int .i64 0),lit (.pointer none),lit (.pointer none),lit (.pointer none),lit (.bool true)]])::(cL b4 b5 j p2++pe b4 b6 b14 i)) (Jc _ _ Hs _) om (fun s' H1 hown'=>?_)
      replace hgo:=hgo p2 s' H1 m1 m2 (GK hown')
      clear hown hown'
      refine WPL.perm (DF _ _ _ _ (cL b4 b5 j p2) H1) ?_
      repeat(refine A1 ⟨?_⟩;intros)
      exact hgo _ _ lfA (Sc (Sc (Sc Sr)))
    ·as_aux_lemma =>
     rw [if_neg (by simpa using hGi)]at hgo
     replace hgo:=hgo p1 so Hs k1 k2 hown
     refine ZkD 2 ?_
     repeat(refine A1 ⟨?_⟩;intros)
     refine jf ?_
     refine ZkN ?_
     refine WPL.perm (r9 _ _ _ (cL b4 b5 k p1) Hs).symm ?_
     repeat(refine A1 ⟨?_⟩;intros)
     exact hgo _ _ lfA (Sc (Sc Sr))
  ·have hie:i=k:=by omega
   subst hie
   clear hK
   refine WP.rowS 13 hown rfl (R:=(b6,fiT,[pl b4])::cL b4 b5 i p) ?_ ?_
   ·refine(List.Perm.cons _ List.perm_append_comm).trans ?_
    exact List.perm_middle.symm
   exact Z1
theorem qF {kp kq:Nat→Bool}:∀(t:Tr) (k a:Nat),(∀i,(lvs t)[i]? = some true→kp (k+i)=kq (a+((lvs t).take i).countP id))→fD kp t k=f5 kq t a
 | .leaf i,k,a,h=>by
  cases i with
  |false=>rfl
  |true =>
   have:=h 0 rfl
   simp only [Nat.add_zero,List.take_zero,List.countP_nil]at this
   unfold fD f5
   rw [this]
 | .node l x y,k,a,h=>by
  have hx:=pV x
  have ix:=pW x
  have h1:=qF (kp:=kp) (kq:=kq) x k a fun i hi=>by
   have hlt:=(List.getElem?_eq_some_iff.1 hi).1
   have:=h i (by unfold lvs;rw [List.getElem?_append_left hlt];exact hi)
   unfold lvs at this
   rwa [List.take_append_of_le_length om]at this
  have h2:=qF (kp:=kp) (kq:=kq) y (k+aj x) (a+jG x) fun i hi=>by
   have:=h (aj x+i) (by unfold lvs;rw [List.getElem?_append_right om,hx,Nat.add_sub_cancel_left];exact hi)
   unfold lvs at this
   rw [List.take_append,List.take_of_length_le om,hx,Nat.add_sub_cancel_left,List.countP_append,←ix]at this
   rw [Nat.add_assoc,this,Nat.add_assoc]
  unfold fD f5
  rw [h1,h2]
theorem HZ {w:Nat→Bool}{n i:Nat}(hi:i<n) (hw:w i=true):(gg w n)[(List.range i).countP w]? = some i:=by
 obtain⟨r,rfl⟩:∃r,n=(i+1)+r:=⟨n-(i+1),om⟩
 unfold gg
 rw [List.range_add,List.range_succ,List.filter_append,List.filter_append,List.countP_eq_length_filter,List.append_assoc,List.getElem?_append_right (Nat.le_refl _),Nat.sub_self,List.filter_cons_of_pos hw]
 rfl
theorem Ga (l:Pts):∀i,i≤l.length→(l.map Prod.snd).take i=(List.range i).map (inB l):=fun i hi=>by
 refine List.ext_getElem? fun j=>?_
 rw [List.getElem?_map,List.getElem?_take]
 by_cases hj:j<i
 ·have hjl:j<l.length:=by omega
  rw [if_pos hj,List.getElem?_range hj,List.getElem?_map,List.getElem?_eq_getElem hjl]
  show some (l[j]).2=some (l.getD j ([],false)).2
  rw [List.getD,List.getElem?_eq_getElem hjl];rfl
 ·rw [if_neg hj,List.getElem?_eq_none (by simpa using hj)];rfl
theorem yv {tr:Tr}{l:Pts}{Y:RPs}(h:F2 CR l Y) (hd:l.Pairwise Dis) (hv:l.map Prod.snd=lvs tr):(sb l tr).map Prod.fst=cD tr (oO (cl Y)) (cl Y).length (cl Y).length:=by
 obtain⟨hm,hL⟩:=JE h hd
 generalize oO (cl Y)=G at *
 generalize(cl Y).length=m at *
 clear h
 have inj:∀x y,x<m→y<m→(enN (inB l) l.length x=enN (inB l) l.length y↔x=y):=fun x y hx hy=>by
  refine⟨fun q=>?_,fun q=>by rw [q]⟩
  rcases Nat.lt_trichotomy x y with c|c|c
  ·have:=AD (w:=inB l) (n:=l.length) (a:=x) (b:=y) om om c;omega
  ·exact c
  ·have:=AD (w:=inB l) (n:=l.length) (a:=y) (b:=x) om om c;omega
 have hroot:(List.range l.length).filter (i8 l)=((List.range m).filter fun a=>decide (G a=a)).map (enN (inB l) l.length):=by
  have e1:(List.range l.length).filter (i8 l)=(gg (inB l) l.length).filter fun i=>decide (iM l i=i):=by
   unfold gg
   rw [List.filter_filter]
   exact List.filter_congr fun i _=>by unfold i8;rw [Bool.and_comm]
  rw [e1,wX,←hm,List.filter_map]
  congr 1
  refine List.filter_congr fun a ha=>?_
  have ha:=List.mem_range.1 ha
  obtain⟨g1,g2⟩:=hL a ha
  show decide (iM l (enN (inB l) l.length a)=enN (inB l) l.length a)=_
  rw [g2]
  exact decide_eq_decide.2 (inj _ _ g1 ha)
 unfold sb cD
 rw [hroot,List.map_map,List.map_map]
 refine List.map_congr_left fun a ha=>?_
 have ha:=List.mem_range.1 (List.mem_filter.1 ha).1
 show eL l tr (enN (inB l) l.length a)=qN tr G m a
 unfold eL qN
 congr 1
 refine qF tr 0 0 fun i hi=>?_
 rw [Nat.zero_add,Nat.zero_add,←hv]
 rw [←hv]at hi
 have hil:i<l.length:=by have:=(List.getElem?_eq_some_iff.1 hi).1;rwa [List.length_map]at this
 have hw:inB l i=true:=by
  rw [List.getElem?_map,List.getElem?_eq_getElem hil]at hi
  unfold inB
  rw [List.getD,List.getElem?_eq_getElem hil]
  simpa using hi
 rw [Ga l i om,List.countP_map]
 have hp:=HZ (n:=l.length) hil hw
 have hcb:((List.range i).countP (id∘inB l))=(List.range i).countP (inB l):=rfl
 rw [hcb]
 generalize(List.range i).countP (inB l)=b at *
 have hb:b<m:=by rw [hm];exact(List.getElem?_eq_some_iff.1 hp).1
 have he:enN (inB l) l.length b=i:=by
  have:=uc (w:=inB l) (n:=l.length) (a:=b) om
  rw [hp]at this
  exact(Option.some.inj this).symm
 obtain⟨g1,g2⟩:=hL b hb
 rw [←he,g2]
 have hbit:(gM G m a).getD b false=decide (G b=a):=by
  unfold gM
  rw [List.getD,List.getElem?_map,List.getElem?_range hb];rfl
 rw [hbit]
 exact decide_eq_decide.2 (inj _ _ g1 ha)
theorem BV {p:Li→Prop}{l:Li}(h:p l):∀{a b:Tr},a.all p→b.all p→(eQ l a b).all p
 | .leaf i, .leaf j,_,_=>by
  show(if i=j then Tr.leaf i else .node l (.leaf i) (.leaf j)).all p
  split
  ·trivial
  ·exact⟨h,trivial,trivial⟩
 | .leaf _, .node _ _ _,h1,h2=>⟨h,h1,h2⟩
 | .node _ _ _, .leaf _,h1,h2=>⟨h,h1,h2⟩
 | .node _ _ _, .node _ _ _,h1,h2=>⟨h,h1,h2⟩
theorem et {p:Li→Prop}:∀{t:Tr}{c:List Li},t.all p→(ac t c).all p
 | .leaf _,_,_=>trivial
 | .node l a b,c,h=>by
  unfold ac
  split
  ·exact et h.2.1
  ·split
   ·exact et h.2.2
   ·exact BV h.1 (et h.2.1) (et h.2.2)
theorem iu (op:Int) (hop:1≤op∧op≤4) (b:Tr) (hb:b.all fun l=>l.sm):∀(t:Tr) (c:List Li),(t.all fun l=>l.sm)→(∀m∈c,m.sm)→c.length+bo t+bo b≤90000→Pu Tryz.prog 38 [lit (.int .i64 op),rt t,rt b,lqs c] (rt (dI op t b c))
 | .leaf i,c,_,hc,hd=>by
  have d1:=ig b c hb hc (by simp only [bo]at hd;omega)
  have d2:=lD (ac b c) (et hb)
  have d3:=cE true
  have d4:=cE false
  show Pu _ _ _ (rt (qk op i b c))
  unfold qk
  generalize bi (ac b c)=nb at *
  generalize ac b c=rb at *
  clear hb hc hd
  have ho:op=1∨op=2∨op=3∨op=4:=by omega
  have en:rt (.leaf i)=pt (rc (.leaf i)):=rfl
  rw [en,fI]
  rcases ho with rfl|rfl|rfl|rfl <;> cases i
  all_goals
   simp only [Int.reduceEq,true_and,false_and,and_true,and_false,or_false,false_or,or_true,true_or,or_self,if_true,if_false,Bool.false_eq_true,Bool.true_eq_false,reduceCtorEq]
   refine Pi Tryz.func38 fun C=>?_
   repeat(first|(refine A1 ⟨?_⟩;intros)|refine W4 d1 ⟨?_⟩|refine W4 d2 ⟨?_⟩|refine W4 d3 ⟨?_⟩|refine W4 d4 ⟨?_⟩)
   exact E1
 | .node l x y,c,hall,hc,hd=>by
  have hd':c.length+(1+max (bo x) (bo y))+bo b≤90000:=hd
  have p0:=t7 hc hall.1 om
  have d3:=iu op hop b hb x c hall.2.1 hc om
  have d4:=iu op hop b hb y c hall.2.2 hc om
  have n1:=ln c l
  have n2:=ln c l.neg
  have w1:=n7 hc hall.1 om
  have w2:=n7 hc hall.1.neg om
  have d0:=iQ l hall.1.ile
  have d5:=iu op hop b hb x (bZ c l) hall.2.1 (mP hc hall.1) om
  have d6:=iu op hop b hb y (bZ c l.neg) hall.2.2 (mP hc hall.1.neg) om
  have d7:=wh l (dI op x b (bZ c l)) (dI op y b (bZ c l.neg)) hall.1.ile
  unfold dI
  clear hd hd' n1 n2 hc hall hb
  generalize dI op x b c=ra at *
  generalize dI op y b c=rb at *
  generalize dI op x b (bZ c l)=ra' at *
  generalize dI op y b (bZ c l.neg)=rb' at *
  generalize eQ l ra' rb'=rj at *
  generalize bZ c l=c1 at *
  generalize bZ c l.neg=c2 at *
  have en:rt (.node l x y)=pt (rc (.node l x y)):=rfl
  rw [en,eH]
  clear en
  generalize eT c l=z at *
  by_cases h1:z=1
  ·rw [if_pos h1]
   refine Pi Tryz.func38 fun C=>?_
   exact Y2 p0 d3
  ·rw [if_neg h1]
   by_cases h2:z = -1
   ·rw [if_pos h2]
    refine Pi Tryz.func38 fun C=>?_
    exact Y2 p0 d4
   ·rw [if_neg h2]
    refine Pi Tryz.func38 fun C=>?_
    repeat(first|(refine A1 ⟨?_⟩;intros)|refine W4 p0 ⟨?_⟩|refine W4 w1 ⟨?_⟩|refine W4 d0 ⟨?_⟩|refine W4 w2 ⟨?_⟩|refine W4 d5 ⟨?_⟩|refine W4 d6 ⟨?_⟩|refine W4 d7 ⟨?_⟩)
    exact E1
end Go.Ab
