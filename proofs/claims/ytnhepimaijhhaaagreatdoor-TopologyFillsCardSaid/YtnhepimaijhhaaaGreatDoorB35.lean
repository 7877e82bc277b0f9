/- Texts laid one behind the other: TqC, TcF, TqD, GwM. -/
import Derived.Test.YtnhepimaijhhaaaGreatDoorB34
set_option linter.all false
set_option maxHeartbeats 16000000
namespace Go.Ab
open Go.Proofs
variable [Base]
abbrev Dis (x y:PC×Bool):Prop:=∀q,Inn (aa x.1) q→¬Inn (aa y.1) q
theorem dis:∀(t:Tr) (c:PC),cW c→t.lok→Prp t (Inn (aa c))→(∀x∈a9 t c,∀q,Inn (aa x.1) q→Inn (aa c) q)∧(a9 t c).Pairwise Dis
 | .leaf i,c,_,_,_=>⟨fun x hx q h=>by unfold a9 at hx;rw [List.mem_singleton.1 hx]at h;exact h,List.pairwise_singleton _ _⟩
 | .node l a b,c,hc,hl,hp=>by
  obtain⟨hl0,hla,hlb⟩:=hl;obtain⟨p1,p2,p3,p4⟩:=hp
  have q2:Lft (Inn (aa c)) l.neg:=by
   obtain⟨q,h1,h2⟩:=p2;exact⟨q,h1,by rw [bI];grind⟩
  have k1:=(et hc hl0 (ak l)).2 p1;have k2:=(et hc (Li.ok.neg hl0) (ak l.neg)).2 q2;obtain⟨g1,g2⟩:=je hc hl0 (ak l) (d:=(aG (ak l) c l).1) (by rw [←k1]);obtain⟨g3,g4⟩:=je hc (Li.ok.neg hl0) (ak l.neg) (d:=(aG (ak l.neg) c l.neg).1) (by rw [←k2])
  have g5:Inn (aa (aG (ak l.neg) c l.neg).1)=fun q=>Inn (aa c) q∧a6 l q<0:=by
   rw [g4];funext q;rw [bI];exact propext ⟨fun h=>⟨h.1,by have:=h.2;grind⟩,fun h=>⟨h.1,by have:=h.2;grind⟩⟩
  obtain⟨i1,j1⟩:=dis a (aG (ak l) c l).1 g1 hla (by rw [g2];exact p3);obtain⟨i2,j2⟩:=dis b (aG (ak l.neg) c l.neg).1 g3 hlb (by rw [g5];exact p4)
  have r1:∀x∈a9 a (aG (ak l) c l).1,∀q,Inn (aa x.1) q→Inn (aa c) q∧0<a6 l q:=fun x hx q h=>by
   have:=i1 x hx q h;rw [g2]at this;exact this
  have r2:∀x∈a9 b (aG (ak l.neg) c l.neg).1,∀q,Inn (aa x.1) q→Inn (aa c) q∧a6 l q<0:=fun x hx q h=>by
   have:=i2 x hx q h;rw [g5]at this;exact this
  unfold a9;rw [if_pos k1,if_pos k2];refine⟨fun x hx q h=>?_,?_⟩
  ·rcases List.mem_append.1 hx with hx|hx
   ·exact(r1 x hx q h).1
   ·exact(r2 x hx q h).1
  ·refine List.pairwise_append.2 ⟨j1,j2,fun x hx y hy q h1 h2=>?_⟩;have a1:=(r1 x hx q h1).2;have a2:=(r2 y hy q h2).2;grind
theorem F2.at {l:Pts}{Y:RPs}(h:F2 CR l Y){k:Nat}(hk:k<l.length):CR (l.getD k ([],false)) (Y.getD k ([],false)):=by
 obtain⟨y,h1,h2⟩:=h.get (List.getElem?_eq_getElem hk);rw [List.getD,List.getD,List.getElem?_eq_getElem hk,h1];exact h2
theorem Aw {w v:Nat→Bool}{n:Nat}(h:∀k,k<n→w k=v k):gN w n=gN v n:=List.filter_congr fun k hk=>h k (List.mem_range.1 hk)
theorem BP {l:Pts}{Y:RPs}(h:F2 CR l Y):cB Y=(gN (inB l) l.length).map fun k=>(Y.getD k ([],false)).1:=by
 unfold cB;rw [yS ([],false) (fun x=>x.2) Y,List.map_map]
 have e:gN (fun k=>(Y.getD k ([],false)).2) Y.length=gN (inB l) l.length:=by
  rw [←h.len];exact Aw fun k hk=>(h.at hk).f.symm
 rw [e];rfl
theorem ER {l:Pts}{Y:RPs}(h:F2 CR l Y){a:Nat}(ha:a<(gN (inB l) l.length).length):rgA (cB Y) a=(Y.getD (enN (inB l) l.length a) ([],false)).1:=by
 unfold rgA;rw [BP h,List.getD,List.getElem?_map,vF ha];rfl
theorem Lb {l:Pts}{Y:RPs}(h:F2 CR l Y) (hd:l.Pairwise Dis):(cB Y).length=(gN (inB l) l.length).length∧Lbl (cB Y).length (enN (inB l) l.length) (eE l) (pQ (cB Y)):=by
 have hm:(cB Y).length=(gN (inB l) l.length).length:=by rw [BP h,List.length_map]
 refine⟨hm,?_⟩;rw [p7,GB,GI,sC (inB l)];have e1:(List.range l.length).filter (inB l)=(List.range (gN (inB l) l.length).length).map (enN (inB l) l.length):=yE (inB l) l.length;have e2:(([]:List Nat).filter (inB l))=([]:List Nat).map (enN (inB l) l.length):=rfl;rw [e1,e2,Bk,←hm];refine yx (fun a b ha hb hab=>C6 om om hab) _ (fun a ha=>⟨ha,rfl⟩) (fun p hp=>?_);obtain⟨h1,h2⟩:=F8 hp;refine⟨h1,om,?_⟩;have q1:=(BQ (GU (w:=inB l) (n:=l.length) (a:=p.1) om)).1;have q2:=(BQ (GU (w:=inB l) (n:=l.length) (a:=p.2) om)).1;have q3:=C6 (w:=inB l) (n:=l.length) (a:=p.2) (b:=p.1) om om h2;have c1:=h.at q1;have c2:=h.at q2;rw [ER h (a:=p.1) om,ER h (a:=p.2) om]
 have hdis:∀q,Inn (aa (clB l (enN (inB l) l.length p.1))) q→¬Inn (aa (clB l (enN (inB l) l.length p.2))) q:=fun q i1 i2=>by
  have:=List.pairwise_iff_getElem.1 hd _ _ q2 q1 q3 q;unfold clB at i1 i2;rw [List.getD,List.getElem?_eq_getElem q1]at i1;rw [List.getD,List.getElem?_eq_getElem q2]at i2;exact this i2 i1
 rw [yj c1.p c2.p hdis c1.ok c1.m c2.m];exact Ah c1.ok c2.ok
abbrev DN:TypeId:=77
def dO (l:Pts) (i:Nat):Bool:=inB l i&&decide (eE l i=i)
def DW (l:Pts) (i:Nat) (b:Bool) (k:Nat):Bool:=if inB l k&&decide (eE l k=i)then b&&nN (clB l k)else b
def er (l:Pts) (i:Nat):Bool:=(List.range l.length).foldl (DW l i) true
def ff (l:Pts) (t:Tr) (i:Nat):Tr:=a8 (g9 (fun k=>decide (eE l k=i)) t 0) []
def fR (l:Pts) (t:Tr):List (Tr×Bool):=((List.range l.length).filter (dO l)).map fun i=>(ff l t i,er l i)
abbrev cpx (c:Tr×Bool):List SV:=[bt c.1,lit (.bool c.2)]
theorem Ch (c:Tr×Bool):(cpx c).length=2:=rfl
abbrev cps (l:List (Tr×Bool)):SV:=sl (l.map cpx).flatten l.length
theorem rZ {p:Li→Prop}{keep:Nat→Bool}:∀{t:Tr}{k:Nat},t.all p→(g9 keep t k).all p
 | .leaf _,_,_=>trivial
 | .node _ _ _,_,h=>⟨h.1,rZ h.2.1,rZ h.2.2⟩
theorem rX {keep:Nat→Bool}:∀{t:Tr}{k:Nat},t.lok→(g9 keep t k).lok
 | .leaf _,_,_=>trivial
 | .node _ _ _,_,h=>⟨h.1,rX h.2.1,rX h.2.2⟩
theorem rY {keep:Nat→Bool}:∀(t:Tr) (k:Nat),aU (g9 keep t k)=aU t
 | .leaf _,_=>rfl
 | .node _ a b,k=>by simp only [g9,aU,rY a,rY b]
structure MK (L:Nat) (l:Pts):Prop where
 l1:1≤L
 l2:L≤500
 c:∀x∈l,(∀s∈x.1,mO L s)∧x.1.length≤100000
 n:l.length≤1000000
structure Lu where
 k:Nat
 p:Nat→Nat
structure MP where
 k:Nat
 p:Nat→Nat
 s:SV
 Hs:LH
theorem sF (x y z:Nat×TypeId×List SV) (A B:LH):(x::y::z::(A++B)).Perm (A++(x::y::z::B)):=by
 have:=(List.perm_append_comm (l₁:=[x,y,z]) (l₂:=A)).append_right B;simpa using this
theorem A9 (x y z u v:Nat×TypeId×List SV) (A B:LH):(x::y::z::u::v::(A++B)).Perm (A++(x::y::z::u::v::B)):=by
 have:=(List.perm_append_comm (l₁:=[x,y,z,u,v]) (l₂:=A)).append_right B;simpa using this
theorem KL (x y:Nat×TypeId×List SV) (A B:LH):(x::y::(A++B)).Perm (A++(x::y::B)):=by
 have:=(List.perm_append_comm (l₁:=[x,y]) (l₂:=A)).append_right B;simpa using this
theorem Fh (x y z u:Nat×TypeId×List SV) (A B:LH):(x::y::z::u::(A++B)).Perm ((A++[u,z])++(x::y::B)):=by
 have h1:[x,y,z,u].Perm [u,z,x,y]:=(List.perm_append_comm (l₁:=[x,y]) (l₂:=[z,u])).trans (List.Perm.swap _ _ _);have h2:=((h1.append_right A).trans List.perm_append_comm).append_right B;simpa using h2
theorem Fi (x y z u:Nat×TypeId×List SV) (A B:LH):(B++(x::y::(A++[u,z]))).Perm (x::y::z::u::(A++B)):=by
 have h1:[x,y,z,u].Perm [x,y,u,z]:=(List.Perm.swap _ _ _).cons _ |>.cons _
 have h2:(x::y::(A++[u,z])).Perm ([x,y,z,u]++A):=by
  have e:(x::y::(A++[u,z])).Perm ([x,y]++([u,z]++A)):=(List.perm_append_comm (l₁:=A) (l₂:=[u,z])).cons y |>.cons x
  refine e.trans ?_;have:=h1.symm.append_right A;simpa using this
 have h3:=(h2.append_left B).trans List.perm_append_comm;simpa using h3
def fH (l:Pts) (t:Tr) (k:Nat):List (Tr×Bool):=((List.range k).filter (dO l)).map fun i=>(ff l t i,er l i)
theorem wY (l:Pts) (t:Tr) (k:Nat):fH l t (k+1)=if dO l k then fH l t k++[(ff l t k,er l k)]else fH l t k:=by
 unfold fH;rw [List.range_succ,List.filter_append,List.map_append];by_cases h:dO l k=true
 ·rw [if_pos h,List.filter_cons_of_pos h];rfl
 ·rw [if_neg h,List.filter_cons_of_neg h,List.filter_nil,List.map_nil,List.append_nil]
theorem ze (l:Pts) (t:Tr) (k:Nat):(fH l t k).length≤k:=by
 unfold fH;rw [List.length_map];exact Nat.le_trans (List.length_filter_le _ _) (by simp)
theorem Ir {l:List (Tr×Bool)}{c:Tr×Bool}{s:SV}{H:LH}(h:Own DN 2 (l.length+1) ((l.map cpx).flatten++cpx c) s H):Own DN 2 (l++[c]).length ((l++[c]).map cpx).flatten s H:=by
 rw [List.map_append,List.flatten_append,List.length_append];simpa using h
theorem wM {l:Pts}{k:Nat}{c:PC}{i:Bool}(h:l[k]? = some (c,i)):inB l k=i∧clB l k=c:=by
 unfold inB clB;rw [List.getD,h];exact⟨rfl,rfl⟩
theorem Ha {L:Nat}{t:Tr}{l:Pts}{n:Nat}(hl:l=a9 t []) (hnl:n=l.length) (h:MK L l) (hall:t.all fun m=>m.le L) (hlok:t.lok) (hd:aU t≤90000) (hlv:ap t=n):Pu Tryz.prog 26 [bt t] (cps (fR l t)):=by
 have cp:=DV h.l1 h.l2 t hall om (by have:=h.n;omega);rw [←hl]at cp;have hn:=h.n;rw [←hnl]at hn;clear hl;refine Pi Tryz.func26 fun C=>?_
 repeat(first|(refine A1 ⟨?_⟩;intros)|refine W4 cp ⟨?_⟩)
 refine WPL.make (k:=n) (by rw [hnl];rfl) (by rw [hnl];rfl) om om rfl (fun b5=>?_);rw [xY];repeat(refine A1 ⟨?_⟩;intros)
 rename_i b4
 refine WP.loopS (ι:=Nat) (fun k=>k≤n) (fun k=>n-k)
  (fun k=>fm [(0,bt t),(3,pls l),(4,lit (.pointer (some ⟨b4,0,none⟩))),(25,lit (.int .i64 n)),(26,lit (.int .i64 k))]) (fun k=>cY b4 b5 n (idK k)) 0 (Nat.zero_le _) lfA Sr ?_
 rintro k hk K hK;by_cases hkl:k<n
 ·as_aux_lemma =>
  have hgo:=fun F' H'=>hK F' H' (k+1) om om
  have hs:=ow (n:=n) (p:=idK k) (v:=k) hkl;rw [BT]at hs;have hb:=oz (p:=idK k) hkl;clear hK cp;repeat(refine A1 ⟨?_⟩;intros)
  refine WPL.store (b:=b5) (o:=k) (sv:=lit (.int .i64 ((k:Nat):Int))) rfl rfl rfl (.there _ (.here _)) hs hb ?_;repeat(refine A1 ⟨?_⟩;intros)
  exact hgo _ _ lfA Sr
 have hke:n=k:=by omega
 subst hke;clear hK hkl hk cp;refine WP.perm (H':=cY b4 b5 n id) (List.Perm.of_eq (by show cY b4 b5 n (idK n)=_;unfold cY;rw [Fj])) ?_;repeat(refine A1 ⟨?_⟩;intros)
 rename_i b6;refine Ss ?_;refine Ws (sv:=qw b4) ?_;repeat(refine A1 ⟨?_⟩;intros)
 have hlc:∀k,k<n→∃(c:PC) (i:Bool),l[k]? = some (c,i)∧(c,i)∈l∧(((l.map ptx).flatten).drop (k*2)).take 2=[pcs c,pt (bc (.leaf i))]∧(l.map ptx).flatten≠[]:=fun k hk=>by
  obtain⟨⟨c,i⟩,h1,h2,h3,h4⟩:=elt wc om (show k<l.length by omega);exact⟨c,i,h1,h2,h3,h4⟩
 refine WP.loopS (ι:=Lu) (fun y=>y.k≤n∧bP y.p∧∀j,rep y.p j=((List.range y.k).foldl (Hg l) id) j) (fun y=>n-y.k)
  (fun y=>fm [(0,bt t),(3,pls l),(4,lit (.pointer (some ⟨b4,0,none⟩))),(6,lit (.pointer (some ⟨b6,0,none⟩))),(35,pls l),(36,lit (.int .i64 n)),(37,lit (.int .i64 ((y.k:Nat):Int)))])
  (fun y=>(b6,fiT,[qw b4])::cY b4 b5 n y.p) ⟨0,id⟩ ⟨Nat.zero_le _,Dx,fun j=>KD j⟩ (LeF.cons Lr (LeF.cons Lr (LeF.cons Lr (LeF.cons Lr (LeF.cons Lr (LeF.cons (Le.of_eq (by rw [hnl];rfl)) lfA)))))) Sr ?_
 rintro ⟨k,p⟩ ⟨hk,hp,hg⟩ K hK;simp only at hk hp hg⊢;by_cases hkl:k<n
 ·as_aux_lemma =>
  obtain⟨cx,xi,hgx,hmx,hatx,hnex⟩:=hlc k hkl;have hgo:=fun p' (h1:bP p') (h2:∀j,rep p' j=((List.range (k+1)).foldl (Hg l) id) j) F' H'=>hK F' H' ⟨k+1,p'⟩ ⟨by simp only;omega,h1,h2⟩ (by simp only;omega)
  simp only [lx]at hgo;generalize hG:(List.range k).foldl (Hg l) id=G at *;have hgf:∀j,G j≤j:=fun j=>by rw [←hg];exact zV hp j
  clear hK;rw [fg]at hatx;repeat(refine A1 ⟨?_⟩;intros)
  refine Wo (a7 (cs':=[pcs cx,pt [lit (.int .i64 0),lit (.int .i64 0),lit (.pointer none),lit (.int .i64 0),lit (.int .i64 0),lit (.pointer none),lit (.int .i64 0),lit (.int .i64 0),lit (.pointer none),lit (.pointer none),lit (.pointer none),lit (.bool xi)]]) rfl rfl om om hatx hnex) ?_;repeat(refine A1 ⟨?_⟩;intros)
  rename_i b8;refine Wo (Fq k rfl rfl rfl om) ?_;rw [pV wc];repeat(refine A1 ⟨?_⟩;intros)
  refine WP.loopS (ι:=Lu) (fun y=>y.k≤k∧bP y.p∧∀j,rep y.p j=((List.range y.k).foldl (AN l k) G) j) (fun y=>k-y.k)
   (fun y=>fm [(0,bt t),(3,pls l),(4,lit (.pointer (some ⟨b4,0,none⟩))),(6,lit (.pointer (some ⟨b6,0,none⟩))),(7,lit (.int .i64 k)),(8,lit (.pointer (some ⟨b8,0,none⟩))),(35,pls l),(36,lit (.int .i64 n)),(37,lit (.int .i64 ((k:Nat):Int))),(44,sl ((l.take k).map ptx).flatten k),(45,lit (.int .i64 k)),(46,lit (.int .i64 ((y.k:Nat):Int)))])
   (fun y=>(b8,mQ,[pcs cx,pt [lit (.int .i64 0),lit (.int .i64 0),lit (.pointer none),lit (.int .i64 0),lit (.int .i64 0),lit (.pointer none),lit (.int .i64 0),lit (.int .i64 0),lit (.pointer none),lit (.pointer none),lit (.pointer none),lit (.bool xi)]])::(b6,fiT,[qw b4])::cY b4 b5 n y.p) ⟨0,p⟩ ⟨Nat.zero_le _,hp,hg⟩ lfA Sr ?_
  clear hp hg;rintro ⟨j,p1⟩ ⟨hj,hp,hg⟩ K2 hK2;simp only at hj hp hg⊢;by_cases hjl:j<k
  ·obtain⟨⟨cy,yi⟩,hgy,hmy,haty,hney⟩:=elt (l:=l.take k) wc om (show j<(l.take k).length by rw [List.length_take];omega);rw [List.getElem?_take,if_pos hjl]at hgy;have hmy:=List.mem_of_getElem? hgy;rw [show ptx (cy,yi)=[pcs cy,pt (bc (.leaf yi))]from rfl,fg]at haty;have hgo2:=fun p' (h1:bP p') (h2:∀i,rep p' i=((List.range (j+1)).foldl (AN l k) G) i) F' H'=>hK2 F' H' ⟨j+1,p'⟩ ⟨by simp only;omega,h1,h2⟩ (by simp only;omega)
   simp only [lx]at hgo2;generalize hJ:(List.range j).foldl (AN l k) G=J at *;have hjn:j<n:=by omega
   clear hK2 hgo;repeat(refine A1 ⟨?_⟩;intros)
   refine Wo (a7 (cs':=[pcs cy,pt [lit (.int .i64 0),lit (.int .i64 0),lit (.pointer none),lit (.int .i64 0),lit (.int .i64 0),lit (.pointer none),lit (.int .i64 0),lit (.int .i64 0),lit (.pointer none),lit (.pointer none),lit (.pointer none),lit (.bool yi)]]) rfl rfl om om haty hney) ?_;repeat(first|(refine AS ⟨?_⟩;intros)|(refine O1 ⟨?_⟩;intros))
   rename_i b10;refine WP.perm (sF _ _ _ (cY b4 b5 n p1) []) ?_;refine WdZ 6 [0,1,3,4,2,5] [2,5] (cY b4 b5 n p1) _ ?_;refine ZkD 4 ?_;repeat(refine A1 ⟨?_⟩;intros)
   refine jh ?_;refine K6 (oT hp (show k<n by omega) hn b4 b5) (tk2 _ _) ?_;rintro _ _ ⟨rfl,p2,k1,k2,rfl⟩;simp only [List.append_nil];refine K6 (oT k1 hjn hn b4 b5) (tk2 _ _) ?_;rintro _ _ ⟨rfl,p3,k3,k4,rfl⟩;simp only [List.append_nil];refine ZkN ?_;refine WPL.perm (sF _ _ _ (cY b4 b5 n p3) []).symm ?_;have hr3:∀i,rep p3 i=J i:=fun i=>by rw [k4,k2,hg]
   rw [hg k,k2,hg j];have hJk:J k<n:=by rw [←hg];have:=zV hp k;omega
   have hJj:J j<n:=by rw [←hg];have:=zV hp j;omega
   replace hgo2:=fun p' h1 h2=>hgo2 p' h1 h2
   have hin:=wM hgx;have hiy:=wM hgy;unfold AN jnB at hgo2;rw [hin.1,hin.2,hiy.1,hiy.2]at hgo2;have ct:=zD h.l1 h.l2 (h.c _ hmx).1 (h.c _ hmy).1 (h.c _ hmx).2 (h.c _ hmy).2;simp only at ct
   have hj1:J k≠J j→bP (gu p3 (max (J k) (J j)) (min (J k) (J j)))∧∀i,rep (gu p3 (max (J k) (J j)) (min (J k) (J j))) i=lP J k j i:=fun hne=>⟨qu k3 _ _,fun i=>by
    have e:=yB k3 (i:=k) (k:=j) (by rw [hr3,hr3];exact hne);rw [hr3,hr3]at e;rw [e];unfold lP;rw [hr3,hr3,hr3]⟩
   clear hin hiy hgx hgy hmx hmy hatx hnex haty hney hG hJ hg k1 k2 k4 hp hgf;cases xi with
   |false =>
    simp only [Bool.false_and,Bool.false_eq_true,if_false]at hgo2;replace hgo2:=hgo2 p3 k3 hr3;clear ct hj1;repeat(refine A1 ⟨?_⟩;intros)
    exact hgo2 _ _ lfA (Sc Sr)
   |true =>
    cases yi with
    |false =>
     simp only [Bool.false_and,Bool.and_false,Bool.false_eq_true,if_false]at hgo2;replace hgo2:=hgo2 p3 k3 hr3;clear ct hj1;repeat(refine A1 ⟨?_⟩;intros)
     exact hgo2 _ _ lfA (Sc Sr)
    |true =>
     by_cases he:J k=J j
     ·simp only [he,ne_eq,not_true,decide_false,Bool.false_and,Bool.and_false,Bool.false_eq_true,if_false]at hgo2;replace hgo2:=hgo2 p3 k3 hr3;clear ct hj1;rw [he];repeat(refine A1 ⟨?_⟩;intros)
      exact hgo2 _ _ lfA (Sc Sr)
     ·cases ht:dD cx cy with
      |false =>
       simp only [ht,Bool.false_and,Bool.and_false,Bool.false_eq_true,if_false]at hgo2;replace hgo2:=hgo2 p3 k3 hr3;rw [ht]at ct;clear hj1;repeat(first|(refine A1 ⟨?_⟩;intros)|refine W4 ct ⟨?_⟩)
       exact hgo2 _ _ lfA (Sc Sr)
      |true =>
       have hde:decide (J k≠J j)=true:=decide_eq_true he;simp only [ht,hde,Bool.and_self,if_true]at hgo2;replace hgo2:=hgo2 _ (hj1 he).1 (hj1 he).2;rw [ht]at ct;clear hj1 hde;have hs:=ow (n:=n) (p:=p3) (i:=max (J k) (J j)) (v:=min (J k) (J j)) om;have hb:=oz (n:=n) (p:=p3) (i:=max (J k) (J j)) om;have e1:(if((J k:Nat):Int)<((J j:Nat):Int)then((J j:Nat):Int)else((J k:Nat):Int))=((max (J k) (J j):Nat):Int):=by split <;> omega
       have e2:(if((J j:Nat):Int)<((J k:Nat):Int)then((J j:Nat):Int)else((J k:Nat):Int))=((min (J k) (J j):Nat):Int):=by split <;> omega
       have hmx:max (J k) (J j)<n:=by omega
       generalize max (J k) (J j)=M at *;generalize min (J k) (J j)=m at *;repeat(first|(refine A1 ⟨?_⟩;intros)|refine W4 ct ⟨?_⟩)
       refine Wo (lA rfl rfl (r:=(M:Int)) e1) ?_;repeat(refine A1 ⟨?_⟩;intros)
       refine Wo (n9 rfl rfl (r:=(m:Int)) e2) ?_;repeat(refine A1 ⟨?_⟩;intros)
       refine WPL.store (b:=b5) (o:=M) (sv:=lit (.int .i64 ((m:Nat):Int))) rfl rfl rfl (.there _ (.there _ (.there _ (.there _ (.here _))))) hs hb ?_;repeat(refine A1 ⟨?_⟩;intros)
       exact hgo2 _ _ lfA (Sc Sr)
  ·have hje:j=k:=by omega
   subst hje;replace hgo:=hgo p1 hp hg;clear hK2;repeat(refine A1 ⟨?_⟩;intros)
   exact hgo _ _ lfA (Sc Sr)
 ·have hke:k=n:=by omega
  subst hke;clear hK;replace hg:∀j,rep p j=eE l j:=fun j=>by rw [hg,hnl];rfl
  generalize hGe:eE l=G at *;refine WP.perm (H':=(b6,fiT,[qw b4])::(cY b4 b5 k p++[])) (List.Perm.of_eq (by rw [List.append_nil])) ?_;rw [show fR l t=fH l t k by rw [hnl];rfl];have hcr:∀i,dO l i=(inB l i&&decide (G i=i)):=fun i=>by unfold dO;rw [hGe]
  have hbs:∀i,DW l i=fun b j=>if inB l j&&decide (G j=i)then b&&nN (clB l j)else b:=fun i=>by funext b j;unfold DW;rw [hGe]
  repeat(refine A1 ⟨?_⟩;intros)
  refine WP.loopS (ι:=MP) (fun y=>y.k≤k∧bP y.p∧(∀j,rep y.p j=G j)∧Own DN 2 (fH l t y.k).length ((fH l t y.k).map cpx).flatten y.s y.Hs) (fun y=>k-y.k)
   (fun y=>fm [(0,bt t),(3,pls l),(4,lit (.pointer (some ⟨b4,0,none⟩))),(6,lit (.pointer (some ⟨b6,0,none⟩))),(13,y.s),(91,pls l),(92,lit (.int .i64 k)),(93,lit (.int .i64 ((y.k:Nat):Int)))])
   (fun y=>(b6,fiT,[qw b4])::(cY b4 b5 k y.p++y.Hs)) ⟨0,p,lit (.slice none 0 0),[]⟩ ⟨Nat.zero_le _,hp,hg,Own.nil _ _⟩ (LeF.cons Lr (LeF.cons Lr (LeF.cons Lr (LeF.cons Lr (LeF.cons Lr (LeF.cons Lr (LeF.cons (Le.of_eq (by rw [hnl];rfl)) lfA))))))) Sr ?_
  clear hp hg;rintro ⟨i,p,so,Hs⟩ ⟨hi,hp,hg,hown⟩ K hK;simp only at hi hp hg hown⊢;by_cases hil:i<k
  ·obtain⟨cx,xi,hgx,hmx,hatx,hnex⟩:=hlc i hil;have hin:=wM hgx;have hgo:=fun p' so' Hs' (h1:bP p') (h2:∀j,rep p' j=G j) (h3:Own DN 2 (fH l t (i+1)).length ((fH l t (i+1)).map cpx).flatten so' Hs') F' H'=>hK F' H' ⟨i+1,p',so',Hs'⟩ ⟨by simp only;omega,h1,h2,h3⟩ (by simp only;omega)
   simp only at hgo;rw [wY,hcr,hin.1]at hgo;have hle:=ze l t i;rw [fg]at hatx;clear hK hgx hmx;cases xi with
   |false =>
    as_aux_lemma =>
    rw [Bool.false_and,if_neg (by decide)]at hgo;replace hgo:=hgo p so Hs hp hg hown;repeat(refine A1 ⟨?_⟩;intros)
    refine Wo (a7 (cs':=[pcs cx,pt [lit (.int .i64 0),lit (.int .i64 0),lit (.pointer none),lit (.int .i64 0),lit (.int .i64 0),lit (.pointer none),lit (.int .i64 0),lit (.int .i64 0),lit (.pointer none),lit (.pointer none),lit (.pointer none),lit (.bool false)]]) rfl rfl om om hatx hnex) ?_;repeat(refine A1 ⟨?_⟩;intros)
    exact hgo _ _ lfA (Sc (Sc Sr))
   |true =>
    rw [Bool.true_and]at hgo;repeat(refine A1 ⟨?_⟩;intros)
    refine Wo (a7 (cs':=[pcs cx,pt [lit (.int .i64 0),lit (.int .i64 0),lit (.pointer none),lit (.int .i64 0),lit (.int .i64 0),lit (.pointer none),lit (.int .i64 0),lit (.int .i64 0),lit (.pointer none),lit (.pointer none),lit (.pointer none),lit (.bool true)]]) rfl rfl om om hatx hnex) ?_;repeat(first|(refine AS ⟨?_⟩;intros)|(refine O1 ⟨?_⟩;intros))
    rename_i b14 b15;refine WP.perm (sF _ _ _ (cY b4 b5 k p) Hs) ?_;refine WdZ 13 [0,1,2,3,4,5,6,7,8,10,9,11,12] [9] (cY b4 b5 k p) _ ?_;refine ZkD 10 ?_;repeat(refine A1 ⟨?_⟩;intros)
    refine jh ?_;refine Ko (oT hp hil hn b4 b5) (tk2 _ _) ?_;rintro _ _ ⟨rfl,p1,k1,k2,rfl⟩;simp only [List.append_nil];rw [hg i];replace k2:∀j,rep p1 j=G j:=fun j=>by rw [k2,hg]
    clear hp hg p;by_cases hGi:G i=i
    ·rw [hGi];refine ZkD 2 ?_;repeat(refine A1 ⟨?_⟩;intros)
     refine jh ?_;refine ZkN ?_;refine WPL.perm (sF _ _ _ (cY b4 b5 k p1) Hs).symm ?_;repeat(refine A1 ⟨?_⟩;intros)
     rename_i b16
     refine WP.loopS (ι:=Lu) (fun y=>y.k≤k∧bP y.p∧∀j,rep y.p j=G j) (fun y=>k-y.k)
      (fun y=>fm [(0,bt t),(3,pls l),(4,lit (.pointer (some ⟨b4,0,none⟩))),(6,lit (.pointer (some ⟨b6,0,none⟩))),(13,so),(14,lit (.pointer (some ⟨b14,0,none⟩))),(16,lit (.pointer (some ⟨b16,0,none⟩))),(91,pls l),(92,lit (.int .i64 k)),(93,lit (.int .i64 ((i:Nat):Int))),(112,pls l),(113,lit (.int .i64 k)),(114,lit (.int .i64 ((y.k:Nat):Int)))])
      (fun y=>(b16,DN,[lit (.pointer none),lit (.bool ((List.range y.k).foldl (DW l i) true))])::(b15,mQ,[pcs cx,pt [lit (.int .i64 0),lit (.int .i64 0),lit (.pointer none),lit (.int .i64 0),lit (.int .i64 0),lit (.pointer none),lit (.int .i64 0),lit (.int .i64 0),lit (.pointer none),lit (.pointer none),lit (.pointer none),lit (.bool true)]])::(b14,iT,[lit (.int .i64 ((i:Nat):Int))])::(b6,fiT,[qw b4])::(cY b4 b5 k y.p++Hs)) ⟨0,p1⟩ ⟨Nat.zero_le _,k1,k2⟩ (LeF.cons Lr (LeF.cons Lr (LeF.cons Lr (LeF.cons Lr (LeF.cons Lr (LeF.cons Lr (LeF.cons Lr (LeF.cons Lr (LeF.cons Lr (LeF.cons Lr (LeF.cons Lr (LeF.cons (Le.of_eq (by rw [hnl];rfl)) lfA)))))))))))) Sr ?_
     clear k1 k2;rintro ⟨j,p1⟩ ⟨hj,k1,k2⟩ K2 hK2;simp only at hj k1 k2⊢;by_cases hjl:j<k
     ·obtain⟨cy,yi,hgy,hmy,haty,hney⟩:=hlc j hjl;have hiy:=wM hgy;have hgo2:=fun p' (h1:bP p') (h2:∀i,rep p' i=G i) F' H'=>hK2 F' H' ⟨j+1,p'⟩ ⟨by simp only;omega,h1,h2⟩ (by simp only;omega)
      simp only [lx]at hgo2;generalize(List.range j).foldl (DW l i) true=B at *;rw [hbs]at hgo2;simp only [hiy.1,hiy.2]at hgo2;have cb:=zj cy (h.c _ hmy).2;rw [fg]at haty;clear hK2 hgo hgy hmy hown;cases yi with
      |false =>
       as_aux_lemma =>
       simp only [Bool.false_and,Bool.false_eq_true,if_false]at hgo2;replace hgo2:=hgo2 p1 k1 k2;repeat(refine A1 ⟨?_⟩;intros)
       refine Wo (a7 (cs':=[pcs cy,pt [lit (.int .i64 0),lit (.int .i64 0),lit (.pointer none),lit (.int .i64 0),lit (.int .i64 0),lit (.pointer none),lit (.int .i64 0),lit (.int .i64 0),lit (.pointer none),lit (.pointer none),lit (.pointer none),lit (.bool false)]]) rfl rfl om om haty hney) ?_;repeat(refine A1 ⟨?_⟩;intros)
       exact hgo2 _ _ lfA (Sc Sr)
      |true =>
       rw [Bool.true_and]at hgo2;repeat(refine A1 ⟨?_⟩;intros)
       refine Wo (a7 (cs':=[pcs cy,pt [lit (.int .i64 0),lit (.int .i64 0),lit (.pointer none),lit (.int .i64 0),lit (.int .i64 0),lit (.pointer none),lit (.int .i64 0),lit (.int .i64 0),lit (.pointer none),lit (.pointer none),lit (.pointer none),lit (.bool true)]]) rfl rfl om om haty hney) ?_;repeat(first|(refine AS ⟨?_⟩;intros)|(refine O1 ⟨?_⟩;intros))
       rename_i b18;refine WP.perm (A9 _ _ _ _ _ (cY b4 b5 k p1) Hs) ?_;refine WdZ 12 [0,1,2,3,4,5,6,7,9,8,10,11] [8] (cY b4 b5 k p1) _ ?_;refine ZkD 9 ?_;repeat(refine A1 ⟨?_⟩;intros)
       refine jh ?_;refine Ko (oT k1 hjl hn b4 b5) (tk2 _ _) ?_;rintro _ _ ⟨rfl,p2,m1,m2,rfl⟩;simp only [List.append_nil];rw [k2 j];replace m2:∀j,rep p2 j=G j:=fun j=>by rw [m2,k2]
       clear k1 k2 p1;by_cases hGj:G j=i
       ·simp only [hGj,decide_true,if_true]at hgo2;replace hgo2:=hgo2 p2 m1 m2;rw [hGj];refine ZkD 2 ?_;repeat(refine A1 ⟨?_⟩;intros)
        refine jh ?_;refine ZkN ?_;refine WPL.perm (A9 _ _ _ _ _ (cY b4 b5 k p2) Hs).symm ?_;cases B with
        |false =>
         as_aux_lemma =>
         rw [Bool.false_and]at hgo2;repeat(refine A1 ⟨?_⟩;intros)
         exact hgo2 _ _ lfA (Sc Sr)
        |true =>
         as_aux_lemma =>
         rw [Bool.true_and]at hgo2;generalize nN cy=bb at *;repeat(first|(refine A1 ⟨?_⟩;intros)|refine W4 cb ⟨?_⟩)
         exact hgo2 _ _ lfA (Sc Sr)
       ·have hde:decide (G j=i)=false:=decide_eq_false hGj;simp only [hde,Bool.false_eq_true,if_false]at hgo2;replace hgo2:=hgo2 p2 m1 m2;refine ZkD 2 ?_;repeat(refine A1 ⟨?_⟩;intros)
        refine jh ?_;refine ZkN ?_;refine WPL.perm (A9 _ _ _ _ _ (cY b4 b5 k p2) Hs).symm ?_;repeat(refine A1 ⟨?_⟩;intros)
        exact hgo2 _ _ lfA (Sc Sr)
     ·have hje:j=k:=by omega
      subst hje;clear hK2;have hbe:(List.range j).foldl (DW l i) true=er l i:=by rw [hnl];rfl
      rw [hbe];have hse:(fun x=>decide (rep p1 x=i))=fun x=>decide (eE l x=i):=funext fun x=>by rw [k2,hGe]
      have cs:=xE hn b4 b5 b6 b14 i t p1 k1 om;rw [hse]at cs;have cr:=nM h.l1 h.l2 (g9 (fun x=>decide (eE l x=i)) t 0) (rZ hall) (by rw [rY];omega);rw [mU ak (rX hlok)]at cr;have ect:a8 (g9 (fun x=>decide (eE l x=i)) t 0) []=ff l t i:=rfl;rw [ect]at cr;generalize g9 (fun x=>decide (eE l x=i)) t 0=st at *;rw [if_pos (decide_eq_true hGi)]at hgo;clear hse hbe ect;generalize ff l t i=ct at *;generalize er l i=cb at *;generalize fH l t i=D at *;repeat(refine A1 ⟨?_⟩;intros)
      refine WPL.perm (Fh _ _ _ _ (cY b4 b5 j p1) Hs) ?_;refine WfT cs ?_ (hs:=Tk.cons (.here _) (Tk.cons (.here _) (Tk.cons (.here _) (Tk.cons (.here _) (Tk.nil _)))));rintro _ _ ⟨rfl,p2,m1,m2,rfl⟩;replace m2:∀x,rep p2 x=G x:=fun x=>by rw [m2,k2]
      clear cs k1 k2;simp only [List.cons_append];repeat(first|(refine Wo (aE [bt ct,lit (.bool cb)] rfl) ?_)|(refine Wdo (aE [bt ct,lit (.bool cb)] rfl) ?_)|(refine A1 ⟨?_⟩;intros)|refine W4 cr ⟨?_⟩)
      refine xj (ds:=cpx (ct,cb)) hown (Rs:=(b16,DN,[bt ct,lit (.bool cb)])::(b15,mQ,[pcs cx,pt [lit (.int .i64 0),lit (.int .i64 0),lit (.pointer none),lit (.int .i64 0),lit (.int .i64 0),lit (.pointer none),lit (.int .i64 0),lit (.int .i64 0),lit (.pointer none),lit (.pointer none),lit (.pointer none),lit (.bool true)]])::(cY b4 b5 j p2++qt b4 b6 b14 i)) (KL _ _ Hs _) om (fun s' H1 hown'=>?_);replace hgo:=hgo p2 s' H1 m1 m2 (Ir hown');clear hown hown';refine WPL.perm (Fi _ _ _ _ (cY b4 b5 j p2) H1) ?_;repeat(refine A1 ⟨?_⟩;intros)
      exact hgo _ _ lfA (Sc (Sc (Sc Sr)))
    ·as_aux_lemma =>
     rw [if_neg (by simpa using hGi)]at hgo;replace hgo:=hgo p1 so Hs k1 k2 hown;refine ZkD 2 ?_;repeat(refine A1 ⟨?_⟩;intros)
     refine jh ?_;refine ZkN ?_;refine WPL.perm (sF _ _ _ (cY b4 b5 k p1) Hs).symm ?_;repeat(refine A1 ⟨?_⟩;intros)
     exact hgo _ _ lfA (Sc (Sc Sr))
  ·have hie:i=k:=by omega
   subst hie;clear hK;refine WP.rowS 13 hown rfl (R:=(b6,fiT,[qw b4])::cY b4 b5 i p) ?_ ?_
   ·refine(List.Perm.cons _ List.perm_append_comm).trans ?_;exact List.perm_middle.symm
   exact Z1
theorem rW {kp kq:Nat→Bool}:∀(t:Tr) (k a:Nat),(∀i,(lvs t)[i]? = some true→kp (k+i)=kq (a+((lvs t).take i).countP id))→g9 kp t k=fx kq t a
 | .leaf i,k,a,h=>by
  cases i with
  |false=>rfl
  |true =>
   have:=h 0 rfl;simp only [Nat.add_zero,List.take_zero,List.countP_nil]at this;unfold g9 fx;rw [this]
 | .node l x y,k,a,h=>by
  have hx:=qY x;have ix:=qZ x
  have h1:=rW (kp:=kp) (kq:=kq) x k a fun i hi=>by
   have hlt:=(List.getElem?_eq_some_iff.1 hi).1;have:=h i (by unfold lvs;rw [List.getElem?_append_left hlt];exact hi);unfold lvs at this;rwa [List.take_append_of_le_length om]at this
  have h2:=rW (kp:=kp) (kq:=kq) y (k+ap x) (a+jF x) fun i hi=>by
   have:=h (ap x+i) (by unfold lvs;rw [List.getElem?_append_right om,hx,Nat.add_sub_cancel_left];exact hi);unfold lvs at this;rw [List.take_append,List.take_of_length_le om,hx,Nat.add_sub_cancel_left,List.countP_append,←ix]at this;rw [Nat.add_assoc,this,Nat.add_assoc]
  unfold g9 fx;rw [h1,h2]
theorem Ju {w:Nat→Bool}{n i:Nat}(hi:i<n) (hw:w i=true):(gN w n)[(List.range i).countP w]? = some i:=by
 obtain⟨r,rfl⟩:∃r,n=(i+1)+r:=⟨n-(i+1),om⟩
 unfold gN;rw [List.range_add,List.range_succ,List.filter_append,List.filter_append,List.countP_eq_length_filter,List.append_assoc,List.getElem?_append_right (Nat.le_refl _),Nat.sub_self,List.filter_cons_of_pos hw];rfl
theorem HW (l:Pts):∀i,i≤l.length→(l.map Prod.snd).take i=(List.range i).map (inB l):=fun i hi=>by
 refine List.ext_getElem? fun j=>?_
 rw [List.getElem?_map,List.getElem?_take];by_cases hj:j<i
 ·have hjl:j<l.length:=by omega
  rw [if_pos hj,List.getElem?_range hj,List.getElem?_map,List.getElem?_eq_getElem hjl];show some (l[j]).2=some (l.getD j ([],false)).2
  rw [List.getD,List.getElem?_eq_getElem hjl];rfl
 ·rw [if_neg hj,List.getElem?_eq_none (by simpa using hj)];rfl
theorem Aa {tr:Tr}{l:Pts}{Y:RPs}(h:F2 CR l Y) (hd:l.Pairwise Dis) (hv:l.map Prod.snd=lvs tr):(fR l tr).map Prod.fst=cO tr (pQ (cB Y)) (cB Y).length (cB Y).length:=by
 obtain⟨hm,hL⟩:=Lb h hd;generalize pQ (cB Y)=G at *;generalize(cB Y).length=m at *;clear h
 have inj:∀x y,x<m→y<m→(enN (inB l) l.length x=enN (inB l) l.length y↔x=y):=fun x y hx hy=>by
  refine⟨fun q=>?_,fun q=>by rw [q]⟩;rcases Nat.lt_trichotomy x y with c|c|c
  ·have:=C6 (w:=inB l) (n:=l.length) (a:=x) (b:=y) om om c;omega
  ·exact c
  ·have:=C6 (w:=inB l) (n:=l.length) (a:=y) (b:=x) om om c;omega
 have hroot:(List.range l.length).filter (dO l)=((List.range m).filter fun a=>decide (G a=a)).map (enN (inB l) l.length):=by
  have e1:(List.range l.length).filter (dO l)=(gN (inB l) l.length).filter fun i=>decide (eE l i=i):=by
   unfold gN;rw [List.filter_filter];exact List.filter_congr fun i _=>by unfold dO;rw [Bool.and_comm]
  rw [e1,yE,←hm,List.filter_map];congr 1
  refine List.filter_congr fun a ha=>?_
  have ha:=List.mem_range.1 ha;obtain⟨g1,g2⟩:=hL a ha;show decide (eE l (enN (inB l) l.length a)=enN (inB l) l.length a)=_
  rw [g2];exact decide_eq_decide.2 (inj _ _ g1 ha)
 unfold fR cO;rw [hroot,List.map_map,List.map_map];refine List.map_congr_left fun a ha=>?_
 have ha:=List.mem_range.1 (List.mem_filter.1 ha).1;show ff l tr (enN (inB l) l.length a)=s9 tr G m a
 unfold ff s9;congr 1
 refine rW tr 0 0 fun i hi=>?_
 rw [Nat.zero_add,Nat.zero_add,←hv];rw [←hv]at hi;have hil:i<l.length:=by have:=(List.getElem?_eq_some_iff.1 hi).1;rwa [List.length_map]at this
 have hw:inB l i=true:=by
  rw [List.getElem?_map,List.getElem?_eq_getElem hil]at hi;unfold inB;rw [List.getD,List.getElem?_eq_getElem hil];simpa using hi
 rw [HW l i om,List.countP_map];have hp:=Ju (n:=l.length) hil hw;have hcb:((List.range i).countP (id∘inB l))=(List.range i).countP (inB l):=rfl;rw [hcb];generalize(List.range i).countP (inB l)=b at *;have hb:b<m:=by rw [hm];exact(List.getElem?_eq_some_iff.1 hp).1
 have he:enN (inB l) l.length b=i:=by
  have:=vF (w:=inB l) (n:=l.length) (a:=b) om;rw [hp]at this;exact(Option.some.inj this).symm
 obtain⟨g1,g2⟩:=hL b hb;rw [←he,g2]
 have hbit:(iu G m a).getD b false=decide (G b=a):=by
  unfold iu;rw [List.getD,List.getElem?_map,List.getElem?_range hb];rfl
 rw [hbit];exact decide_eq_decide.2 (inj _ _ g1 ha)
theorem Dm {p:Li→Prop}{l:Li}(h:p l):∀{a b:Tr},a.all p→b.all p→(ez l a b).all p
 | .leaf i, .leaf j,_,_=>by
  show(if i=j then Tr.leaf i else .node l (.leaf i) (.leaf j)).all p
  split
  ·trivial
  ·exact⟨h,trivial,trivial⟩
 | .leaf _, .node _ _ _,h1,h2=>⟨h,h1,h2⟩
 | .node _ _ _, .leaf _,h1,h2=>⟨h,h1,h2⟩
 | .node _ _ _, .node _ _ _,h1,h2=>⟨h,h1,h2⟩
theorem eR {p:Li→Prop}:∀{t:Tr}{c:List Li},t.all p→(a8 t c).all p
 | .leaf _,_,_=>trivial
 | .node l a b,c,h=>by
  unfold a8;split
  ·exact eR h.2.1
  ·split
   ·exact eR h.2.2
   ·exact Dm h.1 (eR h.2.1) (eR h.2.2)
theorem gE (op:Int) (hop:1≤op∧op≤4) (b:Tr) (hb:b.all fun l=>l.sm):∀(t:Tr) (c:List Li),(t.all fun l=>l.sm)→(∀m∈c,m.sm)→c.length+aU t+aU b≤90000→Pu Tryz.prog 38 [lit (.int .i64 op),rt t,rt b,lqs c] (rt (cD op t b c))
 | .leaf i,c,_,hc,hd=>by
  have d1:=iV b c hb hc (by simp only [aU]at hd;omega);have d2:=mh (a8 b c) (eR hb);have d3:=cP true;have d4:=cP false;show Pu _ _ _ (rt (ry op i b c))
  unfold ry;generalize aN (a8 b c)=nb at *;generalize a8 b c=rb at *;clear hb hc hd;have ho:op=1∨op=2∨op=3∨op=4:=by omega
  have en:rt (.leaf i)=pt (rc (.leaf i)):=rfl;rw [en,gf];rcases ho with rfl|rfl|rfl|rfl <;> cases i
  all_goals
   simp only [Int.reduceEq,true_and,false_and,and_true,and_false,or_false,false_or,or_true,true_or,or_self,if_true,if_false,Bool.false_eq_true,Bool.true_eq_false,reduceCtorEq];refine Pi Tryz.func38 fun C=>?_
   repeat(first|(refine A1 ⟨?_⟩;intros)|refine W4 d1 ⟨?_⟩|refine W4 d2 ⟨?_⟩|refine W4 d3 ⟨?_⟩|refine W4 d4 ⟨?_⟩)
   exact E1
 | .node l x y,c,hall,hc,hd=>by
  have hd':c.length+(1+max (aU x) (aU y))+aU b≤90000:=hd;have p0:=uz hc hall.1 om;have d3:=gE op hop b hb x c hall.2.1 hc om;have d4:=gE op hop b hb y c hall.2.2 hc om;have n1:=lZ c l;have n2:=lZ c l.neg;have w1:=o8 hc hall.1 om;have w2:=o8 hc hall.1.neg om;have d0:=jk l hall.1.ile;have d5:=gE op hop b hb x (cq c l) hall.2.1 (nS hc hall.1) om;have d6:=gE op hop b hb y (cq c l.neg) hall.2.2 (nS hc hall.1.neg) om;have d7:=xM l (cD op x b (cq c l)) (cD op y b (cq c l.neg)) hall.1.ile;unfold cD;clear hd hd' n1 n2 hc hall hb;generalize cD op x b c=ra at *;generalize cD op y b c=rb at *;generalize cD op x b (cq c l)=ra' at *;generalize cD op y b (cq c l.neg)=rb' at *;generalize ez l ra' rb'=rj at *;generalize cq c l=c1 at *;generalize cq c l.neg=c2 at *;have en:rt (.node l x y)=pt (rc (.node l x y)):=rfl;rw [en,eN];clear en;generalize fo c l=z at *;by_cases h1:z=1
  ·rw [if_pos h1];refine Pi Tryz.func38 fun C=>?_
   exact Y2 p0 d3
  ·rw [if_neg h1];by_cases h2:z = -1
   ·rw [if_pos h2];refine Pi Tryz.func38 fun C=>?_
    exact Y2 p0 d4
   ·rw [if_neg h2];refine Pi Tryz.func38 fun C=>?_
    repeat(first|(refine A1 ⟨?_⟩;intros)|refine W4 p0 ⟨?_⟩|refine W4 w1 ⟨?_⟩|refine W4 d0 ⟨?_⟩|refine W4 w2 ⟨?_⟩|refine W4 d5 ⟨?_⟩|refine W4 d6 ⟨?_⟩|refine W4 d7 ⟨?_⟩)
    exact E1
end Go.Ab
