/- Texts laid one behind the other: TmI, TmJ, TqE, TqF, TqG, PEach. -/
import Derived.Test.YtnhepimaijhhaaaGreatDoorB35
set_option linter.all false
set_option maxHeartbeats 16000000
namespace Go.Ab
open Go.Proofs
variable [Base]
theorem zU {L:List (List Li)}{k:Nat}(h:k<L.length):(((L.map fun c=>[lqs c]).flatten).drop (k*1)).take 1=[lqs (rgA L k)]∧rgA L k∈L:=by
 obtain⟨x,h1,h2,h3,_⟩:=elt (f:=fun c=>[lqs c]) (n:=1) (fun _=>rfl) om h;have e:rgA L k=x:=by unfold rgA;rw [List.getD,h1];rfl
 rw [e];exact⟨h3,h2⟩
theorem KM (x y:Nat×TypeId×List SV) (A:LH):(x::(A++[y])).Perm (A++[x,y]):=List.perm_middle.symm
theorem uA {t:Tr}(hall:t.all fun l=>l.sm) (hd:aU t≤90000){tr:Tr}(htr:tr=a8 t []) (hdr:aU tr≤10000) (hlr:ap tr≤1000000) (hin:jF tr≤(cB (aF tr [])).length) :
  Pu Tryz.prog 12 [rt t] (rts (cO tr (pQ (cB (aF tr []))) (cB (aF tr [])).length (cB (aF tr [])).length)):=by
 have c1:=fL t hall hd;rw [←htr]at c1;have hallr:tr.all fun l=>l.sm:=by rw [htr];exact eR hall
 have c2:=Bc hallr om hlr;have hs:=fun x hx=>BO hallr (x:=x) hx
 have hn:=Nat.le_trans (kg (aF tr [])) (dU tr []);clear hall hd htr;generalize hL:cB (aF tr [])=L at *;generalize hnl:L.length=n at *;clear hL
 have cn:∀i k,i<n→k<n→Pu Tryz.prog 32 [lqs (rgA L k),lqs (rgA L i)] (lit (.bool (gL (rgA L k) (rgA L i)))):=fun i k hi hk=>by
  obtain⟨_,m1⟩:=zU (L:=L) (k:=i) om;obtain⟨_,m2⟩:=zU (L:=L) (k:=k) om;exact CH (hs _ m2).1 (hs _ m1).1 (by have:=(hs _ m2).2;omega) (by have:=(hs _ m1).2;omega)
 have hre:∀k,k<n→(((L.map fun c=>[lqs c]).flatten).drop (k*1)).take 1=[lqs (rgA L k)]:=fun k hk=>(zU (L:=L) (k:=k) om).1
 have hne:0<n→(L.map fun c=>[lqs c]).flatten≠[]:=fun h=>dZ (f:=fun c=>[lqs c]) (n:=1) (fun _=>rfl) om (fun e=>by rw [e]at hnl;simp at hnl;omega)
 clear hs;refine Pi Tryz.func12 fun C=>?_
 repeat(first|(refine A1 ⟨?_⟩;intros)|refine W4 c1 ⟨?_⟩|refine W4 c2 ⟨?_⟩)
 refine WPL.make (k:=n) (by rw [←hnl];rfl) (by rw [←hnl];rfl) om om rfl (fun b4=>?_);rw [xY];repeat(refine A1 ⟨?_⟩;intros)
 refine WP.loopS (ι:=Nat) (fun k=>k≤n) (fun k=>n-k)
  (fun k=>fm [(0,rt tr),(3,lss L),(4,lit (.slice (some ⟨b4,0,none⟩) n n)),(24,lit (.int .i64 n)),(25,lit (.int .i64 k))]) (fun k=>[(b4,iT,pcl n (idK k))]) 0 (Nat.zero_le _) lfA Sr ?_
 rintro k hk K hK;by_cases hkl:k<n
 ·as_aux_lemma =>
  have hgo:=fun F' H'=>hK F' H' (k+1) om om
  have hs:=ow (n:=n) (p:=idK k) (v:=k) hkl;rw [BT]at hs;have hb:=oz (p:=idK k) hkl;clear hK c1 c2;repeat(refine A1 ⟨?_⟩;intros)
  refine WPL.store (b:=b4) (o:=k) (sv:=lit (.int .i64 ((k:Nat):Int))) rfl rfl rfl (.here _) hs hb ?_;repeat(refine A1 ⟨?_⟩;intros)
  exact hgo _ _ lfA Sr
 have hke:n=k:=by omega
 subst hke;clear hK hkl hk c1 c2;refine WP.perm (H':=[(b4,iT,pcl n id)]) (List.Perm.of_eq (by rw [Fj])) ?_;repeat(refine A1 ⟨?_⟩;intros)
 refine WP.loopS (ι:=Mn) (fun y=>y.k≤n∧y.g=(List.range y.k).foldl (Jy L) id) (fun y=>n-y.k)
  (fun y=>fm [(0,rt tr),(3,lss L),(4,lit (.slice (some ⟨b4,0,none⟩) n n)),(34,lit (.int .i64 n)),(35,lit (.int .i64 ((y.k:Nat):Int)))]) (fun y=>[(b4,iT,pcl n y.g)]) ⟨0,id⟩ ⟨Nat.zero_le _,rfl⟩ (LeF.cons Lr (LeF.cons Lr (LeF.cons Lr (LeF.cons (Le.of_eq (by rw [←hnl];rfl)) lfA)))) Sr ?_
 rintro ⟨i,g⟩ ⟨hi,hg⟩ K hK;simp only at hi hg⊢;by_cases hil:i<n
 ·have hgo:=fun g' (h:g'=(List.range (i+1)).foldl (Jy L) id) F' H'=>hK F' H' ⟨i+1,g'⟩ ⟨by simp only;omega,h⟩ (by simp only;omega)
  simp only [lx]at hgo;rw [←hg]at hgo;clear hK hg;repeat(refine A1 ⟨?_⟩;intros)
  refine WP.loopS (ι:=Mn) (fun y=>y.k≤i∧y.g=(List.range y.k).foldl (Dv L i) g) (fun y=>i-y.k)
   (fun y=>fm [(0,rt tr),(3,lss L),(4,lit (.slice (some ⟨b4,0,none⟩) n n)),(6,lit (.int .i64 ((i:Nat):Int))),(34,lit (.int .i64 n)),(35,lit (.int .i64 ((i:Nat):Int))),(38,lit (.int .i64 ((i:Nat):Int))),(39,lit (.int .i64 ((y.k:Nat):Int)))]) (fun y=>[(b4,iT,pcl n y.g)]) ⟨0,g⟩ ⟨Nat.zero_le _,rfl⟩ lfA Sr ?_
  rintro ⟨k,h⟩ ⟨hk,hh⟩ K2 hK2;simp only at hk hh⊢;by_cases hkl:k<i
  ·have hgo2:=fun g' (e:g'=(List.range (k+1)).foldl (Dv L i) g) F' H'=>hK2 F' H' ⟨k+1,g'⟩ ⟨by simp only;omega,e⟩ (by simp only;omega)
   simp only [lx]at hgo2;rw [←hh]at hgo2;unfold Dv jnR at hgo2;have c:=cn i k hil om;have gi:=gg (p:=h) hil;have gk:=gg (n:=n) (p:=h) (i:=k) om;have hrk:=hre k om;have hri:=hre i hil;have hne0:=hne om;clear hK2 hgo hh cn hre hne;by_cases he:h i=h k
   ·rw [decide_eq_false (by simpa using he),Bool.false_and,if_neg (by decide)]at hgo2;replace hgo2:=hgo2 h rfl;rw [he]at gi;repeat(first|(refine A1 ⟨?_⟩;intros)|(refine Wo (aj rfl mmA gi) ?_)|(refine Wdo (aj rfl mmA gi) ?_)|(refine Wog (aj rfl mmA gi) ?_)|(refine bH (aj rfl mmA gi) ?_)|(refine Wo (aj rfl mmA gk) ?_)|(refine Wdo (aj rfl mmA gk) ?_)|(refine Wog (aj rfl mmA gk) ?_)|(refine bH (aj rfl mmA gk) ?_))
    exact hgo2 _ _ lfA Sr
   ·rw [decide_eq_true he,Bool.true_and]at hgo2;have hkn:k<n:=by omega
    cases hnb:gL (rgA L k) (rgA L i)with
    |false =>
     rw [hnb]at c hgo2;rw [if_neg (by decide)]at hgo2;replace hgo2:=hgo2 h rfl;generalize rgA L k=x at *;generalize rgA L i=y at *;repeat(first|(refine A1 ⟨?_⟩;intros)|(refine Wo (aj rfl mmA gi) ?_)|(refine Wdo (aj rfl mmA gi) ?_)|(refine Wog (aj rfl mmA gi) ?_)|(refine bH (aj rfl mmA gi) ?_)|(refine Wo (aj rfl mmA gk) ?_)|(refine Wdo (aj rfl mmA gk) ?_)|(refine Wog (aj rfl mmA gk) ?_)|(refine bH (aj rfl mmA gk) ?_)|(refine Wo (a7 (cs':=[lqs x]) rfl rfl om om hrk hne0) ?_)|(refine Wdo (a7 (cs':=[lqs x]) rfl rfl om om hrk hne0) ?_)|(refine Wog (a7 (cs':=[lqs x]) rfl rfl om om hrk hne0) ?_)|(refine bH (a7 (cs':=[lqs x]) rfl rfl om om hrk hne0) ?_)|(refine Wo (a7 (cs':=[lqs y]) rfl rfl om om hri hne0) ?_)|(refine Wdo (a7 (cs':=[lqs y]) rfl rfl om om hri hne0) ?_)|(refine Wog (a7 (cs':=[lqs y]) rfl rfl om om hri hne0) ?_)|(refine bH (a7 (cs':=[lqs y]) rfl rfl om om hri hne0) ?_)|refine W4 c ⟨?_⟩)
     exact hgo2 _ _ lfA Sr
    |true =>
     rw [hnb]at c hgo2;rw [if_pos rfl]at hgo2;replace hgo2:=hgo2 _ rfl;unfold lP at hgo2;have e1:(if((h i:Nat):Int)<((h k:Nat):Int)then((h k:Nat):Int)else((h i:Nat):Int))=((max (h i) (h k):Nat):Int):=by split <;> omega
     have e2:(if((h k:Nat):Int)<((h i:Nat):Int)then((h k:Nat):Int)else((h i:Nat):Int))=((min (h i) (h k):Nat):Int):=by split <;> omega
     generalize max (h i) (h k)=M at *;generalize min (h i) (h k)=m at *;rw [←Ik n h M m]at hgo2;generalize rgA L k=x at *;generalize rgA L i=y at *;repeat(first|(refine A1 ⟨?_⟩;intros)|(refine Wo (aj rfl mmA gi) ?_)|(refine Wdo (aj rfl mmA gi) ?_)|(refine Wog (aj rfl mmA gi) ?_)|(refine bH (aj rfl mmA gi) ?_)|(refine Wo (aj rfl mmA gk) ?_)|(refine Wdo (aj rfl mmA gk) ?_)|(refine Wog (aj rfl mmA gk) ?_)|(refine bH (aj rfl mmA gk) ?_)|(refine Wo (a7 (cs':=[lqs x]) rfl rfl om om hrk hne0) ?_)|(refine Wdo (a7 (cs':=[lqs x]) rfl rfl om om hrk hne0) ?_)|(refine Wog (a7 (cs':=[lqs x]) rfl rfl om om hrk hne0) ?_)|(refine bH (a7 (cs':=[lqs x]) rfl rfl om om hrk hne0) ?_)|(refine Wo (a7 (cs':=[lqs y]) rfl rfl om om hri hne0) ?_)|(refine Wdo (a7 (cs':=[lqs y]) rfl rfl om om hri hne0) ?_)|(refine Wog (a7 (cs':=[lqs y]) rfl rfl om om hri hne0) ?_)|(refine bH (a7 (cs':=[lqs y]) rfl rfl om om hri hne0) ?_)|(refine Wo (lA rfl rfl (r:=(M:Int)) e1) ?_)|(refine Wdo (lA rfl rfl (r:=(M:Int)) e1) ?_)|(refine Wog (lA rfl rfl (r:=(M:Int)) e1) ?_)|(refine bH (lA rfl rfl (r:=(M:Int)) e1) ?_)|(refine Wo (n9 rfl rfl (r:=(m:Int)) e2) ?_)|(refine Wdo (n9 rfl rfl (r:=(m:Int)) e2) ?_)|(refine Wog (n9 rfl rfl (r:=(m:Int)) e2) ?_)|(refine bH (n9 rfl rfl (r:=(m:Int)) e2) ?_)|refine W4 c ⟨?_⟩)
     clear gi gk hrk hri hne0 c e1 e2;refine WP.perm (H':=[(b4,iT,pcl n (lp h M m 0))]) (List.Perm.of_eq (by rw [CD])) ?_
     refine WP.loopS (ι:=Nat) (fun z=>z≤n) (fun z=>n-z)
      (fun z=>fm [(0,rt tr),(3,lss L),(4,lit (.slice (some ⟨b4,0,none⟩) n n)),(6,lit (.int .i64 ((i:Nat):Int))),(8,lit (.int .i64 ((M:Nat):Int))),(9,lit (.int .i64 ((m:Nat):Int))),(34,lit (.int .i64 n)),(35,lit (.int .i64 ((i:Nat):Int))),(38,lit (.int .i64 ((i:Nat):Int))),(39,lit (.int .i64 ((k:Nat):Int))),(81,lit (.int .i64 n)),(82,lit (.int .i64 z))]) (fun z=>[(b4,iT,pcl n (lp h M m z))]) 0 (Nat.zero_le _) lfA Sr ?_
     rintro z hz K3 hK3;by_cases hzl:z<n
     ·have hgo3:=fun F' H'=>hK3 F' H' (z+1) om om
      have gz:=gg (p:=lp h M m z) hzl;rw [I4]at gz;clear hK3 hgo2;by_cases hzM:h z=M
      ·rw [←EF hzM]at hgo3;rw [hzM]at gz;have hs:=ow (n:=n) (p:=lp h M m z) (v:=m) hzl;have hb:=oz (p:=lp h M m z) hzl;repeat(first|(refine A1 ⟨?_⟩;intros)|(refine Wo (aj rfl mmA gz) ?_)|(refine Wdo (aj rfl mmA gz) ?_)|(refine Wog (aj rfl mmA gz) ?_)|(refine bH (aj rfl mmA gz) ?_))
       refine WPL.store (b:=b4) (o:=z) (sv:=lit (.int .i64 ((m:Nat):Int))) rfl rfl rfl (.here _) hs hb ?_;repeat(refine A1 ⟨?_⟩;intros)
       exact hgo3 _ _ lfA Sr
      ·rw [←I3 hzM]at hgo3;repeat(first|(refine A1 ⟨?_⟩;intros)|(refine Wo (aj rfl mmA gz) ?_)|(refine Wdo (aj rfl mmA gz) ?_)|(refine Wog (aj rfl mmA gz) ?_)|(refine bH (aj rfl mmA gz) ?_))
       exact hgo3 _ _ lfA Sr
     ·have hze:z=n:=by omega
      subst hze;clear hK3;repeat(refine A1 ⟨?_⟩;intros)
      exact hgo2 _ _ lfA Sr
  ·have hke:k=i:=by omega
   subst hke;clear hK2;replace hgo:=hgo h hh;repeat(refine A1 ⟨?_⟩;intros)
   exact hgo _ _ lfA Sr
 ·have hie:i=n:=by omega
  subst hie;clear hK cn hre hne;have hG:g=pQ L:=by rw [hg,←hnl];rfl
  rw [←hG];clear hg hG;repeat(refine A1 ⟨?_⟩;intros)
  refine WP.loopS (ι:=pf) (fun y=>y.k≤i∧Own ptR 1 (cO tr g i y.k).length ((cO tr g i y.k).map fun t=>[rt t]).flatten y.s y.Hs) (fun y=>i-y.k)
   (fun y=>fm [(0,rt tr),(3,lss L),(4,lit (.slice (some ⟨b4,0,none⟩) i i)),(11,y.s),(99,lit (.int .i64 i)),(100,lit (.int .i64 y.k))]) (fun y=>(b4,iT,pcl i g)::y.Hs) ⟨0,lit (.slice none 0 0),[]⟩
   ⟨Nat.zero_le _,Own.nil _ _⟩ (LeF.cons Lr (LeF.cons Lr (LeF.cons Lr (LeF.cons Lr (LeF.cons (Le.of_eq (by rw [←hnl];rfl)) lfA))))) Sr ?_
  rintro ⟨k,s,Hs⟩ ⟨hk,hown⟩ K hK;simp only at hk hown⊢;have hco:=hown.co;by_cases hkl:k<i
  ·have hgo:=fun s' Hs' h F' H'=>hK F' H' ⟨k+1,s',Hs'⟩ ⟨by simp only;omega,h⟩ (by simp only;omega)
   simp only [tY]at hgo;have hle:=iL tr g i k;have gk:=gg (p:=g) hkl;clear hK;by_cases hgk:g k=k
   ·rw [if_pos hgk]at hgo;rw [hgk]at gk;repeat(first|(refine A1 ⟨?_⟩;intros)|(refine Wo (aj rfl mmA gk) ?_)|(refine Wdo (aj rfl mmA gk) ?_)|(refine Wog (aj rfl mmA gk) ?_)|(refine bH (aj rfl mmA gk) ?_))
    refine WPL.make (k:=i) (by rw [←hnl];rfl) (by rw [←hnl];rfl) om om rfl (fun b13=>?_);rw [Hw,JW fun j=>decide (g j=k)];clear gk;repeat(refine A1 ⟨?_⟩;intros)
    refine WP.loopS (ι:=Nat) (fun z=>z≤i) (fun z=>i-z)
     (fun z=>fm [(0,rt tr),(3,lss L),(4,lit (.slice (some ⟨b4,0,none⟩) i i)),(11,s),(12,lit (.int .i64 k)),(13,lit (.slice (some ⟨b13,0,none⟩) i i)),(99,lit (.int .i64 i)),(100,lit (.int .i64 k)),(113,lit (.int .i64 i)),(114,lit (.int .i64 z))]) (fun z=>(b13,bT,bcl i (bK (fun j=>decide (g j=k)) z))::(b4,iT,pcl i g)::Hs) 0 (Nat.zero_le _) lfA Sr ?_
    rintro z hz K2 hK2;by_cases hzl:z<i
    ·have hgo2:=fun F' H'=>hK2 F' H' (z+1) om om
     have gz:=gg (p:=g) hzl;have hs:=JT (n:=i) (f:=fun j=>decide (g j=k)) hzl;have hb:=JV (n:=i) (f:=bK (fun j=>decide (g j=k)) z) hzl;clear hK2 hgo hown;generalize g z=w at *;by_cases hw:w=k
     ·rw [decide_eq_true hw]at hs;subst hw;repeat(first|(refine A1 ⟨?_⟩;intros)|(refine Wo (aj rfl mmA gz) ?_)|(refine Wdo (aj rfl mmA gz) ?_)|(refine Wog (aj rfl mmA gz) ?_)|(refine bH (aj rfl mmA gz) ?_))
      refine WPL.store (b:=b13) (o:=z) (sv:=lit (.bool true)) rfl rfl rfl (.here _) hs hb ?_;repeat(refine A1 ⟨?_⟩;intros)
      exact hgo2 _ _ lfA Sr
     ·rw [decide_eq_false hw]at hs;repeat(first|(refine A1 ⟨?_⟩;intros)|(refine Wo (aj rfl mmA gz) ?_)|(refine Wdo (aj rfl mmA gz) ?_)|(refine Wog (aj rfl mmA gz) ?_)|(refine bH (aj rfl mmA gz) ?_))
      refine WPL.store (b:=b13) (o:=z) (sv:=lit (.bool false)) rfl rfl rfl (.here _) hs hb ?_;repeat(refine A1 ⟨?_⟩;intros)
      exact hgo2 _ _ lfA Sr
    ·have hze:z=i:=by omega
     subst hze;clear hK2;have hbl:=Hu g z k;have c3:=fun b15=>si (iu g z k) om b15 tr 0 hallr om
     have c4:=fL (fx (fun j=>(iu g z k).getD j false) tr 0) (mv hallr) (by rw [mu];omega);have ep:a8 (fx (fun j=>(iu g z k).getD j false) tr 0) []=s9 tr g z k:=rfl;rw [ep]at c4;have hco13:Own bT 1 z (bcl z (bK (fun j=>decide (g j=k)) z)) (lit (.slice (some ⟨b13,0,none⟩) z z)) [(b13,bT,bcl z (bK (fun j=>decide (g j=k)) z))]:=⟨by rw [pb];omega, .inr ⟨b13,z,Nat.le_refl _,by unfold maxLen;omega,rfl,by rw [Nat.sub_self,List.replicate_zero,List.append_nil]⟩⟩
     refine WP.rowS 13 hco13 rfl (R:=(b4,iT,pcl z g)::Hs) (List.Perm.refl _) ?_;rw [Hy]
     have eb:sl ((iu g z k).map fun b=>[(lit (.bool b):SV)]).flatten z=bls (iu g z k):=by
      show _=sl _ (iu g z k).length
      rw [hbl]
     rw [eb];clear hco13 ep eb;generalize s9 tr g z k=T at *;generalize fx (fun j=>(iu g z k).getD j false) tr 0=T0 at *;generalize iu g z k=bl at *;generalize cO tr g z k=D at *;repeat(refine A1 ⟨?_⟩;intros)
     rename_i b15;refine WfT (c3 b15) ?_ (hs:=Tk.cons (.here _) (Tk.nil _));rintro _ _ ⟨rfl,rfl⟩;simp only [List.cons_append];repeat(first|(refine Wo (eS (s:=rt T) (ds:=[rt T]) rfl inferInstance) ?_)|(refine Wdo (eS (s:=rt T) (ds:=[rt T]) rfl inferInstance) ?_)|(refine A1 ⟨?_⟩;intros)|refine W4 c4 ⟨?_⟩)
     refine xj (ds:=[rt T]) hown (Rs:=[(b4,iT,pcl z g),(b15,iT,[lit (.int .i64 ((0+jF tr:Nat):Int))])]) (KM _ _ _) om (fun s' H1 hown'=>?_);replace hgo:=hgo s' H1 (Br hown');clear hown hown';refine WPL.perm (List.perm_append_comm (l₁:=H1)) ?_;simp only [List.cons_append,List.nil_append];repeat(refine A1 ⟨?_⟩;intros)
     exact hgo _ _ lfA (.cons_cons _ (.cons _ (.refl _)))
   ·rw [if_neg hgk]at hgo;replace hgo:=hgo s Hs hown;clear hown;repeat(first|(refine A1 ⟨?_⟩;intros)|(refine Wo (aj rfl mmA gk) ?_)|(refine Wdo (aj rfl mmA gk) ?_)|(refine Wog (aj rfl mmA gk) ?_)|(refine bH (aj rfl mmA gk) ?_))
    exact hgo _ _ lfA Sr
  ·have hke:k=i:=by omega
   subst hke;clear hK;refine WP.rowS 11 hown rfl (R:=[(b4,iT,pcl k g)]) (List.perm_append_comm (l₁:=[(b4,iT,pcl k g)])) ?_;clear hown;exact Z1
theorem Dl (l:Li) (a b:Tr):aU (ez l a b)≤1+max (aU a) (aU b):=by
 unfold ez;split
 ·split <;> simp [aU]
 ·simp [aU]
theorem wF (l:Li) (a b:Tr):ap (ez l a b)≤ap a+ap b:=by
 unfold ez;split
 ·split <;> simp [ap]
 ·simp [ap]
theorem gG:∀(t:Tr) (c:List Li),aU (a8 t c)≤aU t
 | .leaf _,_=>Nat.le_refl _
 | .node l a b,c=>by
  have e:aU (.node l a b)=1+max (aU a) (aU b):=rfl;unfold a8;have h1:=gG a c;have h2:=gG b c;have h3:=gG a (cq c l);have h4:=gG b (cq c l.neg);have h5:=Dl l (a8 a (cq c l)) (a8 b (cq c l.neg));split
  ·omega
  ·split <;> omega
theorem eH:∀(t:Tr) (c:List Li),ap (a8 t c)≤ap t
 | .leaf _,_=>Nat.le_refl _
 | .node l a b,c=>by
  have e:ap (.node l a b)=ap a+ap b:=rfl;unfold a8;have h1:=eH a c;have h2:=eH b c;have h3:=eH a (cq c l);have h4:=eH b (cq c l.neg);have h5:=wF l (a8 a (cq c l)) (a8 b (cq c l.neg));split
  ·omega
  ·split <;> omega
theorem kN {keep:Nat→Bool}:∀(t:Tr) (k:Nat),ap (fx keep t k)=ap t
 | .leaf _,_=>rfl
 | .node _ a b,k=>by simp only [fx,ap,kN a,kN b]
theorem oH {p:Li→Prop}:∀{t:Tr},t.all p→(aN t).all p
 | .leaf _,_=>trivial
 | .node _ _ _,h=>⟨h.1,oH h.2.1,oH h.2.2⟩
theorem oG:∀t:Tr,aU (aN t)=aU t
 | .leaf _=>rfl
 | .node _ a b=>by simp only [aN,aU,oG a,oG b]
theorem lC:∀t:Tr,ap (aN t)=ap t
 | .leaf _=>rfl
 | .node _ a b=>by simp only [aN,ap,lC a,lC b]
theorem uB {tr:Tr}{G:Nat→Nat}{n k:Nat}(hall:tr.all fun l=>l.sm){T:Tr}(hT:T∈cO tr G n k):(T.all fun l=>l.sm)∧aU T≤aU tr∧ap T≤ap tr:=by
 unfold cO s9 at hT;obtain⟨i,_,rfl⟩:=List.mem_map.1 hT;refine⟨eR (mv hall),?_,?_⟩
 ·have:=gG (fx (fun j=>(iu G n i).getD j false) tr 0) [];rw [mu]at this;exact this
 ·have:=eH (fx (fun j=>(iu G n i).getD j false) tr 0) [];rw [kN]at this;exact this
def rbT (T:Tr):Bool:=(cB (aF T [])).all bndB
theorem GM {α:Type}{p:α→Bool}{l:List α}{k:Nat}{a:α}(h:l[k]? = some a):(l.take (k+1)).filter p=if p a then(l.take k).filter p++[a]else(l.take k).filter p:=by
 rw [bV h,List.filter_append];by_cases hp:p a=true
 ·rw [if_pos hp,List.filter_cons_of_pos hp];rfl
 ·rw [if_neg hp,List.filter_cons_of_neg hp,List.filter_nil,List.append_nil]
theorem uC {t:Tr}(hall:t.all fun l=>l.sm) (hd:aU t≤10000) (hl:ap t≤1000000) (hin:jF (a8 (aN t) [])≤(cB (aF (a8 (aN t) []) [])).length) :
  Pu Tryz.prog 13 [rt t] (rts ((bA (aN t)).filter rbT)):=by
 have hd1:=gG (aN t) [];have hl1:=eH (aN t) [];rw [oG]at hd1;rw [lC]at hl1;have hallr:(a8 (aN t) []).all fun l=>l.sm:=eR (oH hall)
 have c1:=mh t hall;have c2:=uA (oH hall) (by rw [oG];omega) rfl om om hin
 have hok:∀T∈bA (aN t),Pu Tryz.prog 35 [rt T] (lit (.bool (rbT T))):=fun T hT=>by
  obtain⟨h1,h2,h3⟩:=uB hallr hT;exact EV h1 om om
 have hn:(bA (aN t)).length≤1000000:=by
  have h1:=iL (a8 (aN t) []) (pQ (cB (aF (a8 (aN t) []) []))) (cB (aF (a8 (aN t) []) [])).length (cB (aF (a8 (aN t) []) [])).length;have h2:=kg (aF (a8 (aN t) []) []);have h3:=dU (a8 (aN t) []) [];unfold bA;omega
 have e:cO (a8 (aN t) []) (pQ (cB (aF (a8 (aN t) []) []))) (cB (aF (a8 (aN t) []) [])).length (cB (aF (a8 (aN t) []) [])).length=bA (aN t):=rfl;rw [e]at c2;clear hd1 hl1 hallr hin e hd hl;generalize bA (aN t)=L at *;generalize aN t=nt at *;clear hall;refine Pi Tryz.func13 fun C=>?_
 repeat(first|(refine A1 ⟨?_⟩;intros)|refine W4 c1 ⟨?_⟩|refine W4 c2 ⟨?_⟩)
 refine WP.loopS (ι:=pf) (fun y=>y.k≤L.length∧Own ptR 1 ((L.take y.k).filter rbT).length (((L.take y.k).filter rbT).map fun t=>[rt t]).flatten y.s y.Hs) (fun y=>L.length-y.k)
  (fun y=>fm [(3,y.s),(8,rts L),(9,lit (.int .i64 L.length)),(10,lit (.int .i64 y.k))]) (fun y=>y.Hs) ⟨0,lit (.slice none 0 0),[]⟩
  ⟨Nat.zero_le _,Own.nil _ _⟩ lfA (List.nil_sublist _) ?_
 rintro ⟨k,s,Hs⟩ ⟨hk,hown⟩ K hK;simp only at hk hown⊢;have hco:=hown.co;by_cases hkl:k<L.length
 ·obtain⟨T,hget,hmm,hat,hne⟩:=elt (f:=fun t=>[rt t]) (n:=1) (fun _=>rfl) om hkl;have hgo:=fun s' Hs' h F' H'=>hK F' H' ⟨k+1,s',Hs'⟩ ⟨by simp only;omega,h⟩ (by simp only;omega)
  simp only [GM hget]at hgo;have c3:=hok T hmm;have hle:((L.take k).filter rbT).length≤k:=Nat.le_trans (List.length_filter_le _ _) (by rw [List.length_take];omega);generalize(L.take k).filter rbT=D at *;generalize rbT T=y at *;clear hK hget hmm hok c1 c2;cases y with
  |false =>
   rw [if_neg (by decide)]at hgo;replace hgo:=hgo s Hs hown;clear hown;repeat(refine A1 ⟨?_⟩;intros)
   refine Wo (a7 (cs':=[rt T]) rfl rfl om om hat hne) ?_;repeat(first|(refine A1 ⟨?_⟩;intros)|refine W4 c3 ⟨?_⟩)
   exact hgo _ _ lfA Sr
  |true =>
   rw [if_pos rfl]at hgo;repeat(refine A1 ⟨?_⟩;intros)
   refine Wo (a7 (cs':=[rt T]) rfl rfl om om hat hne) ?_;repeat(first|(refine Wo (eS (s:=rt T) (ds:=[rt T]) rfl inferInstance) ?_)|(refine Wdo (eS (s:=rt T) (ds:=[rt T]) rfl inferInstance) ?_)|(refine A1 ⟨?_⟩;intros)|refine W4 c3 ⟨?_⟩)
   refine iG (ds:=[rt T]) hown (Tk.same _) om (fun s' H1 hown'=>?_);have hco':=hown'.co;replace hgo:=hgo s' H1 (Br hown');clear hown hown';repeat(refine A1 ⟨?_⟩;intros)
   exact hgo _ _ lfA Sr
 ·have hke:k=L.length:=by omega
  subst hke;rw [List.take_length]at hown;refine WP.rowS 3 hown rfl (by rw [List.append_nil]) ?_;clear hK hown;exact Z1
theorem I2 (x:Rat):(0≤x.num.sign)↔0≤x:=by
 rw [Int.sign_nonneg_iff,Rat.num_nonneg]
theorem sV {k s:Rat}(hk:0<k) (h:0≤k*s):0≤s:=by
 by_cases hs:0≤s
 ·exact hs
 ·have h1:0 < -s:=by grind
  have h2:=Rat.mul_pos hk h1;grind
theorem zq (c:PC):nN c=true↔(∀s∈c,¬(s.2.nl=true∨s.2.nh=true))∧0<c.length:=by
 unfold nN;rw [Bool.and_eq_true,List.all_eq_true,decide_eq_true_iff];refine and_congr ⟨fun h s hs=>?_,fun h s hs=>?_⟩ Iff.rfl
 ·have:=h s hs;cases h1:s.2.nl <;> cases h2:s.2.nh <;> simp_all
 ·have:=h s hs;cases h1:s.2.nl <;> cases h2:s.2.nh <;> simp_all
theorem Hq (y:List Li):bndB y=true↔0<y.length∧∀l∈y,¬(∀m∈y,0≤slp l m)∧¬∀m∈y,0≤-slp l m:=by
 unfold bndB;rw [Bool.and_eq_true,decide_eq_true_iff,mF,Bool.not_eq_true',List.any_eq_false];refine and_congr ⟨fun h=>by omega,fun h=>by omega⟩ ⟨fun h l hl=>⟨fun k=>?_,fun k=>?_⟩,fun h p hp=>?_⟩
 ·refine h ((l.b:Rat),-(l.a:Rat)) (List.mem_flatten.2 ⟨_,List.mem_map.2 ⟨l,hl,rfl⟩,by simp⟩) ?_;rw [List.all_eq_true];intro m hm;rw [decide_eq_true_iff,I2];have:=k m hm;unfold slp at this;simp only;grind
 ·refine h (-(l.b:Rat),-(-(l.a:Rat))) (List.mem_flatten.2 ⟨_,List.mem_map.2 ⟨l,hl,rfl⟩,by simp⟩) ?_;rw [List.all_eq_true];intro m hm;rw [decide_eq_true_iff,I2];have:=k m hm;unfold slp at this;simp only;grind
 ·obtain⟨q,hq,hpq⟩:=List.mem_flatten.1 hp;obtain⟨l,hl,rfl⟩:=List.mem_map.1 hq;rw [List.all_eq_true];intro k;simp only [dr2,List.mem_cons,List.not_mem_nil,or_false]at hpq;rcases hpq with rfl|rfl
  ·refine(h l hl).1 fun m hm=>?_
   have:=k m hm;rw [decide_eq_true_iff,I2]at this;unfold slp;simp only at this;grind
  ·refine(h l hl).2 fun m hm=>?_
   have:=k m hm;rw [decide_eq_true_iff,I2]at this;unfold slp;simp only at this;grind
theorem zn {x:PC×Bool}{y:List Li×Bool}(h:CR x y):bndB y.1=nN x.1:=by
 rw [Bool.eq_iff_iff,Hq,zq];have hl:∀m,m∈aa x.1↔∃s∈x.1,s.1=m:=fun m=>by unfold aa;rw [List.mem_map]
 constructor
 ·rintro ⟨h0,h1⟩;refine⟨fun s hs ho=>?_,?_⟩
  ·obtain⟨k,hk,hm⟩:=uS h.p hs ho;have hy:s.1∈y.1:=(h.m _).1 ((hl _).2 ⟨s,hs,rfl⟩);rcases(by grind:0<k∨0 < -k)with hp|hp
   ·exact(h1 _ hy).1 fun m hmy=>sV hp (hm m ((h.m m).2 hmy))
   ·exact(h1 _ hy).2 fun m hmy=>sV hp (by have:=hm m ((h.m m).2 hmy);grind)
  ·obtain⟨m,hmy⟩:=List.exists_mem_of_length_pos h0;obtain⟨s,hs,_⟩:=(hl m).1 ((h.m m).2 hmy);exact List.length_pos_of_mem hs
 ·rintro ⟨h1,h0⟩;refine⟨?_,fun l hly=>⟨fun k=>?_,fun k=>?_⟩⟩
  ·obtain⟨s,hs⟩:=List.exists_mem_of_length_pos h0;exact List.length_pos_of_mem ((h.m _).1 ((hl _).2 ⟨s,hs,rfl⟩))
  ·obtain⟨s,hs,rfl⟩:=(hl l).1 ((h.m l).2 hly);exact h1 s hs (m9 h.p hs (k:=1) (by decide +kernel) fun m hm=>by have:=k m ((h.m m).1 hm);grind)
  ·obtain⟨s,hs,rfl⟩:=(hl l).1 ((h.m l).2 hly);exact h1 s hs (m9 h.p hs (k := -1) (by decide +kernel) fun m hm=>by have:=k m ((h.m m).1 hm);grind)
theorem D9 (l:Li) (a b:Tr):ez l (aN a) (aN b)=aN (ez l a b):=by
 cases a with
 |leaf i =>
  cases b with
  |leaf j=>cases i <;> cases j <;> rfl
  |node _ _ _=>rfl
 |node _ _ _=>rfl
theorem fW:∀(t:Tr) (c:List Li),a8 (aN t) c=aN (a8 t c)
 | .leaf _,_=>rfl
 | .node l a b,c=>by
  show(if fo c l=1 then a8 (aN a) c else if fo c l = -1 then a8 (aN b) c else ez l (a8 (aN a) (cq c l)) (a8 (aN b) (cq c l.neg)))=aN (if fo c l=1 then a8 a c else if fo c l = -1 then a8 b c else ez l (a8 a (cq c l)) (a8 b (cq c l.neg)))
  rw [fW a c,fW b c,fW a,fW b,D9];split
  ·rfl
  ·split <;> rfl
abbrev HL (ls:List Li) (d:Pq):Prop:=∀m∈ls,0≤(m.a:Rat)*d.1+(m.b:Rat)*d.2
theorem jY {c:PC}(hc:cW c):nN c=false↔∃d:Pq,(d.1≠0∨d.2≠0)∧HL (aa c) d:=by
 rw [←Bool.not_eq_true,zq];by_cases h:c=[]
 ·subst h;exact⟨fun _=>⟨(1,0), .inl (by decide +kernel),fun m hm=>by cases hm⟩,fun _ k=>by have:=k.2;simp at this⟩
 ·have h0:0<c.length:=List.length_pos_iff.2 h;rw [←FI hc h];constructor
  ·intro k;apply Classical.byContradiction;intro n;exact k ⟨fun s hs ho=>n ⟨s,hs,ho⟩,h0⟩
  ·rintro ⟨s,hs,ho⟩ k;exact k.1 s hs ho
theorem rJ {L:List Li}(hL:∀l∈L,l.ok){ls:List Li}{d:Pq}(hq:∃q,Inn ls q) (hd:HL ls d){S:List PC}(H:∀q,Off L q→Inn ls q→∃y∈S,Inn (aa y) q):∃y∈S,HL (aa y) d:=by
 obtain⟨q,hq⟩:=hq;obtain⟨r,h1,h2⟩:=mr L hL hq;obtain⟨N,hN⟩:=Bf (d:=d) h2
 obtain⟨y,hy,hy2⟩:=Kg (L:=S) (P:=fun y n=>Inn (aa y) (cA r (n:Rat) d)) (fun M=>by
  obtain⟨y,hy,hi⟩:=H (cA r ((max N M:Nat):Rat) d) (hN _ (Nat.le_max_left _ _)) (FH h1 hd (by exact_mod_cast Nat.zero_le _));exact⟨max N M,Nat.le_max_right _ _,y,hy,hi⟩)
 exact⟨y,hy,EW hy2⟩
theorem wj {t:Tr}{c:PC}(hc:cW c) (hl:t.lok) (hp:Prp t (Inn (aa c))):(a9 t c).length=ap t:=by
 have h:=(par t c (aa c) hc (fun l hl=>by
  unfold aa at hl;obtain⟨s,hs,rfl⟩:=List.mem_map.1 hl;exact hc.ok s hs) (fun q=>Iff.rfl) hl hp).2
 have:=congrArg List.length h;rw [List.length_map,qY]at this;exact this
theorem sU {l:Li}{a b:Tr}{c:PC}(hc:cW c) (hl:(Tr.node l a b).lok) (hp:Prp (.node l a b) (Inn (aa c))) :
  ∃c1 c2:PC,cW c1∧cW c2∧a9 (.node l a b) c=a9 a c1++a9 b c2∧(Inn (aa c1)=fun q=>Inn (aa c) q∧0<a6 l q)∧(Inn (aa c2)=fun q=>Inn (aa c) q∧a6 l q<0)∧a.lok∧b.lok∧Prp a (Inn (aa c1))∧Prp b (Inn (aa c2)):=by
 obtain⟨hl0,hla,hlb⟩:=hl;obtain⟨p1,p2,p3,p4⟩:=hp
 have q2:Lft (Inn (aa c)) l.neg:=by
  obtain⟨q,h1,h2⟩:=p2;exact⟨q,h1,by rw [bI];grind⟩
 have k1:=(et hc hl0 (ak l)).2 p1;have k2:=(et hc (Li.ok.neg hl0) (ak l.neg)).2 q2;obtain⟨g1,g2⟩:=je hc hl0 (ak l) (d:=(aG (ak l) c l).1) (by rw [←k1]);obtain⟨g3,g4⟩:=je hc (Li.ok.neg hl0) (ak l.neg) (d:=(aG (ak l.neg) c l.neg).1) (by rw [←k2])
 have g5:Inn (aa (aG (ak l.neg) c l.neg).1)=fun q=>Inn (aa c) q∧a6 l q<0:=by
  rw [g4];funext q;rw [bI];exact propext ⟨fun h=>⟨h.1,by have:=h.2;grind⟩,fun h=>⟨h.1,by have:=h.2;grind⟩⟩
 refine⟨_,_,g1,g3,?_,g2,g5,hla,hlb,by rw [g2];exact p3,by rw [g5];exact p4⟩;rw [a9,if_pos k1,if_pos k2]
theorem tN (keep:Nat→Bool){q:Pq}:∀(t:Tr) (c:PC) (k0:Nat),cW c→t.lok→Prp t (Inn (aa c))→∀(k:Nat) (x:PC×Bool),(a9 t c)[k]? = some x→Inn (aa x.1) q→atT (g9 keep t k0) q=(x.2&&keep (k0+k))
 | .leaf i,c,k0,_,_,_,k,x,hk,_=>by
  unfold a9 at hk;cases k with
  |zero=>simp only [List.getElem?_cons_zero,Option.some.injEq]at hk;rw [←hk];rfl
  |succ k=>simp at hk
 | .node l a b,c,k0,hc,hl,hp,k,x,hk,hq=>by
  obtain⟨c1,c2,o1,o2,e,i1,i2,l1,l2,p1,p2⟩:=sU hc hl hp;have d1:=(dis a c1 o1 l1 p1).1;have d2:=(dis b c2 o2 l2 p2).1;have n1:=wj o1 l1 p1;rw [e]at hk;unfold g9;show(if 0<a6 l q then atT (g9 keep a k0) q else atT (g9 keep b (k0+ap a)) q)=_
  by_cases hlt:k<(a9 a c1).length
  ·rw [List.getElem?_append_left hlt]at hk;have hv:=d1 x (List.mem_of_getElem? hk) q hq;rw [i1]at hv;rw [if_pos hv.2];exact tN keep a c1 k0 o1 l1 p1 k x hk hq
  ·rw [List.getElem?_append_right om]at hk;have hv:=d2 x (List.mem_of_getElem? hk) q hq;rw [i2]at hv;rw [if_neg (by have:=hv.2;grind)];rw [tN keep b c2 (k0+ap a) o2 l2 p2 _ x hk hq,n1];congr 2
   omega
theorem zd {L:List Li}{q:Pq}(hq:Off L q):∀(t:Tr) (c:PC),cW c→t.lok→t.lin L→Prp t (Inn (aa c))→Inn (aa c) q→∃(k:Nat) (x:PC×Bool),(a9 t c)[k]? = some x∧Inn (aa x.1) q
 | .leaf i,c,_,_,_,_,h=>⟨0,(c,i),rfl,h⟩
 | .node l a b,c,hc,hl,hn,hp,h=>by
  obtain⟨c1,c2,o1,o2,e,i1,i2,l1,l2,p1,p2⟩:=sU hc hl hp;rw [e];have hv:=hq l hn.1;rcases(by grind:0<a6 l q∨a6 l q<0)with hp|hp
  ·obtain⟨k,x,hk,hx⟩:=zd hq a c1 o1 l1 hn.2.1 p1 (by rw [i1];exact⟨h,hp⟩);exact⟨k,x,by rw [List.getElem?_append_left (List.getElem?_eq_some_iff.1 hk).1];exact hk,hx⟩
  ·obtain⟨k,x,hk,hx⟩:=zd hq b c2 o2 l2 hn.2.2 p2 (by rw [i2];exact⟨h,hp⟩);exact⟨(a9 a c1).length+k,x,by rw [List.getElem?_append_right om,Nat.add_sub_cancel_left];exact hk,hx⟩
theorem F2.left {α β:Type}{R:α→β→Prop}{l:List α}{m:List β}(h:F2 R l m):∀{x:α},x∈l→∃z∈m,R x z:=by
 induction h with
 |nil=>intro x hx;cases hx
 |cons h _ ih =>
  intro x hx;rcases List.mem_cons.1 hx with e|hx
  ·exact⟨_,Ms,e▸h⟩
  ·obtain⟨z,hz,hr⟩:=ih hx;exact⟨z,Mc hz,hr⟩
theorem F2.right {α β:Type}{R:α→β→Prop}{l:List α}{m:List β}(h:F2 R l m):∀{z:β},z∈m→∃x∈l,R x z:=by
 induction h with
 |nil=>intro x hx;cases hx
 |cons h _ ih =>
  intro x hx;rcases List.mem_cons.1 hx with e|hx
  ·exact⟨_,Ms,e▸h⟩
  ·obtain⟨z,hz,hr⟩:=ih hx;exact⟨z,Mc hz,hr⟩
theorem KE {T:Tr}(h:F2 CR (a9 T []) (aF T [])):rbT T=false↔∃y∈a9 T [],y.2=true∧nN y.1=false:=by
 unfold rbT cB;rw [List.all_eq_false];constructor
 ·rintro ⟨s,hs,hb⟩;obtain⟨z,hz,rfl⟩:=List.mem_map.1 hs;obtain⟨hz1,hz2⟩:=List.mem_filter.1 hz;obtain⟨x,hx,hr⟩:=h.right hz1;refine⟨x,hx,by rw [hr.f];exact hz2,?_⟩;rw [←zn hr];simpa using hb
 ·rintro ⟨x,hx,h1,h2⟩;obtain⟨z,hz,hr⟩:=h.left hx;refine⟨z.1,List.mem_map.2 ⟨z,List.mem_filter.2 ⟨hz,by rw [←hr.f];exact h1⟩,rfl⟩,?_⟩;rw [zn hr,h2];exact Bool.false_ne_true
theorem zp (p f:Nat→Bool):∀(ks:List Nat) (b:Bool),ks.foldl (fun b k=>if p k=true then b&&f k else b) b=(b&&ks.all fun k => !p k||f k)
 | [],b=>by simp
 |k::ks,b=>by
  rw [List.foldl_cons,zp p f ks,List.all_cons];cases p k <;> cases b <;> cases f k <;> simp
theorem Hn (l:Pts) (i:Nat):er l i=false↔∃(k:Nat) (x:PC×Bool),l[k]? = some x∧(x.2&&decide (eE l k=i))=true∧nN x.1=false:=by
 have e:er l i=(List.range l.length).all fun k => !(inB l k&&decide (eE l k=i))||nN (clB l k):=by
  have:=zp (fun k=>inB l k&&decide (eE l k=i)) (fun k=>nN (clB l k)) (List.range l.length) true;rw [Bool.true_and]at this;exact this
 rw [e,List.all_eq_false]
 have hg:∀k,k<l.length→∃x,l[k]? = some x∧inB l k=x.2∧clB l k=x.1:=fun k hk=>⟨l[k],List.getElem?_eq_getElem hk,by
  show(l.getD k ([],false)).2=_
  rw [List.getD,List.getElem?_eq_getElem hk];rfl,by
  show(l.getD k ([],false)).1=_
  rw [List.getD,List.getElem?_eq_getElem hk];rfl⟩
 constructor
 ·rintro ⟨k,hk,hb⟩;obtain⟨x,h1,h2,h3⟩:=hg k (List.mem_range.1 hk);rw [h2,h3]at hb;refine⟨k,x,h1,?_,?_⟩
  ·revert hb;cases(x.2&&decide (eE l k=i)) <;> simp
  ·revert hb;cases nN x.1 <;> simp
 ·rintro ⟨k,x,h1,h2,h3⟩;have hk:=(List.getElem?_eq_some_iff.1 h1).1;obtain⟨y,g1,g2,g3⟩:=hg k hk;rw [h1]at g1;obtain rfl:=Option.some.inj g1;refine⟨k,List.mem_range.2 hk,?_⟩;rw [g2,g3,h2,h3];decide
theorem rV:∀(t:Tr) (k:Nat),g9 (fun _=>true) t k=t
 | .leaf i,_=>by unfold g9;rw [Bool.and_true]
 | .node l a b,k=>by unfold g9;rw [rV a,rV b]
theorem o6 {L:List Li}{keep:Nat→Bool}:∀{t:Tr}{k:Nat},t.lin L→(g9 keep t k).lin L
 | .leaf _,_,_=>trivial
 | .node _ _ _,_,h=>⟨h.1,o6 h.2.1,o6 h.2.2⟩
theorem xg {t:Tr}(hl:t.lok) (hp:Prp t (Inn [])){q:Pq}{k:Nat}{x:PC×Bool}(hk:(a9 t [])[k]? = some x) (hq:Inn (aa x.1) q):atT t q=x.2:=by
 have:=tN (fun _=>true) t [] 0 cW.nil hl hp k x hk hq;rwa [rV,Bool.and_true]at this
theorem oA {t:Tr}(hl:t.lok) (hp:Prp t (Inn [])):F2 CR (a9 t []) (aF t []):=(par t [] [] cW.nil (fun l h=>by cases h) (fun q=>Iff.rfl) hl hp).1
theorem Fm {L:List Li}(hL:∀l∈L,l.ok){u:Tr}(hu:Gd L u) (i:Nat):er (a9 u []) i=rbT (ff (a9 u []) u i):=by
 have hul:=cM hL hu.1;have hT:Gd L (ff (a9 u []) u i):=Gd.restr hL (o6 hu.1);have hTl:=cM hL hT.1;have fU:=oA hul hu.2;have fT:=oA hTl hT.2;have hat:∀q,Off L q→atT (ff (a9 u []) u i) q=atT (g9 (fun k=>decide (eE (a9 u []) k=i)) u 0) q:=fun q hq=>pE hL (o6 hu.1) hq
 have key:er (a9 u []) i=false↔rbT (ff (a9 u []) u i)=false:=by
  rw [Hn,KE fT];constructor
  ·rintro ⟨k,x,hk,hx,hb⟩;obtain⟨_,_,hcr⟩:=fU.left (List.mem_of_getElem? hk);obtain⟨d,hd,ho⟩:=(jY hcr.p).1 hb
   obtain⟨y,hy,hyo⟩:=rJ hL hcr.p.inn ho (S:=((a9 (ff (a9 u []) u i) []).filter fun y=>y.2).map Prod.fst) fun q hq hi=>by
    have e1:=tN (fun k=>decide (eE (a9 u []) k=i)) u [] 0 cW.nil hul hu.2 k x hk hi;rw [Nat.zero_add,hx,←hat q hq]at e1;obtain⟨j,y,hj,hyq⟩:=zd hq _ [] cW.nil hTl hT.1 hT.2 (mw q);have e2:=xg hTl hT.2 hj hyq;exact⟨y.1,List.mem_map.2 ⟨y,List.mem_filter.2 ⟨List.mem_of_getElem? hj,by rw [←e2,e1]⟩,rfl⟩,hyq⟩
   obtain⟨z,hz,rfl⟩:=List.mem_map.1 hy;obtain⟨hz1,hz2⟩:=List.mem_filter.1 hz;obtain⟨_,_,hcz⟩:=fT.left hz1;exact⟨z,hz1,hz2,(jY hcz.p).2 ⟨d,hd,hyo⟩⟩
  ·rintro ⟨y,hy,hy2,hb⟩;obtain⟨_,_,hcr⟩:=fT.left hy;obtain⟨j,hj⟩:=List.mem_iff_getElem?.1 hy;obtain⟨d,hd,ho⟩:=(jY hcr.p).1 hb
   obtain⟨c,hc,hco⟩:=rJ hL hcr.p.inn ho (S:=((List.range (a9 u []).length).filter fun k=>inB (a9 u []) k&&decide (eE (a9 u []) k=i)).map (clB (a9 u []))) fun q hq hi=>by
    have e1:=xg hTl hT.2 hj hi;rw [hy2,hat q hq]at e1;obtain⟨k,x,hk,hxq⟩:=zd hq u [] cW.nil hul hu.1 hu.2 (mw q);have e2:=tN (fun k=>decide (eE (a9 u []) k=i)) u [] 0 cW.nil hul hu.2 k x hk hxq;rw [Nat.zero_add,e1]at e2;have hkl:=(List.getElem?_eq_some_iff.1 hk).1;have hg:(a9 u []).getD k ([],false)=x:=by rw [List.getD,hk];rfl
    refine⟨x.1,List.mem_map.2 ⟨k,List.mem_filter.2 ⟨List.mem_range.2 hkl,?_⟩,?_⟩,hxq⟩
    ·show(((a9 u []).getD k ([],false)).2&&_)=true
     rw [hg];exact e2.symm
    ·show((a9 u []).getD k ([],false)).1=_
     rw [hg]
   obtain⟨k,hk,rfl⟩:=List.mem_map.1 hc;obtain⟨hk1,hk2⟩:=List.mem_filter.1 hk;have hkl:=List.mem_range.1 hk1;have hg:(a9 u []).getD k ([],false)=(a9 u [])[k]:=by rw [List.getD,List.getElem?_eq_getElem hkl];rfl
   obtain⟨_,_,hcx⟩:=fU.left (List.getElem_mem hkl);refine⟨k,(a9 u [])[k],List.getElem?_eq_getElem hkl,?_,?_⟩
   ·rw [←hg];exact hk2
   ·refine(jY hcx.p).2 ⟨d,hd,?_⟩;have:clB (a9 u []) k=((a9 u [])[k]).1:=by show((a9 u []).getD k ([],false)).1=_;rw [hg]
    rw [←this];exact hco
 cases h1:er (a9 u []) i <;> cases h2:rbT (ff (a9 u []) u i) <;> simp_all
structure MO where
 st:List Tr
 cnt:Nat
 s:SV
 Hs:LH
def szL (l:List Tr):Nat:=(l.map cK).sum
def msL (l:List Tr):Nat:=(l.map fun t=>2*cK t+1).sum
theorem xx (l:List Tr) (x:Tr):szL (l++[x])=szL l+cK x:=by unfold szL;simp
theorem lG (l:List Tr) (x:Tr):msL (l++[x])=msL l+(2*cK x+1):=by unfold msL;simp
theorem BF:∀l:List Tr,l.length≤msL l
 | []=>Nat.le_refl _
 |x::l=>by
  have:=BF l;unfold msL at *;simp only [List.map_cons,List.sum_cons,List.length_cons];omega
theorem JG (b:Nat) (m:Nat) (t:Tr) (hm:m+cK t≤100000000):PuH Tryz.prog 159 [bt t,fnv 160 [] [lit (.pointer (some ⟨b,0,none⟩))]] [(b,iT,[lit (.int .i64 (m:Nat))])] (fun r H'=>r=Ab.tup []∧H'=[(b,iT,[lit (.int .i64 ((m+cK t:Nat):Int))])]) noX:=by
 refine PuH.intro Tryz.func159 rfl kr fun C hC=>?_
 repeat(refine A1 ⟨?_⟩;intros)
 rename_i b8
 refine WP.loopS (ι:=MO) (fun y=>Own ptT 1 y.st.length (y.st.map bt) y.s y.Hs∧y.cnt+szL y.st=m+cK t∧msL y.st≤2*cK t+1) (fun y=>msL y.st)
  (fun y=>fm [(1,fnv 160 [] [lit (.pointer (some ⟨b,0,none⟩))]),(4,y.s)]) (fun y=>y.Hs++[(b,iT,[lit (.int .i64 (y.cnt:Nat))])]) ⟨[t],m,lit (.slice (some ⟨b8,0,none⟩) 1 1),[(b8,ptT,[bt t])]⟩
  ⟨⟨rfl, .inr ⟨b8,1,Nat.le_refl _,by decide,rfl,rfl⟩⟩,by simp [szL],by simp [msL]⟩ lfA Sr ?_
 rintro ⟨st,cnt,s,Hs⟩ ⟨hown,hsz,hms⟩ K hK;simp only at hown hsz hms⊢;have hco:=hown.co;have hlen:=BF st;rcases List.eq_nil_or_concat st with rfl|⟨st',x,rfl⟩
 ·have hown0:=hown;simp only [szL,List.map_nil,List.sum_nil,Nat.add_zero]at hsz;subst hsz;simp only [List.length_nil]at hown0;clear hK;repeat(first|(refine A1 ⟨?_⟩;intros)|(refine Wo (ax hown0 rfl) ?_)|(refine Wdo (ax hown0 rfl) ?_)|(refine Wog (ax hown0 rfl) ?_)|(refine bH (ax hown0 rfl) ?_))
  exact GT _ _ Lg (List.sublist_append_right _ _) ⟨rfl,rfl⟩
 ·rw [List.concat_eq_append]at *;rw [xx]at hsz;rw [lG]at hms;have hl1:(st'++[x]).length=st'.length+1:=by simp
  rw [hl1]at hlen;have hlb:st'.length+1≤300000000:=by have e:=lG st' x;rw [e]at hlen;omega
  obtain⟨b1,c1,hnc,hcm,rfl,rfl⟩:=hown.blk (by rw [hl1];omega);have hil:((st'++[x]).map bt).length=(st'++[x]).length*1:=by rw [List.length_map,Nat.mul_one]
  obtain⟨hownr,hle⟩:=Own.cut (T:=ptT) (j:=st'.length) (b:=b1) hil hnc hcm (by rw [hl1];omega);have htk:((st'++[x]).map bt).take (st'.length*1)=st'.map bt:=by rw [Nat.mul_one,List.map_append,List.take_left' (by simp)]
  have hgt:((st'++[x]).map bt++List.replicate (c1*1-(st'++[x]).length*1) top)[st'.length]? = some (bt x):=by
   rw [List.getElem?_append_left (by simp),List.map_append,List.getElem?_append_right (by simp)];simp
  rw [htk]at hownr hle;have cf:=EB b cnt om x;rw [hl1]at hnc hle hgt⊢;clear hown htk hil hlen;simp only [List.cons_append,List.nil_append];cases x with
  |leaf i =>
   have d1:=cC i;have hgo:=fun F' H'=>hK F' H' ⟨st',cnt,lit (.slice (some ⟨b1,0,none⟩) st'.length c1),_⟩ ⟨hownr,by simp only [cK]at hsz⊢;omega,by simp only;omega⟩ (by simp only;rw [lG];omega)
   rw [show(if cK (.leaf i)=0 then 0 else 1)=0 from rfl,Nat.add_zero]at cf;clear hK;repeat(refine A1 ⟨?_⟩;intros)
   rw [show(((st'.length+1:Nat):Int)-1)=((st'.length:Nat):Int) by omega];refine Wo (aj rfl mmA hgt) ?_;repeat(refine A1 ⟨?_⟩;intros)
   refine Wo (wo st'.length rfl rfl rfl om) ?_;refine WPL.lowB (.here _) hle ?_;repeat(refine A1 ⟨?_⟩;intros)
   refine WvT cf ?_;rintro _ _ ⟨rfl,rfl⟩;simp only [List.cons_append,List.nil_append];repeat(first|(refine A1 ⟨?_⟩;intros)|refine W4 d1 ⟨?_⟩)
   exact hgo _ _ lfA Sr
  |node l u v =>
   have d1:=cR l u v
   have hadd:∀s' H',Own ptT 1 (st'.length+2) (st'.map bt++[bt v,bt u]) s' H'→Own ptT 1 (st'++[v]++[u]).length ((st'++[v]++[u]).map bt) s' H':=fun s' H' h=>by
    rw [List.map_append,List.map_append,List.append_assoc];simpa using h
   have hgo:=fun s' H1 (h:Own ptT 1 (st'.length+2) (st'.map bt++[bt v,bt u]) s' H1) F' H'=>hK F' H' ⟨st'++[v]++[u],cnt+1,s',H1⟩ ⟨hadd s' H1 h,by simp only [cK,xx]at hsz⊢;omega,by simp only [cK,lG]at hms⊢;omega⟩ (by simp only [cK,lG];omega)
   rw [show(if cK (.node l u v)=0 then 0 else 1)=1 from if_neg (by simp only [cK];omega)]at cf;have en:bt (.node l u v)=pt (bc (.node l u v)):=rfl;rw [en,i5]at d1 cf hgt;clear hK hadd en;repeat(refine A1 ⟨?_⟩;intros)
   rw [show(((st'.length+1:Nat):Int)-1)=((st'.length:Nat):Int) by omega];refine Wo (aj rfl mmA hgt) ?_;repeat(refine A1 ⟨?_⟩;intros)
   refine Wo (wo st'.length rfl rfl rfl om) ?_;refine WPL.lowB (.here _) hle ?_;repeat(refine A1 ⟨?_⟩;intros)
   refine WvT cf ?_;rintro _ _ ⟨rfl,rfl⟩;simp only [List.cons_append,List.nil_append];repeat(first|(refine AS ⟨?_⟩;intros)|(refine O1 ⟨?_⟩;intros)|(refine Wcx (d1) ?_)|(refine eB (d1) ?_))
   refine WdZ 11 [0,1,2,3,4,5,6,7,8,9,10] [10] [(b1,ptT,st'.map bt++List.replicate (c1*1-st'.length*1) top)] [(b,iT,[lit (.int .i64 ((cnt+1:Nat):Int))])] ?_;refine ZkD 10 ?_;repeat(first|(refine Wo (aX (r:=[(0,[bt v]),(1,[bt u])]) (cs:=[bt v,bt u]) (.cons (sv:=bt v) rfl inferInstance (.cons (sv:=bt u) rfl inferInstance .nil))) ?_)|(refine Wdo (aX (r:=[(0,[bt v]),(1,[bt u])]) (cs:=[bt v,bt u]) (.cons (sv:=bt v) rfl inferInstance (.cons (sv:=bt u) rfl inferInstance .nil))) ?_)|(refine A1 ⟨?_⟩;intros))
   refine jh ?_;refine MD (k0:=2) (ds:=[bt v,bt u]) hownr (Tk.same _) om (fun s' H' hown'=>?_);refine ZkN ?_;have hco':=hown'.co;replace hgo:=hgo s' H' hown';clear hown';rw [List.append_nil];repeat(refine A1 ⟨?_⟩;intros)
   exact hgo _ _ lfA Sr
theorem Ho (t:Tr) (h:cK t≤100000000):Pu Tryz.prog 121 [bt t] (lit (.int .i64 (cK t:Nat))):=by
 refine PuH.toPu ?_;refine PuH.intro Tryz.func121 rfl kr fun C hC=>?_
 repeat(refine A1 ⟨?_⟩;intros)
 rename_i b3;have c:=JG b3 0 t om;rw [Nat.zero_add]at c;repeat(refine A1 ⟨?_⟩;intros)
 refine WfT c ?_;rintro _ _ ⟨rfl,rfl⟩;simp only [List.cons_append,List.nil_append];repeat(refine A1 ⟨?_⟩;intros)
 exact cH _ _ (aC (RV.tmp rfl) Lr) (List.nil_sublist _) rfl
end Go.Ab
