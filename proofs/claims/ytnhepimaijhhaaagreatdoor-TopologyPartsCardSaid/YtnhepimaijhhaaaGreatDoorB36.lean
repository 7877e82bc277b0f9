/- Texts laid one behind the other: TmI, TmJ, TqE, TqF, TqG, PEach, PTwo. -/
import Derived.Test.YtnhepimaijhhaaaGreatDoorB34
import Derived.Test.YtnhepimaijhhaaaGreatDoorB35
import Derived.Test.YtnhepimaijhhaaaGreatDoorB24
import Derived.Test.YtnhepimaijhhaaaGreatDoorB32
import Derived.Test.YtnhepimaijhhaaaGreatDoorB18
import Derived.Test.YtnhepimaijhhaaaGreatDoorB08
set_option linter.all false
set_option maxHeartbeats 16000000
namespace Go.Ab
open Go.Proofs
variable [Base]
theorem yd {L:List (List Li)}{k:Nat}(h:k<L.length):(((L.map fun c=>[lqs c]).flatten).drop (k*1)).take 1=[lqs (rgA L k)]∧rgA L k∈L:=by
 obtain⟨x,h1,h2,h3,_⟩:=elt (f:=fun c=>[lqs c]) (n:=1) (fun _=>rfl) om h
 have e:rgA L k=x:=by unfold rgA;rw [List.getD,h1];rfl
 rw [e];exact⟨h3,h2⟩
theorem Jd (x y:Nat×TypeId×List SV) (A:LH):(x::(A++[y])).Perm (A++[x,y]):=List.perm_middle.symm
theorem t8 {t:Tr}(hall:t.all fun l=>l.sm) (hd:bo t≤90000){tr:Tr}(htr:tr=ac t []) (hdr:bo tr≤10000) (hlr:aj tr≤1000000) (hin:jG tr≤(cl (aG tr [])).length) :
  Pu Tryz.prog 12 [rt t] (rts (cD tr (oO (cl (aG tr []))) (cl (aG tr [])).length (cl (aG tr [])).length)):=by
 have c1:=fY t hall hd
 rw [←htr]at c1
 have hallr:tr.all fun l=>l.sm:=by rw [htr];exact et hall
 have c2:=zI hallr om hlr
 have hs:=fun x hx=>Aj hallr (x:=x) hx
 have hn:=Nat.le_trans (jH (aG tr [])) (dz tr [])
 clear hall hd htr
 generalize hL:cl (aG tr [])=L at *
 generalize hnl:L.length=n at *
 clear hL
 have cn:∀i k,i<n→k<n→Pu Tryz.prog 32 [lqs (rgA L k),lqs (rgA L i)] (lit (.bool (gd (rgA L k) (rgA L i)))):=fun i k hi hk=>by
  obtain⟨_,m1⟩:=yd (L:=L) (k:=i) om
  obtain⟨_,m2⟩:=yd (L:=L) (k:=k) om
  exact Bk (hs _ m2).1 (hs _ m1).1 (by have:=(hs _ m2).2;omega) (by have:=(hs _ m1).2;omega)
 have hre:∀k,k<n→(((L.map fun c=>[lqs c]).flatten).drop (k*1)).take 1=[lqs (rgA L k)]:=fun k hk=>(yd (L:=L) (k:=k) om).1
 have hne:0<n→(L.map fun c=>[lqs c]).flatten≠[]:=fun h=>dE (f:=fun c=>[lqs c]) (n:=1) (fun _=>rfl) om (fun e=>by rw [e]at hnl;simp at hnl;omega)
 clear hs
 refine Pi Tryz.func12 fun C=>?_
 repeat(first|(refine A1 ⟨?_⟩;intros)|refine W4 c1 ⟨?_⟩|refine W4 c2 ⟨?_⟩)
 refine WPL.make (k:=n) (by rw [←hnl];rfl) (by rw [←hnl];rfl) om om rfl (fun b4=>?_)
 rw [wu]
 repeat(refine A1 ⟨?_⟩;intros)
 refine WP.loopS (ι:=Nat) (fun k=>k≤n) (fun k=>n-k)
  (fun k=>fm [(0,rt tr),(3,lss L),(4,lit (.slice (some ⟨b4,0,none⟩) n n)),(24,lit (.int .i64 n)),(25,lit (.int .i64 k))]) (fun k=>[(b4,iT,pcl n (idK k))]) 0 (Nat.zero_le _) lfA Sr ?_
 rintro k hk K hK
 by_cases hkl:k<n
 ·as_aux_lemma =>
  have hgo:=fun F' H'=>hK F' H' (k+1) om om
  have hs:=nk (n:=n) (p:=idK k) (v:=k) hkl
  rw [Ap]at hs
  have hb:=np (p:=idK k) hkl
  clear hK c1 c2
  repeat(refine A1 ⟨?_⟩;intros)
  refine WPL.store (b:=b4) (o:=k) (sv:=lit (.int .i64 ((k:Nat):Int))) rfl rfl rfl (.here _) hs hb ?_
  repeat(refine A1 ⟨?_⟩;intros)
  exact hgo _ _ lfA Sr
 have hke:n=k:=by omega
 subst hke
 clear hK hkl hk c1 c2
 refine WP.perm (H':=[(b4,iT,pcl n id)]) (List.Perm.of_eq (by rw [DG])) ?_
 repeat(refine A1 ⟨?_⟩;intros)
 refine WP.loopS (ι:=KI) (fun y=>y.k≤n∧y.g=(List.range y.k).foldl (I3 L) id) (fun y=>n-y.k)
  (fun y=>fm [(0,rt tr),(3,lss L),(4,lit (.slice (some ⟨b4,0,none⟩) n n)),(34,lit (.int .i64 n)),(35,lit (.int .i64 ((y.k:Nat):Int)))]) (fun y=>[(b4,iT,pcl n y.g)]) ⟨0,id⟩ ⟨Nat.zero_le _,rfl⟩ (LeF.cons Lr (LeF.cons Lr (LeF.cons Lr (LeF.cons (Le.of_eq (by rw [←hnl];rfl)) lfA)))) Sr ?_
 rintro ⟨i,g⟩ ⟨hi,hg⟩ K hK
 simp only at hi hg⊢
 by_cases hil:i<n
 ·have hgo:=fun g' (h:g'=(List.range (i+1)).foldl (I3 L) id) F' H'=>hK F' H' ⟨i+1,g'⟩ ⟨by simp only;omega,h⟩ (by simp only;omega)
  simp only [kO]at hgo
  rw [←hg]at hgo
  clear hK hg
  repeat(refine A1 ⟨?_⟩;intros)
  refine WP.loopS (ι:=KI) (fun y=>y.k≤i∧y.g=(List.range y.k).foldl (C5 L i) g) (fun y=>i-y.k)
   (fun y=>fm [(0,rt tr),(3,lss L),(4,lit (.slice (some ⟨b4,0,none⟩) n n)),(6,lit (.int .i64 ((i:Nat):Int))),(34,lit (.int .i64 n)),(35,lit (.int .i64 ((i:Nat):Int))),(38,lit (.int .i64 ((i:Nat):Int))),(39,lit (.int .i64 ((y.k:Nat):Int)))]) (fun y=>[(b4,iT,pcl n y.g)]) ⟨0,g⟩ ⟨Nat.zero_le _,rfl⟩ lfA Sr ?_
  rintro ⟨k,h⟩ ⟨hk,hh⟩ K2 hK2
  simp only at hk hh⊢
  by_cases hkl:k<i
  ·have hgo2:=fun g' (e:g'=(List.range (k+1)).foldl (C5 L i) g) F' H'=>hK2 F' H' ⟨k+1,g'⟩ ⟨by simp only;omega,e⟩ (by simp only;omega)
   simp only [kO]at hgo2
   rw [←hh]at hgo2
   unfold C5 jnR at hgo2
   have c:=cn i k hil om
   have gi:=fJ (p:=h) hil
   have gk:=fJ (n:=n) (p:=h) (i:=k) om
   have hrk:=hre k om
   have hri:=hre i hil
   have hne0:=hne om
   clear hK2 hgo hh cn hre hne
   by_cases he:h i=h k
   ·rw [decide_eq_false (by simpa using he),Bool.false_and,if_neg (by decide)]at hgo2
    replace hgo2:=hgo2 h rfl
    rw [he]at gi
    repeat(first|(refine A1 ⟨?_⟩;intros)|(refine Wo (ae rfl mmA gi) ?_)|(refine Wdo (ae rfl mmA gi) ?_)|(refine Wog (ae rfl mmA gi) ?_)|(refine bB (ae rfl mmA gi) ?_)|(refine Wo (ae rfl mmA gk) ?_)|(refine Wdo (ae rfl mmA gk) ?_)|(refine Wog (ae rfl mmA gk) ?_)|(refine bB (ae rfl mmA gk) ?_))
    exact hgo2 _ _ lfA Sr
   ·rw [decide_eq_true he,Bool.true_and]at hgo2
    have hkn:k<n:=by omega
    cases hnb:gd (rgA L k) (rgA L i)with
    |false =>
     rw [hnb]at c hgo2
     rw [if_neg (by decide)]at hgo2
     replace hgo2:=hgo2 h rfl
     generalize rgA L k=x at *
     generalize rgA L i=y at *
     repeat(first|(refine A1 ⟨?_⟩;intros)|(refine Wo (ae rfl mmA gi) ?_)|(refine Wdo (ae rfl mmA gi) ?_)|(refine Wog (ae rfl mmA gi) ?_)|(refine bB (ae rfl mmA gi) ?_)|(refine Wo (ae rfl mmA gk) ?_)|(refine Wdo (ae rfl mmA gk) ?_)|(refine Wog (ae rfl mmA gk) ?_)|(refine bB (ae rfl mmA gk) ?_)|(refine Wo (a6 (cs':=[lqs x]) rfl rfl om om hrk hne0) ?_)|(refine Wdo (a6 (cs':=[lqs x]) rfl rfl om om hrk hne0) ?_)|(refine Wog (a6 (cs':=[lqs x]) rfl rfl om om hrk hne0) ?_)|(refine bB (a6 (cs':=[lqs x]) rfl rfl om om hrk hne0) ?_)|(refine Wo (a6 (cs':=[lqs y]) rfl rfl om om hri hne0) ?_)|(refine Wdo (a6 (cs':=[lqs y]) rfl rfl om om hri hne0) ?_)|(refine Wog (a6 (cs':=[lqs y]) rfl rfl om om hri hne0) ?_)|(refine bB (a6 (cs':=[lqs y]) rfl rfl om om hri hne0) ?_)|refine W4 c ⟨?_⟩)
     exact hgo2 _ _ lfA Sr
    |true =>
     rw [hnb]at c hgo2
     rw [if_pos rfl]at hgo2
     replace hgo2:=hgo2 _ rfl
     unfold pg at hgo2
     have e1:(if((h i:Nat):Int)<((h k:Nat):Int)then((h k:Nat):Int)else((h i:Nat):Int))=((max (h i) (h k):Nat):Int):=by split <;> omega
     have e2:(if((h k:Nat):Int)<((h i:Nat):Int)then((h k:Nat):Int)else((h i:Nat):Int))=((min (h i) (h k):Nat):Int):=by split <;> omega
     generalize max (h i) (h k)=M at *
     generalize min (h i) (h k)=m at *
     rw [←GF n h M m]at hgo2
     generalize rgA L k=x at *
     generalize rgA L i=y at *
     repeat(first|(refine A1 ⟨?_⟩;intros)|(refine Wo (ae rfl mmA gi) ?_)|(refine Wdo (ae rfl mmA gi) ?_)|(refine Wog (ae rfl mmA gi) ?_)|(refine bB (ae rfl mmA gi) ?_)|(refine Wo (ae rfl mmA gk) ?_)|(refine Wdo (ae rfl mmA gk) ?_)|(refine Wog (ae rfl mmA gk) ?_)|(refine bB (ae rfl mmA gk) ?_)|(refine Wo (a6 (cs':=[lqs x]) rfl rfl om om hrk hne0) ?_)|(refine Wdo (a6 (cs':=[lqs x]) rfl rfl om om hrk hne0) ?_)|(refine Wog (a6 (cs':=[lqs x]) rfl rfl om om hrk hne0) ?_)|(refine bB (a6 (cs':=[lqs x]) rfl rfl om om hrk hne0) ?_)|(refine Wo (a6 (cs':=[lqs y]) rfl rfl om om hri hne0) ?_)|(refine Wdo (a6 (cs':=[lqs y]) rfl rfl om om hri hne0) ?_)|(refine Wog (a6 (cs':=[lqs y]) rfl rfl om om hri hne0) ?_)|(refine bB (a6 (cs':=[lqs y]) rfl rfl om om hri hne0) ?_)|(refine Wo (kS rfl rfl (r:=(M:Int)) e1) ?_)|(refine Wdo (kS rfl rfl (r:=(M:Int)) e1) ?_)|(refine Wog (kS rfl rfl (r:=(M:Int)) e1) ?_)|(refine bB (kS rfl rfl (r:=(M:Int)) e1) ?_)|(refine Wo (mo rfl rfl (r:=(m:Int)) e2) ?_)|(refine Wdo (mo rfl rfl (r:=(m:Int)) e2) ?_)|(refine Wog (mo rfl rfl (r:=(m:Int)) e2) ?_)|(refine bB (mo rfl rfl (r:=(m:Int)) e2) ?_)|refine W4 c ⟨?_⟩)
     clear gi gk hrk hri hne0 c e1 e2
     refine WP.perm (H':=[(b4,iT,pcl n (kM h M m 0))]) (List.Perm.of_eq (by rw [Bg])) ?_
     refine WP.loopS (ι:=Nat) (fun z=>z≤n) (fun z=>n-z)
      (fun z=>fm [(0,rt tr),(3,lss L),(4,lit (.slice (some ⟨b4,0,none⟩) n n)),(6,lit (.int .i64 ((i:Nat):Int))),(8,lit (.int .i64 ((M:Nat):Int))),(9,lit (.int .i64 ((m:Nat):Int))),(34,lit (.int .i64 n)),(35,lit (.int .i64 ((i:Nat):Int))),(38,lit (.int .i64 ((i:Nat):Int))),(39,lit (.int .i64 ((k:Nat):Int))),(81,lit (.int .i64 n)),(82,lit (.int .i64 z))]) (fun z=>[(b4,iT,pcl n (kM h M m z))]) 0 (Nat.zero_le _) lfA Sr ?_
     rintro z hz K3 hK3
     by_cases hzl:z<n
     ·have hgo3:=fun F' H'=>hK3 F' H' (z+1) om om
      have gz:=fJ (p:=kM h M m z) hzl
      rw [Gj]at gz
      clear hK3 hgo2
      by_cases hzM:h z=M
      ·rw [←D7 hzM]at hgo3
       rw [hzM]at gz
       have hs:=nk (n:=n) (p:=kM h M m z) (v:=m) hzl
       have hb:=np (p:=kM h M m z) hzl
       repeat(first|(refine A1 ⟨?_⟩;intros)|(refine Wo (ae rfl mmA gz) ?_)|(refine Wdo (ae rfl mmA gz) ?_)|(refine Wog (ae rfl mmA gz) ?_)|(refine bB (ae rfl mmA gz) ?_))
       refine WPL.store (b:=b4) (o:=z) (sv:=lit (.int .i64 ((m:Nat):Int))) rfl rfl rfl (.here _) hs hb ?_
       repeat(refine A1 ⟨?_⟩;intros)
       exact hgo3 _ _ lfA Sr
      ·rw [←Gi hzM]at hgo3
       repeat(first|(refine A1 ⟨?_⟩;intros)|(refine Wo (ae rfl mmA gz) ?_)|(refine Wdo (ae rfl mmA gz) ?_)|(refine Wog (ae rfl mmA gz) ?_)|(refine bB (ae rfl mmA gz) ?_))
       exact hgo3 _ _ lfA Sr
     ·have hze:z=n:=by omega
      subst hze
      clear hK3
      repeat(refine A1 ⟨?_⟩;intros)
      exact hgo2 _ _ lfA Sr
  ·have hke:k=i:=by omega
   subst hke
   clear hK2
   replace hgo:=hgo h hh
   repeat(refine A1 ⟨?_⟩;intros)
   exact hgo _ _ lfA Sr
 ·have hie:i=n:=by omega
  subst hie
  clear hK cn hre hne
  have hG:g=oO L:=by rw [hg,←hnl];rfl
  rw [←hG]
  clear hg hG
  repeat(refine A1 ⟨?_⟩;intros)
  refine WP.loopS (ι:=o8) (fun y=>y.k≤i∧Own ptR 1 (cD tr g i y.k).length ((cD tr g i y.k).map fun t=>[rt t]).flatten y.s y.Hs) (fun y=>i-y.k)
   (fun y=>fm [(0,rt tr),(3,lss L),(4,lit (.slice (some ⟨b4,0,none⟩) i i)),(11,y.s),(99,lit (.int .i64 i)),(100,lit (.int .i64 y.k))]) (fun y=>(b4,iT,pcl i g)::y.Hs) ⟨0,lit (.slice none 0 0),[]⟩
   ⟨Nat.zero_le _,Own.nil _ _⟩ (LeF.cons Lr (LeF.cons Lr (LeF.cons Lr (LeF.cons Lr (LeF.cons (Le.of_eq (by rw [←hnl];rfl)) lfA))))) Sr ?_
  rintro ⟨k,s,Hs⟩ ⟨hk,hown⟩ K hK
  simp only at hk hown⊢
  have hco:=hown.co
  by_cases hkl:k<i
  ·have hgo:=fun s' Hs' h F' H'=>hK F' H' ⟨k+1,s',Hs'⟩ ⟨by simp only;omega,h⟩ (by simp only;omega)
   simp only [sC]at hgo
   have hle:=gY tr g i k
   have gk:=fJ (p:=g) hkl
   clear hK
   by_cases hgk:g k=k
   ·rw [if_pos hgk]at hgo
    rw [hgk]at gk
    repeat(first|(refine A1 ⟨?_⟩;intros)|(refine Wo (ae rfl mmA gk) ?_)|(refine Wdo (ae rfl mmA gk) ?_)|(refine Wog (ae rfl mmA gk) ?_)|(refine bB (ae rfl mmA gk) ?_))
    refine WPL.make (k:=i) (by rw [←hnl];rfl) (by rw [←hnl];rfl) om om rfl (fun b13=>?_)
    rw [FK,In fun j=>decide (g j=k)]
    clear gk
    repeat(refine A1 ⟨?_⟩;intros)
    refine WP.loopS (ι:=Nat) (fun z=>z≤i) (fun z=>i-z)
     (fun z=>fm [(0,rt tr),(3,lss L),(4,lit (.slice (some ⟨b4,0,none⟩) i i)),(11,s),(12,lit (.int .i64 k)),(13,lit (.slice (some ⟨b13,0,none⟩) i i)),(99,lit (.int .i64 i)),(100,lit (.int .i64 k)),(113,lit (.int .i64 i)),(114,lit (.int .i64 z))]) (fun z=>(b13,bT,bcl i (bK (fun j=>decide (g j=k)) z))::(b4,iT,pcl i g)::Hs) 0 (Nat.zero_le _) lfA Sr ?_
    rintro z hz K2 hK2
    by_cases hzl:z<i
    ·have hgo2:=fun F' H'=>hK2 F' H' (z+1) om om
     have gz:=fJ (p:=g) hzl
     have hs:=Ik (n:=i) (f:=fun j=>decide (g j=k)) hzl
     have hb:=Im (n:=i) (f:=bK (fun j=>decide (g j=k)) z) hzl
     clear hK2 hgo hown
     generalize g z=w at *
     by_cases hw:w=k
     ·rw [decide_eq_true hw]at hs
      subst hw
      repeat(first|(refine A1 ⟨?_⟩;intros)|(refine Wo (ae rfl mmA gz) ?_)|(refine Wdo (ae rfl mmA gz) ?_)|(refine Wog (ae rfl mmA gz) ?_)|(refine bB (ae rfl mmA gz) ?_))
      refine WPL.store (b:=b13) (o:=z) (sv:=lit (.bool true)) rfl rfl rfl (.here _) hs hb ?_
      repeat(refine A1 ⟨?_⟩;intros)
      exact hgo2 _ _ lfA Sr
     ·rw [decide_eq_false hw]at hs
      repeat(first|(refine A1 ⟨?_⟩;intros)|(refine Wo (ae rfl mmA gz) ?_)|(refine Wdo (ae rfl mmA gz) ?_)|(refine Wog (ae rfl mmA gz) ?_)|(refine bB (ae rfl mmA gz) ?_))
      refine WPL.store (b:=b13) (o:=z) (sv:=lit (.bool false)) rfl rfl rfl (.here _) hs hb ?_
      repeat(refine A1 ⟨?_⟩;intros)
      exact hgo2 _ _ lfA Sr
    ·have hze:z=i:=by omega
     subst hze
     clear hK2
     have hbl:=FI g z k
     have c3:=fun b15=>qR (gM g z k) om b15 tr 0 hallr om
     have c4:=fY (f5 (fun j=>(gM g z k).getD j false) tr 0) (lK hallr) (by rw [lJ];omega)
     have ep:ac (f5 (fun j=>(gM g z k).getD j false) tr 0) []=qN tr g z k:=rfl
     rw [ep]at c4
     have hco13:Own bT 1 z (bcl z (bK (fun j=>decide (g j=k)) z)) (lit (.slice (some ⟨b13,0,none⟩) z z)) [(b13,bT,bcl z (bK (fun j=>decide (g j=k)) z))]:=⟨by rw [o4];omega, .inr ⟨b13,z,Nat.le_refl _,by unfold maxLen;omega,rfl,by rw [Nat.sub_self,List.replicate_zero,List.append_nil]⟩⟩
     refine WP.rowS 13 hco13 rfl (R:=(b4,iT,pcl z g)::Hs) (List.Perm.refl _) ?_
     rw [FL]
     have eb:sl ((gM g z k).map fun b=>[(lit (.bool b):SV)]).flatten z=bls (gM g z k):=by
      show _=sl _ (gM g z k).length
      rw [hbl]
     rw [eb]
     clear hco13 ep eb
     generalize qN tr g z k=T at *
     generalize f5 (fun j=>(gM g z k).getD j false) tr 0=T0 at *
     generalize gM g z k=bl at *
     generalize cD tr g z k=D at *
     repeat(refine A1 ⟨?_⟩;intros)
     rename_i b15
     refine WfT (c3 b15) ?_ (hs:=Tk.cons (.here _) (Tk.nil _))
     rintro _ _ ⟨rfl,rfl⟩
     simp only [List.cons_append]
     repeat(first|(refine Wo (ez (s:=rt T) (ds:=[rt T]) rfl inferInstance) ?_)|(refine Wdo (ez (s:=rt T) (ds:=[rt T]) rfl inferInstance) ?_)|(refine A1 ⟨?_⟩;intros)|refine W4 c4 ⟨?_⟩)
     refine vK (ds:=[rt T]) hown (Rs:=[(b4,iT,pcl z g),(b15,iT,[lit (.int .i64 ((0+jG tr:Nat):Int))])]) (Jd _ _ _) om (fun s' H1 hown'=>?_)
     replace hgo:=hgo s' H1 (zX hown')
     clear hown hown'
     refine WPL.perm (List.perm_append_comm (l₁:=H1)) ?_
     simp only [List.cons_append,List.nil_append]
     repeat(refine A1 ⟨?_⟩;intros)
     exact hgo _ _ lfA (.cons_cons _ (.cons _ (.refl _)))
   ·rw [if_neg hgk]at hgo
    replace hgo:=hgo s Hs hown
    clear hown
    repeat(first|(refine A1 ⟨?_⟩;intros)|(refine Wo (ae rfl mmA gk) ?_)|(refine Wdo (ae rfl mmA gk) ?_)|(refine Wog (ae rfl mmA gk) ?_)|(refine bB (ae rfl mmA gk) ?_))
    exact hgo _ _ lfA Sr
  ·have hke:k=i:=by omega
   subst hke
   clear hK
   refine WP.rowS 11 hown rfl (R:=[(b4,iT,pcl k g)]) (List.perm_append_comm (l₁:=[(b4,iT,pcl k g)])) ?_
   clear hown
   exact Z1
theorem BU (l:Li) (a b:Tr):bo (eQ l a b)≤1+max (bo a) (bo b):=by
 unfold eQ
 split
 ·split <;> simp [bo]
 ·simp [bo]
theorem vc (l:Li) (a b:Tr):aj (eQ l a b)≤aj a+aj b:=by
 unfold eQ
 split
 ·split <;> simp [aj]
 ·simp [aj]
theorem g8:∀(t:Tr) (c:List Li),bo (ac t c)≤bo t
 | .leaf _,_=>Nat.le_refl _
 | .node l a b,c=>by
  have e:bo (.node l a b)=1+max (bo a) (bo b):=rfl
  unfold ac
  have h1:=g8 a c
  have h2:=g8 b c
  have h3:=g8 a (bZ c l)
  have h4:=g8 b (bZ c l.neg)
  have h5:=BU l (ac a (bZ c l)) (ac b (bZ c l.neg))
  split
  ·omega
  ·split <;> omega
theorem e6:∀(t:Tr) (c:List Li),aj (ac t c)≤aj t
 | .leaf _,_=>Nat.le_refl _
 | .node l a b,c=>by
  have e:aj (.node l a b)=aj a+aj b:=rfl
  unfold ac
  have h1:=e6 a c
  have h2:=e6 b c
  have h3:=e6 a (bZ c l)
  have h4:=e6 b (bZ c l.neg)
  have h5:=vc l (ac a (bZ c l)) (ac b (bZ c l.neg))
  split
  ·omega
  ·split <;> omega
theorem ke {keep:Nat→Bool}:∀(t:Tr) (k:Nat),aj (f5 keep t k)=aj t
 | .leaf _,_=>rfl
 | .node _ a b,k=>by simp only [f5,aj,ke a,ke b]
theorem nD {p:Li→Prop}:∀{t:Tr},t.all p→(bi t).all p
 | .leaf _,_=>trivial
 | .node _ _ _,h=>⟨h.1,nD h.2.1,nD h.2.2⟩
theorem nC:∀t:Tr,bo (bi t)=bo t
 | .leaf _=>rfl
 | .node _ a b=>by simp only [bi,bo,nC a,nC b]
theorem kU:∀t:Tr,aj (bi t)=aj t
 | .leaf _=>rfl
 | .node _ a b=>by simp only [bi,aj,kU a,kU b]
theorem t9 {tr:Tr}{G:Nat→Nat}{n k:Nat}(hall:tr.all fun l=>l.sm){T:Tr}(hT:T∈cD tr G n k):(T.all fun l=>l.sm)∧bo T≤bo tr∧aj T≤aj tr:=by
 unfold cD qN at hT
 obtain⟨i,_,rfl⟩:=List.mem_map.1 hT
 refine⟨et (lK hall),?_,?_⟩
 ·have:=g8 (f5 (fun j=>(gM G n i).getD j false) tr 0) []
  rw [lJ]at this;exact this
 ·have:=e6 (f5 (fun j=>(gM G n i).getD j false) tr 0) []
  rw [ke]at this;exact this
def rbT (T:Tr):Bool:=(cl (aG T [])).all bndB
theorem F5 {α:Type}{p:α→Bool}{l:List α}{k:Nat}{a:α}(h:l[k]? = some a):(l.take (k+1)).filter p=if p a then(l.take k).filter p++[a]else(l.take k).filter p:=by
 rw [cj h,List.filter_append]
 by_cases hp:p a=true
 ·rw [if_pos hp,List.filter_cons_of_pos hp];rfl
 ·rw [if_neg hp,List.filter_cons_of_neg hp,List.filter_nil,List.append_nil]
theorem Bm {t:Tr}(hall:t.all fun l=>l.sm) (hd:bo t≤10000) (hl:aj t≤1000000) (hin:jG (ac (bi t) [])≤(cl (aG (ac (bi t) []) [])).length) :
  Pu Tryz.prog 13 [rt t] (rts ((bw (bi t)).filter rbT)):=by
 have hd1:=g8 (bi t) []
 have hl1:=e6 (bi t) []
 rw [nC]at hd1
 rw [kU]at hl1
 have hallr:(ac (bi t) []).all fun l=>l.sm:=et (nD hall)
 have c1:=lD t hall
 have c2:=t8 (nD hall) (by rw [nC];omega) rfl om om hin
 have hok:∀T∈bw (bi t),Pu Tryz.prog 35 [rt T] (lit (.bool (rbT T))):=fun T hT=>by
  obtain⟨h1,h2,h3⟩:=t9 hallr hT
  exact Dp h1 om om
 have hn:(bw (bi t)).length≤1000000:=by
  have h1:=gY (ac (bi t) []) (oO (cl (aG (ac (bi t) []) []))) (cl (aG (ac (bi t) []) [])).length (cl (aG (ac (bi t) []) [])).length
  have h2:=jH (aG (ac (bi t) []) [])
  have h3:=dz (ac (bi t) []) []
  unfold bw;omega
 have e:cD (ac (bi t) []) (oO (cl (aG (ac (bi t) []) []))) (cl (aG (ac (bi t) []) [])).length (cl (aG (ac (bi t) []) [])).length=bw (bi t):=rfl
 rw [e]at c2
 clear hd1 hl1 hallr hin e hd hl
 generalize bw (bi t)=L at *
 generalize bi t=nt at *
 clear hall
 refine Pi Tryz.func13 fun C=>?_
 repeat(first|(refine A1 ⟨?_⟩;intros)|refine W4 c1 ⟨?_⟩|refine W4 c2 ⟨?_⟩)
 refine WP.loopS (ι:=o8) (fun y=>y.k≤L.length∧Own ptR 1 ((L.take y.k).filter rbT).length (((L.take y.k).filter rbT).map fun t=>[rt t]).flatten y.s y.Hs) (fun y=>L.length-y.k)
  (fun y=>fm [(3,y.s),(8,rts L),(9,lit (.int .i64 L.length)),(10,lit (.int .i64 y.k))]) (fun y=>y.Hs) ⟨0,lit (.slice none 0 0),[]⟩
  ⟨Nat.zero_le _,Own.nil _ _⟩ lfA (List.nil_sublist _) ?_
 rintro ⟨k,s,Hs⟩ ⟨hk,hown⟩ K hK
 simp only at hk hown⊢
 have hco:=hown.co
 by_cases hkl:k<L.length
 ·obtain⟨T,hget,hmm,hat,hne⟩:=elt (f:=fun t=>[rt t]) (n:=1) (fun _=>rfl) om hkl
  have hgo:=fun s' Hs' h F' H'=>hK F' H' ⟨k+1,s',Hs'⟩ ⟨by simp only;omega,h⟩ (by simp only;omega)
  simp only [F5 hget]at hgo
  have c3:=hok T hmm
  have hle:((L.take k).filter rbT).length≤k:=Nat.le_trans (List.length_filter_le _ _) (by rw [List.length_take];omega)
  generalize(L.take k).filter rbT=D at *
  generalize rbT T=y at *
  clear hK hget hmm hok c1 c2
  cases y with
  |false =>
   rw [if_neg (by decide)]at hgo
   replace hgo:=hgo s Hs hown
   clear hown
   repeat(refine A1 ⟨?_⟩;intros)
   refine Wo (a6 (cs':=[rt T]) rfl rfl om om hat hne) ?_
   repeat(first|(refine A1 ⟨?_⟩;intros)|refine W4 c3 ⟨?_⟩)
   exact hgo _ _ lfA Sr
  |true =>
   rw [if_pos rfl]at hgo
   repeat(refine A1 ⟨?_⟩;intros)
   refine Wo (a6 (cs':=[rt T]) rfl rfl om om hat hne) ?_
   repeat(first|(refine Wo (ez (s:=rt T) (ds:=[rt T]) rfl inferInstance) ?_)|(refine Wdo (ez (s:=rt T) (ds:=[rt T]) rfl inferInstance) ?_)|(refine A1 ⟨?_⟩;intros)|refine W4 c3 ⟨?_⟩)
   refine gU (ds:=[rt T]) hown (Tk.same _) om (fun s' H1 hown'=>?_)
   have hco':=hown'.co
   replace hgo:=hgo s' H1 (zX hown')
   clear hown hown'
   repeat(refine A1 ⟨?_⟩;intros)
   exact hgo _ _ lfA Sr
 ·have hke:k=L.length:=by omega
  subst hke
  rw [List.take_length]at hown
  refine WP.rowS 3 hown rfl (by rw [List.append_nil]) ?_
  clear hK hown
  exact Z1
theorem Gh (x:Rat):(0≤x.num.sign)↔0≤x:=by
 rw [Int.sign_nonneg_iff,Rat.num_nonneg]
theorem rB {k s:Rat}(hk:0<k) (h:0≤k*s):0≤s:=by
 by_cases hs:0≤s
 ·exact hs
 ·have h1:0 < -s:=by grind
  have h2:=Rat.mul_pos hk h1
  grind
theorem xG (c:PC):mL c=true↔(∀s∈c,¬(s.2.nl=true∨s.2.nh=true))∧0<c.length:=by
 unfold mL
 rw [Bool.and_eq_true,List.all_eq_true,decide_eq_true_iff]
 refine and_congr ⟨fun h s hs=>?_,fun h s hs=>?_⟩ Iff.rfl
 ·have:=h s hs
  cases h1:s.2.nl <;> cases h2:s.2.nh <;> simp_all
 ·have:=h s hs
  cases h1:s.2.nl <;> cases h2:s.2.nh <;> simp_all
theorem FE (y:List Li):bndB y=true↔0<y.length∧∀l∈y,¬(∀m∈y,0≤slp l m)∧¬∀m∈y,0≤-slp l m:=by
 unfold bndB
 rw [Bool.and_eq_true,decide_eq_true_iff,lS,Bool.not_eq_true',List.any_eq_false]
 refine and_congr ⟨fun h=>by omega,fun h=>by omega⟩ ⟨fun h l hl=>⟨fun k=>?_,fun k=>?_⟩,fun h p hp=>?_⟩
 ·refine h ((l.b:Rat),-(l.a:Rat)) (List.mem_flatten.2 ⟨_,List.mem_map.2 ⟨l,hl,rfl⟩,by simp⟩) ?_
  rw [List.all_eq_true]
  intro m hm
  rw [decide_eq_true_iff,Gh]
  have:=k m hm
  unfold slp at this
  simp only
  grind
 ·refine h (-(l.b:Rat),-(-(l.a:Rat))) (List.mem_flatten.2 ⟨_,List.mem_map.2 ⟨l,hl,rfl⟩,by simp⟩) ?_
  rw [List.all_eq_true]
  intro m hm
  rw [decide_eq_true_iff,Gh]
  have:=k m hm
  unfold slp at this
  simp only
  grind
 ·obtain⟨q,hq,hpq⟩:=List.mem_flatten.1 hp
  obtain⟨l,hl,rfl⟩:=List.mem_map.1 hq
  rw [List.all_eq_true]
  intro k
  simp only [dr2,List.mem_cons,List.not_mem_nil,or_false]at hpq
  rcases hpq with rfl|rfl
  ·refine(h l hl).1 fun m hm=>?_
   have:=k m hm
   rw [decide_eq_true_iff,Gh]at this
   unfold slp
   simp only at this
   grind
  ·refine(h l hl).2 fun m hm=>?_
   have:=k m hm
   rw [decide_eq_true_iff,Gh]at this
   unfold slp
   simp only at this
   grind
theorem xE {x:PC×Bool}{y:List Li×Bool}(h:CR x y):bndB y.1=mL x.1:=by
 rw [Bool.eq_iff_iff,FE,xG]
 have hl:∀m,m∈a8 x.1↔∃s∈x.1,s.1=m:=fun m=>by unfold a8;rw [List.mem_map]
 constructor
 ·rintro ⟨h0,h1⟩
  refine⟨fun s hs ho=>?_,?_⟩
  ·obtain⟨k,hk,hm⟩:=tx h.p hs ho
   have hy:s.1∈y.1:=(h.m _).1 ((hl _).2 ⟨s,hs,rfl⟩)
   rcases(by grind:0<k∨0 < -k)with hp|hp
   ·exact(h1 _ hy).1 fun m hmy=>rB hp (hm m ((h.m m).2 hmy))
   ·exact(h1 _ hy).2 fun m hmy=>rB hp (by have:=hm m ((h.m m).2 hmy);grind)
  ·obtain⟨m,hmy⟩:=List.exists_mem_of_length_pos h0
   obtain⟨s,hs,_⟩:=(hl m).1 ((h.m m).2 hmy)
   exact List.length_pos_of_mem hs
 ·rintro ⟨h1,h0⟩
  refine⟨?_,fun l hly=>⟨fun k=>?_,fun k=>?_⟩⟩
  ·obtain⟨s,hs⟩:=List.exists_mem_of_length_pos h0
   exact List.length_pos_of_mem ((h.m _).1 ((hl _).2 ⟨s,hs,rfl⟩))
  ·obtain⟨s,hs,rfl⟩:=(hl l).1 ((h.m l).2 hly)
   exact h1 s hs (lx h.p hs (k:=1) (by decide +kernel) fun m hm=>by have:=k m ((h.m m).1 hm);grind)
  ·obtain⟨s,hs,rfl⟩:=(hl l).1 ((h.m l).2 hly)
   exact h1 s hs (lx h.p hs (k := -1) (by decide +kernel) fun m hm=>by have:=k m ((h.m m).1 hm);grind)
theorem BM (l:Li) (a b:Tr):eQ l (bi a) (bi b)=bi (eQ l a b):=by
 cases a with
 |leaf i =>
  cases b with
  |leaf j=>cases i <;> cases j <;> rfl
  |node _ _ _=>rfl
 |node _ _ _=>rfl
theorem ii:∀(t:Tr) (c:List Li),ac (bi t) c=bi (ac t c)
 | .leaf _,_=>rfl
 | .node l a b,c=>by
  show(if eT c l=1 then ac (bi a) c else if eT c l = -1 then ac (bi b) c else eQ l (ac (bi a) (bZ c l)) (ac (bi b) (bZ c l.neg)))=bi (if eT c l=1 then ac a c else if eT c l = -1 then ac b c else eQ l (ac a (bZ c l)) (ac b (bZ c l.neg)))
  rw [ii a c,ii b c,ii a,ii b,BM]
  split
  ·rfl
  ·split <;> rfl
abbrev FU (ls:List Li) (d:Pq):Prop:=∀m∈ls,0≤(m.a:Rat)*d.1+(m.b:Rat)*d.2
theorem ny {c:PC}(hc:da c):mL c=false↔∃d:Pq,(d.1≠0∨d.2≠0)∧FU (a8 c) d:=by
 rw [←Bool.not_eq_true,xG]
 by_cases h:c=[]
 ·subst h
  exact⟨fun _=>⟨(1,0), .inl (by decide +kernel),fun m hm=>by cases hm⟩,fun _ k=>by have:=k.2;simp at this⟩
 ·have h0:0<c.length:=List.length_pos_iff.2 h
  rw [←E5 hc h]
  constructor
  ·intro k
   apply Classical.byContradiction
   intro n
   exact k ⟨fun s hs ho=>n ⟨s,hs,ho⟩,h0⟩
  ·rintro ⟨s,hs,ho⟩ k
   exact k.1 s hs ho
theorem vR {L:List Li}(hL:∀l∈L,l.ok){ls:List Li}{d:Pq}(hq:∃q,Inn ls q) (hd:FU ls d){S:List PC}(H:∀q,Off L q→Inn ls q→∃y∈S,Inn (a8 y) q):∃y∈S,FU (a8 y) d:=by
 obtain⟨q,hq⟩:=hq
 obtain⟨r,h1,h2⟩:=lI L hL hq
 obtain⟨N,hN⟩:=zL (d:=d) h2
 obtain⟨y,hy,hy2⟩:=IF (L:=S) (P:=fun y n=>Inn (a8 y) (cT r (n:Rat) d)) (fun M=>by
  obtain⟨y,hy,hi⟩:=H (cT r ((max N M:Nat):Rat) d) (hN _ (Nat.le_max_left _ _)) (E4 h1 hd (by exact_mod_cast Nat.zero_le _))
  exact⟨max N M,Nat.le_max_right _ _,y,hy,hi⟩)
 exact⟨y,hy,Dq hy2⟩
theorem zW {t:Tr}{c:PC}(hc:da c) (hl:t.lok) (hp:Prp t (Inn (a8 c))):(ar t c).length=aj t:=by
 have h:=(par t c (a8 c) hc (fun l hl=>by
  unfold a8 at hl
  obtain⟨s,hs,rfl⟩:=List.mem_map.1 hl
  exact hc.ok s hs) (fun q=>Iff.rfl) hl hp).2
 have:=congrArg List.length h
 rw [List.length_map,pV]at this
 exact this
theorem rz {l:Li}{a b:Tr}{c:PC}(hc:da c) (hl:(Tr.node l a b).lok) (hp:Prp (.node l a b) (Inn (a8 c))) :
  ∃c1 c2:PC,da c1∧da c2∧ar (.node l a b) c=ar a c1++ar b c2∧(Inn (a8 c1)=fun q=>Inn (a8 c) q∧0<a7 l q)∧(Inn (a8 c2)=fun q=>Inn (a8 c) q∧a7 l q<0)∧a.lok∧b.lok∧Prp a (Inn (a8 c1))∧Prp b (Inn (a8 c2)):=by
 obtain⟨hl0,hla,hlb⟩:=hl
 obtain⟨p1,p2,p3,p4⟩:=hp
 have q2:Lft (Inn (a8 c)) l.neg:=by
  obtain⟨q,h1,h2⟩:=p2
  exact⟨q,h1,by rw [fy];grind⟩
 have k1:=(eM hc hl0 (aF l)).2 p1
 have k2:=(eM hc (Li.ok.neg hl0) (aF l.neg)).2 q2
 obtain⟨g1,g2⟩:=iJ hc hl0 (aF l) (d:=(aK (aF l) c l).1) (by rw [←k1])
 obtain⟨g3,g4⟩:=iJ hc (Li.ok.neg hl0) (aF l.neg) (d:=(aK (aF l.neg) c l.neg).1) (by rw [←k2])
 have g5:Inn (a8 (aK (aF l.neg) c l.neg).1)=fun q=>Inn (a8 c) q∧a7 l q<0:=by
  rw [g4];funext q;rw [fy]
  exact propext ⟨fun h=>⟨h.1,by have:=h.2;grind⟩,fun h=>⟨h.1,by have:=h.2;grind⟩⟩
 refine⟨_,_,g1,g3,?_,g2,g5,hla,hlb,by rw [g2];exact p3,by rw [g5];exact p4⟩
 rw [ar,if_pos k1,if_pos k2]
theorem si (keep:Nat→Bool){q:Pq}:∀(t:Tr) (c:PC) (k0:Nat),da c→t.lok→Prp t (Inn (a8 c))→∀(k:Nat) (x:PC×Bool),(ar t c)[k]? = some x→Inn (a8 x.1) q→atT (fD keep t k0) q=(x.2&&keep (k0+k))
 | .leaf i,c,k0,_,_,_,k,x,hk,_=>by
  unfold ar at hk
  cases k with
  |zero=>simp only [List.getElem?_cons_zero,Option.some.injEq]at hk;rw [←hk];rfl
  |succ k=>simp at hk
 | .node l a b,c,k0,hc,hl,hp,k,x,hk,hq=>by
  obtain⟨c1,c2,o1,o2,e,i1,i2,l1,l2,p1,p2⟩:=rz hc hl hp
  have d1:=(dis a c1 o1 l1 p1).1
  have d2:=(dis b c2 o2 l2 p2).1
  have n1:=zW o1 l1 p1
  rw [e]at hk
  unfold fD
  show(if 0<a7 l q then atT (fD keep a k0) q else atT (fD keep b (k0+aj a)) q)=_
  by_cases hlt:k<(ar a c1).length
  ·rw [List.getElem?_append_left hlt]at hk
   have hv:=d1 x (List.mem_of_getElem? hk) q hq
   rw [i1]at hv
   rw [if_pos hv.2]
   exact si keep a c1 k0 o1 l1 p1 k x hk hq
  ·rw [List.getElem?_append_right om]at hk
   have hv:=d2 x (List.mem_of_getElem? hk) q hq
   rw [i2]at hv
   rw [if_neg (by have:=hv.2;grind)]
   rw [si keep b c2 (k0+aj a) o2 l2 p2 _ x hk hq,n1]
   congr 2
   omega
theorem AO {L:List Li}{q:Pq}(hq:Off L q):∀(t:Tr) (c:PC),da c→t.lok→t.lin L→Prp t (Inn (a8 c))→Inn (a8 c) q→∃(k:Nat) (x:PC×Bool),(ar t c)[k]? = some x∧Inn (a8 x.1) q
 | .leaf i,c,_,_,_,_,h=>⟨0,(c,i),rfl,h⟩
 | .node l a b,c,hc,hl,hn,hp,h=>by
  obtain⟨c1,c2,o1,o2,e,i1,i2,l1,l2,p1,p2⟩:=rz hc hl hp
  rw [e]
  have hv:=hq l hn.1
  rcases(by grind:0<a7 l q∨a7 l q<0)with hp|hp
  ·obtain⟨k,x,hk,hx⟩:=AO hq a c1 o1 l1 hn.2.1 p1 (by rw [i1];exact⟨h,hp⟩)
   exact⟨k,x,by rw [List.getElem?_append_left (List.getElem?_eq_some_iff.1 hk).1];exact hk,hx⟩
  ·obtain⟨k,x,hk,hx⟩:=AO hq b c2 o2 l2 hn.2.2 p2 (by rw [i2];exact⟨h,hp⟩)
   exact⟨(ar a c1).length+k,x,by rw [List.getElem?_append_right om,Nat.add_sub_cancel_left];exact hk,hx⟩
theorem F2.left {α β:Type}{R:α→β→Prop}{l:List α}{m:List β}(h:F2 R l m):∀{x:α},x∈l→∃z∈m,R x z:=by
 induction h with
 |nil=>intro x hx;cases hx
 |cons h _ ih =>
  intro x hx
  rcases List.mem_cons.1 hx with e|hx
  ·exact⟨_,Ms,e▸h⟩
  ·obtain⟨z,hz,hr⟩:=ih hx
   exact⟨z,Mc hz,hr⟩
theorem F2.right {α β:Type}{R:α→β→Prop}{l:List α}{m:List β}(h:F2 R l m):∀{z:β},z∈m→∃x∈l,R x z:=by
 induction h with
 |nil=>intro x hx;cases hx
 |cons h _ ih =>
  intro x hx
  rcases List.mem_cons.1 hx with e|hx
  ·exact⟨_,Ms,e▸h⟩
  ·obtain⟨z,hz,hr⟩:=ih hx
   exact⟨z,Mc hz,hr⟩
theorem J4 {T:Tr}(h:F2 CR (ar T []) (aG T [])):rbT T=false↔∃y∈ar T [],y.2=true∧mL y.1=false:=by
 unfold rbT cl
 rw [List.all_eq_false]
 constructor
 ·rintro ⟨s,hs,hb⟩
  obtain⟨z,hz,rfl⟩:=List.mem_map.1 hs
  obtain⟨hz1,hz2⟩:=List.mem_filter.1 hz
  obtain⟨x,hx,hr⟩:=h.right hz1
  refine⟨x,hx,by rw [hr.f];exact hz2,?_⟩
  rw [←xE hr];simpa using hb
 ·rintro ⟨x,hx,h1,h2⟩
  obtain⟨z,hz,hr⟩:=h.left hx
  refine⟨z.1,List.mem_map.2 ⟨z,List.mem_filter.2 ⟨hz,by rw [←hr.f];exact h1⟩,rfl⟩,?_⟩
  rw [xE hr,h2];exact Bool.false_ne_true
theorem xF (p f:Nat→Bool):∀(ks:List Nat) (b:Bool),ks.foldl (fun b k=>if p k=true then b&&f k else b) b=(b&&ks.all fun k => !p k||f k)
 | [],b=>by simp
 |k::ks,b=>by
  rw [List.foldl_cons,xF p f ks,List.all_cons]
  cases p k <;> cases b <;> cases f k <;> simp
theorem JJ (l:Pts) (i:Nat):jl l i=false↔∃(k:Nat) (x:PC×Bool),l[k]? = some x∧(x.2&&decide (iM l k=i))=true∧mL x.1=false:=by
 have e:jl l i=(List.range l.length).all fun k => !(inB l k&&decide (iM l k=i))||mL (clB l k):=by
  have:=xF (fun k=>inB l k&&decide (iM l k=i)) (fun k=>mL (clB l k)) (List.range l.length) true
  rw [Bool.true_and]at this
  exact this
 rw [e,List.all_eq_false]
 have hg:∀k,k<l.length→∃x,l[k]? = some x∧inB l k=x.2∧clB l k=x.1:=fun k hk=>⟨l[k],List.getElem?_eq_getElem hk,by
  show(l.getD k ([],false)).2=_
  rw [List.getD,List.getElem?_eq_getElem hk];rfl,by
  show(l.getD k ([],false)).1=_
  rw [List.getD,List.getElem?_eq_getElem hk];rfl⟩
 constructor
 ·rintro ⟨k,hk,hb⟩
  obtain⟨x,h1,h2,h3⟩:=hg k (List.mem_range.1 hk)
  rw [h2,h3]at hb
  refine⟨k,x,h1,?_,?_⟩
  ·revert hb;cases(x.2&&decide (iM l k=i)) <;> simp
  ·revert hb;cases mL x.1 <;> simp
 ·rintro ⟨k,x,h1,h2,h3⟩
  have hk:=(List.getElem?_eq_some_iff.1 h1).1
  obtain⟨y,g1,g2,g3⟩:=hg k hk
  rw [h1]at g1
  obtain rfl:=Option.some.inj g1
  refine⟨k,List.mem_range.2 hk,?_⟩
  rw [g2,g3,h2,h3];decide
theorem qE:∀(t:Tr) (k:Nat),fD (fun _=>true) t k=t
 | .leaf i,_=>by unfold fD;rw [Bool.and_true]
 | .node l a b,k=>by unfold fD;rw [qE a,qE b]
theorem pH {L:List Li}{keep:Nat→Bool}:∀{t:Tr}{k:Nat},t.lin L→(fD keep t k).lin L
 | .leaf _,_,_=>trivial
 | .node _ _ _,_,h=>⟨h.1,pH h.2.1,pH h.2.2⟩
theorem AU {t:Tr}(hl:t.lok) (hp:Prp t (Inn [])){q:Pq}{k:Nat}{x:PC×Bool}(hk:(ar t [])[k]? = some x) (hq:Inn (a8 x.1) q):atT t q=x.2:=by
 have:=si (fun _=>true) t [] 0 da.nil hl hp k x hk hq
 rwa [qE,Bool.and_true]at this
theorem pP {t:Tr}(hl:t.lok) (hp:Prp t (Inn [])):F2 CR (ar t []) (aG t []):=(par t [] [] da.nil (fun l h=>by cases h) (fun q=>Iff.rfl) hl hp).1
theorem DI {L:List Li}(hL:∀l∈L,l.ok){u:Tr}(hu:Gd L u) (i:Nat):jl (ar u []) i=rbT (eL (ar u []) u i):=by
 have hul:=fh hL hu.1
 have hT:Gd L (eL (ar u []) u i):=Gd.restr hL (pH hu.1)
 have hTl:=fh hL hT.1
 have fU:=pP hul hu.2
 have fT:=pP hTl hT.2
 have hat:∀q,Off L q→atT (eL (ar u []) u i) q=atT (fD (fun k=>decide (iM (ar u []) k=i)) u 0) q:=fun q hq=>Bn hL (pH hu.1) hq
 have key:jl (ar u []) i=false↔rbT (eL (ar u []) u i)=false:=by
  rw [JJ,J4 fT]
  constructor
  ·rintro ⟨k,x,hk,hx,hb⟩
   obtain⟨_,_,hcr⟩:=fU.left (List.mem_of_getElem? hk)
   obtain⟨d,hd,ho⟩:=(ny hcr.p).1 hb
   obtain⟨y,hy,hyo⟩:=vR hL hcr.p.inn ho (S:=((ar (eL (ar u []) u i) []).filter fun y=>y.2).map Prod.fst) fun q hq hi=>by
    have e1:=si (fun k=>decide (iM (ar u []) k=i)) u [] 0 da.nil hul hu.2 k x hk hi
    rw [Nat.zero_add,hx,←hat q hq]at e1
    obtain⟨j,y,hj,hyq⟩:=AO hq _ [] da.nil hTl hT.1 hT.2 (nL q)
    have e2:=AU hTl hT.2 hj hyq
    exact⟨y.1,List.mem_map.2 ⟨y,List.mem_filter.2 ⟨List.mem_of_getElem? hj,by rw [←e2,e1]⟩,rfl⟩,hyq⟩
   obtain⟨z,hz,rfl⟩:=List.mem_map.1 hy
   obtain⟨hz1,hz2⟩:=List.mem_filter.1 hz
   obtain⟨_,_,hcz⟩:=fT.left hz1
   exact⟨z,hz1,hz2,(ny hcz.p).2 ⟨d,hd,hyo⟩⟩
  ·rintro ⟨y,hy,hy2,hb⟩
   obtain⟨_,_,hcr⟩:=fT.left hy
   obtain⟨j,hj⟩:=List.mem_iff_getElem?.1 hy
   obtain⟨d,hd,ho⟩:=(ny hcr.p).1 hb
   obtain⟨c,hc,hco⟩:=vR hL hcr.p.inn ho (S:=((List.range (ar u []).length).filter fun k=>inB (ar u []) k&&decide (iM (ar u []) k=i)).map (clB (ar u []))) fun q hq hi=>by
    have e1:=AU hTl hT.2 hj hi
    rw [hy2,hat q hq]at e1
    obtain⟨k,x,hk,hxq⟩:=AO hq u [] da.nil hul hu.1 hu.2 (nL q)
    have e2:=si (fun k=>decide (iM (ar u []) k=i)) u [] 0 da.nil hul hu.2 k x hk hxq
    rw [Nat.zero_add,e1]at e2
    have hkl:=(List.getElem?_eq_some_iff.1 hk).1
    have hg:(ar u []).getD k ([],false)=x:=by rw [List.getD,hk];rfl
    refine⟨x.1,List.mem_map.2 ⟨k,List.mem_filter.2 ⟨List.mem_range.2 hkl,?_⟩,?_⟩,hxq⟩
    ·show(((ar u []).getD k ([],false)).2&&_)=true
     rw [hg];exact e2.symm
    ·show((ar u []).getD k ([],false)).1=_
     rw [hg]
   obtain⟨k,hk,rfl⟩:=List.mem_map.1 hc
   obtain⟨hk1,hk2⟩:=List.mem_filter.1 hk
   have hkl:=List.mem_range.1 hk1
   have hg:(ar u []).getD k ([],false)=(ar u [])[k]:=by rw [List.getD,List.getElem?_eq_getElem hkl];rfl
   obtain⟨_,_,hcx⟩:=fU.left (List.getElem_mem hkl)
   refine⟨k,(ar u [])[k],List.getElem?_eq_getElem hkl,?_,?_⟩
   ·rw [←hg];exact hk2
   ·refine(ny hcx.p).2 ⟨d,hd,?_⟩
    have:clB (ar u []) k=((ar u [])[k]).1:=by show((ar u []).getD k ([],false)).1=_;rw [hg]
    rw [←this];exact hco
 cases h1:jl (ar u []) i <;> cases h2:rbT (eL (ar u []) u i) <;> simp_all
structure L7 where
 st:List Tr
 cnt:Nat
 s:SV
 Hs:LH
structure LnE (L:List Li) (LL:Nat):Prop where
 ok:∀l∈L,l.ok
 le:∀l∈L,l.le LL
 l1:1≤LL
 l2:LL≤500
 len:L.length≤100
theorem LnE.all {L:List Li}{LL:Nat}(h:LnE L LL){t:Tr}(k:t.lin L):t.all fun l=>l.le LL:=Tr.lin.all h.le k
theorem LnE.sz {L:List Li}{LL:Nat}(h:LnE L LL):L.length*(1+L.length)≤100*101:=Nat.mul_le_mul h.len (by have:=h.len;omega)
theorem ov:∀t:Tr,t.size=jq t
 | .leaf _=>rfl
 | .node l a b=>by rw [Tr.size_node,ov a,ov b];rfl
theorem LnE.of {L:List Li}{LL:Nat}(h:LnE L LL){t:Tr}(k:t.lin L) (hs:jq t≤60000):Pu Tryz.prog 53 [tq t] (Ab.tup [bt t,lit (.bool true)]) :=
 FD t (Tr.lin.all (p:=fun l=>l.ok∧l.le 100000) (fun l hl=>⟨h.ok l hl,(h.le l hl).gr (by have:=h.l2;omega)⟩) k) (by rw [ov];exact hs)
end Go.Ab
