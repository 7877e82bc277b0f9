/- Texts laid one behind the other: TpA, ScR, L28G, L28A, L28B, L28C, L28K. -/
import Derived.Test.YtnhepimaijhhaaaGreatDoorB35
import Derived.Test.YtnhepimaijhhaaaGreatDoorB36
import Derived.Test.YtnhepimaijhhaaaGreatDoorB34
import Derived.Test.YtnhepimaijhhaaaGreatDoorB33
import Derived.Test.YtnhepimaijhhaaaGreatDoorB32
import Derived.Test.YtnhepimaijhhaaaGreatDoorB18
set_option linter.all false
set_option maxHeartbeats 16000000
namespace Go.Ab
open Go.Proofs
variable [Base]
abbrev tpx (t:Tr):List SV:=[lit (.int .i64 (t.root 0)),sl (t.rows 0) t.size]
theorem zw (t:Tr):(tpx t).length=2:=rfl
abbrev tps (l:List Tr):SV:=sl (l.map tpx).flatten l.length
abbrev JM:TypeId:=34
abbrev pbT:TypeId:=71
abbrev bts (l:List Tr):SV:=sl (l.map fun t=>[bt t]).flatten l.length
theorem CJ {t:Tr}{L:Nat}(h1:1≤L) (hU:L≤500) (hall:t.all fun l=>l.le L) (hlok:t.lok) (c1:Pu Tryz.prog 53 [tq t] (Ab.tup [bt t,lit (.bool true)])) (hd:bo t≤1024):Pu Tryz.prog 25 [tq t] (Ab.tup [bt (ac t []),lit .nilIface]):=by
 have c2:=s6 t om
 have c3:=sh h1 hU t hall om
 rw [qX aF hlok]at c3
 generalize ac t []=r at *
 clear hall hlok
 refine Pi Tryz.func25 fun C=>?_
 repeat(first|(refine Wo (aC (sv:=ag _) rfl) ?_)|(refine Wdo (aC (sv:=ag _) rfl) ?_)|(refine A1 ⟨?_⟩;intros)|refine W4 c1 ⟨?_⟩|refine W4 c2 ⟨?_⟩|refine W4 c3 ⟨?_⟩)
 exact G2
theorem GH {l:List Tr}{t:Tr}{s:SV}{H:LH}(h:Own JM 2 (l.length+1) ((l.map tpx).flatten++tpx t) s H):Own JM 2 (l++[t]).length ((l++[t]).map tpx).flatten s H:=by
 rw [List.map_append,List.flatten_append,List.length_append]
 simpa using h
theorem GL {l:List Tr}{t:Tr}{s:SV}{H:LH}(h:Own pbT 1 (l.length+1) ((l.map fun t=>[bt t]).flatten++[bt t]) s H):Own pbT 1 (l++[t]).length ((l++[t]).map fun t=>[bt t]).flatten s H:=by
 rw [List.map_append,List.flatten_append,List.length_append]
 simpa using h
theorem EW {Cs:List (Tr×Bool)}{k:Nat}{c:Tr×Bool}(h:Cs[k]? = some c):(Cs.take (k+1)).map Prod.fst=(Cs.take k).map Prod.fst++[c.1]:=by
 rw [cj h,List.map_append];rfl
theorem B4 {t tr:Tr}{Cs:List (Tr×Bool)}(c1:Pu Tryz.prog 25 [tq t] (Ab.tup [bt tr,lit .nilIface])) (c2:Pu Tryz.prog 26 [bt tr] (cps Cs)) (c3:∀c∈Cs,Pu Tryz.prog 27 [bt c.1] (tq c.1)) (hl:Cs.length≤1000000) :
  Pu Tryz.prog 8 [tq t] (Ab.tup [tps (Cs.map Prod.fst),lit .nilIface]):=by
 refine Pi Tryz.func8 fun C=>?_
 repeat(first|(refine Wo (aC (sv:=ag _) rfl) ?_)|(refine Wdo (aC (sv:=ag _) rfl) ?_)|(refine A1 ⟨?_⟩;intros)|refine W4 c1 ⟨?_⟩|refine W4 c2 ⟨?_⟩)
 refine WP.loopS (ι:=o8) (fun y=>y.k≤Cs.length∧Own JM 2 ((Cs.take y.k).map Prod.fst).length (((Cs.take y.k).map Prod.fst).map tpx).flatten y.s y.Hs) (fun y=>Cs.length-y.k)
  (fun y=>fm [(6,y.s),(18,cps Cs),(19,lit (.int .i64 Cs.length)),(20,lit (.int .i64 y.k))]) (fun y=>y.Hs) ⟨0,lit (.slice none 0 0),[]⟩
  ⟨Nat.zero_le _,Own.nil _ _⟩ lfA (List.nil_sublist _) ?_
 clear c1 c2
 rintro ⟨k,s,Hs⟩ ⟨hk,hown⟩ K hK
 simp only at hk hown⊢
 have hco:=hown.co
 by_cases hkl:k<Cs.length
 ·obtain⟨⟨T,bb⟩,hget,hmm,hat,hne⟩:=elt AN om hkl
  have hgo:=fun s' Hs' h F' H'=>hK F' H' ⟨k+1,s',Hs'⟩ ⟨by simp only;omega,h⟩ (by simp only;omega)
  simp only [EW hget]at hgo
  have c4:=c3 _ hmm
  have hle:((Cs.take k).map Prod.fst).length≤k:=by rw [List.length_map,List.length_take];omega
  generalize(Cs.take k).map Prod.fst=D at *
  clear hK hget hmm c3
  repeat(refine A1 ⟨?_⟩;intros)
  refine Wo (a6 (cs':=cpx (T,bb)) rfl rfl om om hat hne) ?_
  repeat(first|(refine Wo (aA (tpx T) rfl) ?_)|(refine Wdo (aA (tpx T) rfl) ?_)|(refine A1 ⟨?_⟩;intros)|refine W4 c4 ⟨?_⟩)
  refine gU (ds:=tpx T) hown (Tk.skip _ (Tk.same _)) om (fun s' H1 hown'=>?_)
  have hco':=hown'.co
  replace hgo:=hgo s' H1 (GH hown')
  clear hown hown'
  repeat(refine A1 ⟨?_⟩;intros)
  exact hgo _ _ lfA (Sc Sr)
 ·have hke:k=Cs.length:=by omega
  subst hke
  rw [List.take_length]at hown
  refine WP.rowS 6 hown rfl (by rw [List.append_nil]) ?_
  clear hK hown
  repeat(refine A1 ⟨?_⟩;intros)
  exact G2
def oN (Cs:List (Tr×Bool)):List Tr:=(Cs.filter fun c=>c.2).map Prod.fst
theorem C0 {Cs:List (Tr×Bool)}{k:Nat}{T:Tr}{b:Bool}(h:Cs[k]? = some (T,b)):oN (Cs.take (k+1))=if b then oN (Cs.take k)++[T]else oN (Cs.take k):=by
 unfold oN
 rw [cj h,List.filter_append,List.map_append]
 cases b <;> simp
theorem EL (Cs:List (Tr×Bool)):(oN Cs).length≤Cs.length:=by
 unfold oN;rw [List.length_map];exact List.length_filter_le _ _
theorem B6 {tr:Tr}{Cs:List (Tr×Bool)}(c2:Pu Tryz.prog 26 [bt (bi tr)] (cps Cs)) (hl:Cs.length≤1000000):Pu Tryz.prog 29 [bt tr] (bts (oN Cs)):=by
 have c1:=jk tr
 refine Pi Tryz.func29 fun C=>?_
 repeat(first|(refine A1 ⟨?_⟩;intros)|refine W4 c1 ⟨?_⟩|refine W4 c2 ⟨?_⟩)
 refine WP.loopS (ι:=o8) (fun y=>y.k≤Cs.length∧Own pbT 1 (oN (Cs.take y.k)).length ((oN (Cs.take y.k)).map fun t=>[bt t]).flatten y.s y.Hs) (fun y=>Cs.length-y.k)
  (fun y=>fm [(3,y.s),(8,cps Cs),(9,lit (.int .i64 Cs.length)),(10,lit (.int .i64 y.k))]) (fun y=>y.Hs) ⟨0,lit (.slice none 0 0),[]⟩
  ⟨Nat.zero_le _,Own.nil _ _⟩ lfA (List.nil_sublist _) ?_
 clear c1 c2
 rintro ⟨k,s,Hs⟩ ⟨hk,hown⟩ K hK
 simp only at hk hown⊢
 have hco:=hown.co
 by_cases hkl:k<Cs.length
 ·obtain⟨⟨T,bb⟩,hget,hmm,hat,hne⟩:=elt AN om hkl
  have hgo:=fun s' Hs' h F' H'=>hK F' H' ⟨k+1,s',Hs'⟩ ⟨by simp only;omega,h⟩ (by simp only;omega)
  simp only [C0 hget]at hgo
  have hle:=EL (Cs.take k)
  rw [List.length_take]at hle
  generalize oN (Cs.take k)=D at *
  clear hK hget hmm
  cases bb with
  |false =>
   rw [if_neg (by decide)]at hgo
   replace hgo:=hgo s Hs hown
   clear hown
   repeat(refine A1 ⟨?_⟩;intros)
   refine Wo (a6 (cs':=cpx (T,false)) rfl rfl om om hat hne) ?_
   repeat(refine A1 ⟨?_⟩;intros)
   exact hgo _ _ lfA (Sc Sr)
  |true =>
   rw [if_pos rfl]at hgo
   repeat(refine A1 ⟨?_⟩;intros)
   refine Wo (a6 (cs':=cpx (T,true)) rfl rfl om om hat hne) ?_
   repeat(first|(refine Wo (ez (s:=bt T) (ds:=[bt T]) rfl inferInstance) ?_)|(refine Wdo (ez (s:=bt T) (ds:=[bt T]) rfl inferInstance) ?_)|(refine A1 ⟨?_⟩;intros))
   refine gU (ds:=[bt T]) hown (Tk.skip _ (Tk.same _)) om (fun s' H1 hown'=>?_)
   have hco':=hown'.co
   replace hgo:=hgo s' H1 (GL hown')
   clear hown hown'
   repeat(refine A1 ⟨?_⟩;intros)
   exact hgo _ _ lfA (Sc Sr)
 ·have hke:k=Cs.length:=by omega
  subst hke
  rw [List.take_length]at hown
  refine WP.rowS 3 hown rfl (by rw [List.append_nil]) ?_
  clear hK hown
  exact Z1
theorem B7 {t tr:Tr}{Cs:List (Tr×Bool)}{Hl:List Tr}(c1:Pu Tryz.prog 25 [tq t] (Ab.tup [bt tr,lit .nilIface])) (c2:Pu Tryz.prog 26 [bt tr] (cps Cs)) (c3:Pu Tryz.prog 29 [bt tr] (bts Hl)) :
  Pu Tryz.prog 10 [tq t] (Ab.tup [lit (.int .i64 Cs.length),lit (.int .i64 Hl.length),lit .nilIface]):=by
 refine Pi Tryz.func10 fun C=>?_
 repeat(first|(refine Wo (aC (sv:=ag _) rfl) ?_)|(refine Wdo (aC (sv:=ag _) rfl) ?_)|(refine A1 ⟨?_⟩;intros)|refine W4 c1 ⟨?_⟩|refine W4 c2 ⟨?_⟩|refine W4 c3 ⟨?_⟩)
 ((first|refine aQ ?_|refine eB ?_);exact I8 (RV.tmp rfl) (RV.tmp rfl) (RV.tmp rfl) Lr)
theorem CP {t tr:Tr}{Cs:List (Tr×Bool)}(c1:Pu Tryz.prog 25 [tq t] (Ab.tup [bt tr,lit .nilIface])) (c2:Pu Tryz.prog 26 [bt tr] (cps Cs)) :
  Pu Tryz.prog 11 [tq t] (Ab.tup [lit (.bool (decide (Cs.length=1))),lit .nilIface]):=by
 by_cases h:Cs.length=1
 ·rw [decide_eq_true h]
  refine Pi Tryz.func11 fun C=>?_
  repeat(first|(refine Wo (aC (sv:=ag _) rfl) ?_)|(refine Wdo (aC (sv:=ag _) rfl) ?_)|(refine A1 ⟨?_⟩;intros)|refine W4 c1 ⟨?_⟩|refine W4 c2 ⟨?_⟩)
  exact G2
 ·rw [decide_eq_false h]
  refine Pi Tryz.func11 fun C=>?_
  repeat(first|(refine Wo (aC (sv:=ag _) rfl) ?_)|(refine Wdo (aC (sv:=ag _) rfl) ?_)|(refine A1 ⟨?_⟩;intros)|refine W4 c1 ⟨?_⟩|refine W4 c2 ⟨?_⟩)
  exact G2
abbrev Bo (n:Nat):SV:=ex fun t:{t:Tr //∃L:List Li,L.length≤n∧(∀l∈L,l.sm)∧Gd L t}=>rt t.1
theorem g9 {n:Nat}{t:Tr}(L:List Li) (h1:L.length≤n) (h2:∀l∈L,l.sm) (h3:Gd L t):Le (rt t) (Bo n):=Le.ex (f:=fun t:{t:Tr //∃L:List Li,L.length≤n∧(∀l∈L,l.sm)∧Gd L t}=>rt t.1) ⟨t,L,h1,h2,h3⟩ Lr
theorem mv:∀t:Tr,t.lin (jh t)
 | .leaf _=>trivial
 | .node l a b=>⟨Ms,Tr.lin.mono (fun x hx=>Mc (List.mem_append_left _ hx)) (mv a),Tr.lin.mono (fun x hx=>Mc (List.mem_append_right _ hx)) (mv b)⟩
theorem kf:∀t:Tr,(jh t).length=t.size
 | .leaf _=>rfl
 | .node l a b=>by
  rw [Tr.size_node,←kf a,←kf b]
  show(l::(jh a++jh b)).length=_
  rw [List.length_cons,List.length_append];omega
theorem iF {p:Li→Prop}:∀{t:Tr},t.all p→∀l∈jh t,p l
 | .leaf _,_,l,h=>by cases h
 | .node m a b,k,l,h=>by
  rcases List.mem_cons.1 h with h|h
  ·rw [h];exact k.1
  ·rcases List.mem_append.1 h with h|h
   ·exact iF k.2.1 l h
   ·exact iF k.2.2 l h
theorem nT:∀t:Tr,bo t≤t.size
 | .leaf _=>Nat.le_refl _
 | .node l a b=>by
  have:=nT a
  have:=nT b
  rw [Tr.size_node]
  simp only [bo]
  omega
theorem Gd.mono {L M:List Li}(hs:∀l∈L,l∈M){t:Tr}(h:Gd L t):Gd M t:=⟨Tr.lin.mono hs h.1,h.2⟩
theorem uw {L:List Li}(h:∀l∈L,l.sm):∀l∈L,l.ok:=fun l hl=>(h l hl).1
theorem rM {L:List Li}(h:∀l∈L,l.sm){t:Tr}(k:Gd L t):t.all fun l=>l.sm:=Tr.lin.all h k.1
theorem ET {rs:List (List Pq)}{fill:Int}(hrl:rs.length≤2) (hrs:∀r∈rs,eG r):∃L:List Li,L.length≤12∧(∀l∈L,l.sm)∧Gd L (ac (jx (inR rs fill) 20000 ((rs.map dw).flatten) []) []):=by
 have hLl:=gI rs hrs
 have hL:=pX hrs
 have hlen:((rs.map dw).flatten).length≤12:=by have:=hLl;unfold f6 at this;rw [List.length_map]at this;omega
 have hfw:∀f∈(rs.map dw).flatten,FgG (f6 rs) f:=fun f hf=>by
  obtain⟨e,he,hfe⟩:=List.mem_flatten.1 hf
  obtain⟨r,hr,rfl⟩:=List.mem_map.1 he
  exact(qe (hrs r hr) f hfe).2.2 _ (List.mem_map.2 ⟨f,hf,rfl⟩)
 have hphi:fE (f6 rs) (rs.map dw).flatten≤12*13:=Nat.le_trans (pM _ _) (Nat.mul_le_mul hlen om)
 obtain⟨_,_,z3⟩:=jw (inR rs fill) 20000 ((rs.map dw).flatten) [] hfw om
 exact⟨f6 rs,om,hL,Gd.restr (uw hL) z3⟩
theorem gF (zs:List Int) (hz:zs.length≤400):PuT 46 zs [] (Bo 12):=by
 have key:∀(rs:List (List Pq)) (fill:Int),rs≠[]→rs.length≤2→(∀r∈rs,eG r)→(fill=1∨fill=2)→Pu Tryz.prog 24 [qM rs] (xI rs)∧Pu Tryz.prog 23 [xI rs,lit (.int .i64 fill)] (rgR rs fill (mE (f6 rs)))∧Pu Tryz.prog 22 [rgR rs fill (mE (f6 rs))] (rt (ac (jx (inR rs fill) 20000 ((rs.map dw).flatten) []) [])):=fun rs fill h0 hl hr hf =>
  ⟨pJ rs om hr,zE fill h0 om hr,tg hf om hr⟩
 have fin:∀(rs:List (List Pq)) (fill:Int),rs.length≤2→(∀r∈rs,eG r)→Le (rt (ac (jx (inR rs fill) 20000 ((rs.map dw).flatten) []) [])) (Bo 12):=fun rs fill hl hr=>by
  obtain⟨L,h1,h2,h3⟩:=ET (fill:=fill) hl hr
  exact g9 L h1 h2 h3
 refine PuM.intro Tryz.func46 rfl kr fun C b=>?_
 repeat(refine A1 ⟨?_⟩;intros)
 refine Wtx (vQ zs hz) mmA fun r=>?_
 obtain⟨r,hr⟩:=r
 simp only []
 refine Wo (iA (s:=rps r) (ds:=[rps r]) rfl inferInstance) ?_
 repeat(refine A1 ⟨?_⟩;intros)
 refine Wtx (cB zs hz 3 om om) mmA fun k=>?_
 obtain⟨k,hk⟩:=k
 simp only []
 by_cases hk0:k=0
 ·subst hk0
  repeat(refine A1 ⟨?_⟩;intros)
  refine Wtx (vQ zs hz) mmA fun q=>?_
  obtain⟨q,hq⟩:=q
  simp only []
  refine Wo (aX (r:=[(0,[rps q])]) (cs:=[rps q]) (.cons (sv:=rps q) rfl inferInstance .nil)) ?_
  refine Wo (av (k:=1) (k0:=1) (ds:=[rps q]) rfl rfl rfl rfl om) ?_
  have hrs:∀x∈[r,q],eG x:=fun x hx=>by
   rcases List.mem_cons.1 hx with h|h
   ·rw [h];exact hr
   ·rw [List.mem_singleton.1 h];exact hq
  have ca:=pJ [r,q] (by simp) hrs
  repeat(first|(refine A1 ⟨?_⟩;intros)|refine W4 ca ⟨?_⟩)
  refine Wtx (cB zs hz 2 om om) mmA fun k=>?_
  obtain⟨k,hk⟩:=k
  simp only []
  have hf:(1+(k:Int))=1∨(1+(k:Int))=2:=by omega
  obtain⟨_,c1,c2⟩:=key [r,q] (1+(k:Int)) (by simp) (by simp) hrs hf
  have hfin:=fin [r,q] (1+(k:Int)) (by simp) hrs
  repeat(first|(refine A1 ⟨?_⟩;intros)|refine W4 c1 ⟨?_⟩|refine W4 c2 ⟨?_⟩)
  exact db () _ (ay (RV.tmp rfl) hfin) mmA (LeL.refl _)
 ·repeat(refine A1 ⟨?_⟩;intros)
  have hrs:∀x∈[r],eG x:=fun x hx=>by rw [List.mem_singleton.1 hx];exact hr
  have ca:=(pJ [r] (by simp) hrs).arg (l':=[xsl [rps r] 1]) ⟨mw,trivial⟩
  repeat(first|(refine A1 ⟨?_⟩;intros)|refine W4 ca ⟨?_⟩)
  refine Wtx (cB zs hz 2 om om) mmA fun k=>?_
  obtain⟨k,hk⟩:=k
  simp only []
  have hf:(1+(k:Int))=1∨(1+(k:Int))=2:=by omega
  obtain⟨_,c1,c2⟩:=key [r] (1+(k:Int)) (by simp) (by simp) hrs hf
  have hfin:=fin [r] (1+(k:Int)) (by simp) hrs
  repeat(first|(refine A1 ⟨?_⟩;intros)|refine W4 c1 ⟨?_⟩|refine W4 c2 ⟨?_⟩)
  exact db () _ (ay (RV.tmp rfl) hfin) mmA (LeL.refl _)
theorem pow_one (d:Nat):12≤12*2^d:=by have:0<2^d:=Nat.pow_pos om;omega
theorem Ar {l:Li}(hl:l.sm):Pu Tryz.prog 30 [rt (.node l (.leaf true) (.leaf false))] (rt (ac (.node l (.leaf true) (.leaf false)) [])):=fY _ ⟨hl,trivial,trivial⟩ (by simp [bo])
theorem As {l:Li}(hl:l.sm):Gd [l] (ac (.node l (.leaf true) (.leaf false)) []):=Gd.restr (fun x hx=>by rw [List.mem_singleton.1 hx];exact hl.1) ⟨List.mem_singleton.2 rfl,trivial,trivial⟩
theorem zv {t:Tr}(h:t.all fun l=>l.ok∧l.le 1):Gd (jh t) (ac t []):=Gd.restr (fun l hl=>(iF h l hl).1) (mv t)
theorem xQ (zs:List Int) (hz:zs.length≤400):∀d:Nat,d≤3→PuT 20 zs [lit (.int .i64 (d:Int))] (Bo (12*2^d)):=by
 intro d
 induction d with
 |zero =>
  intro _
  refine PuM.intro Tryz.func20 rfl kr fun C b=>?_
  repeat(refine A1 ⟨?_⟩;intros)
  refine Wtx (cB zs hz 6 om om) mmA fun k=>?_
  obtain⟨k,hk⟩:=k
  simp only []
  rcases(by omega:k=1∨k=2∨k=3∨k=0∨(k≠0∧k≠1∧k≠2∧k≠3))with rfl|rfl|rfl|rfl|⟨k0,k1,k2,k3⟩
  ·repeat(refine A1 ⟨?_⟩;intros)
   refine Wtx (CL zs hz) mmA fun l=>?_
   obtain⟨l,hok,hle⟩:=l
   simp only []
   have c:=Ar (l:=l) ⟨hok,hle⟩
   rw [show rt (.node l (.leaf true) (.leaf false))=pt (rc (.node l (.leaf true) (.leaf false)))from rfl,eH]at c
   repeat(first|(refine Wo (aC (sv:=ag _) rfl) ?_)|(refine Wdo (aC (sv:=ag _) rfl) ?_)|(refine A1 ⟨?_⟩;intros)|refine W4 (cE true) ⟨?_⟩|refine W4 (cE false) ⟨?_⟩|refine W4 c ⟨?_⟩)
   exact db () _ (ay (RV.tmp rfl) (g9 [l] (by simp) (fun x hx=>by rw [List.mem_singleton.1 hx];exact⟨hok,hle⟩) (As ⟨hok,hle⟩))) mmA (LeL.refl _)
  ·repeat(refine A1 ⟨?_⟩;intros)
   refine Wtx (qv zs hz 3 om) mmA fun t=>?_
   obtain⟨t,ht,hs⟩:=t
   simp only []
   have h8:t.size<8:=hs
   have hd:=nT t
   have c:=fY t ht om
   have hln:=kf t
   repeat(first|(refine A1 ⟨?_⟩;intros)|refine W4 c ⟨?_⟩)
   exact db () _ (ay (RV.tmp rfl) (g9 (jh t) (by simp only [Nat.pow_zero];omega) (fun x hx=>iF ht x hx) (zv ht))) mmA (LeL.refl _)
  ·repeat(refine A1 ⟨?_⟩;intros)
   refine Wtx (gF zs hz) mmA fun t=>?_
   obtain⟨t,L,h1,h2,h3⟩:=t
   simp only []
   have c:=lD t (rM h2 h3)
   repeat(first|(refine A1 ⟨?_⟩;intros)|refine W4 c ⟨?_⟩)
   exact db () _ (ay (RV.tmp rfl) (g9 L (by simpa using h1) h2 h3.not)) mmA (LeL.refl _)
  ·repeat(refine A1 ⟨?_⟩;intros)
   refine Wtx (gF zs hz) mmA fun t=>?_
   obtain⟨t,L,h1,h2,h3⟩:=t
   simp only []
   repeat(refine A1 ⟨?_⟩;intros)
   exact db () _ (ay (RV.tmp rfl) (g9 L (by simpa using h1) h2 h3)) mmA (LeL.refl _)
  ·repeat(refine A1 ⟨?_⟩;intros)
   refine Wtx (gF zs hz) mmA fun t=>?_
   obtain⟨t,L,h1,h2,h3⟩:=t
   simp only []
   repeat(refine A1 ⟨?_⟩;intros)
   exact db () _ (ay (RV.tmp rfl) (g9 L (by simpa using h1) h2 h3)) mmA (LeL.refl _)
 |succ d ih =>
  intro hd
  have hr:=ih om
  rw [show(d:Int)=((d+1:Nat):Int)-1 from by omega]at hr
  have hp:=pow_one (d+1)
  have hp8:12*2^(d+1)=12*2^d+12*2^d:=by rw [Nat.pow_succ];omega
  have hp3:2^d≤2^3:=Nat.pow_le_pow_right om om
  clear ih
  refine PuM.intro Tryz.func20 rfl kr fun C b=>?_
  repeat(refine A1 ⟨?_⟩;intros)
  refine Wtx (cB zs hz 6 om om) mmA fun k=>?_
  obtain⟨k,hk⟩:=k
  simp only []
  rcases(by omega:k=0∨k=1∨k=2∨k=3∨(k≠0∧k≠1∧k≠2∧k≠3))with rfl|rfl|rfl|rfl|⟨k0,k1,k2,k3⟩
  ·repeat(refine A1 ⟨?_⟩;intros)
   refine Wtx hr mmA fun t=>?_
   obtain⟨t,L,h1,h2,h3⟩:=t
   simp only []
   repeat(refine A1 ⟨?_⟩;intros)
   refine Wtx (cB zs hz 4 om om) mmA fun o=>?_
   obtain⟨o,ho⟩:=o
   simp only []
   repeat(refine A1 ⟨?_⟩;intros)
   refine Wtx hr mmA fun u=>?_
   obtain⟨u,M,m1,m2,m3⟩:=u
   simp only []
   have q1:=h3.dep
   have q2:=m3.dep
   have hLM:∀l∈L++M,l.sm:=fun l hl=>(List.mem_append.1 hl).elim (h2 l) (m2 l)
   have g1:=Gd.mono (M:=L++M) (fun l hl=>List.mem_append_left _ hl) h3
   have g2:=Gd.mono (M:=L++M) (fun l hl=>List.mem_append_right _ hl) m3
   have c:=iu (1+(o:Int)) om u (rM m2 m3) t [] (rM h2 h3) (fun m h=>by cases h) (by simp only [List.length_nil];omega)
   have c':=c.arg (l':=[lit (.int .i64 (1+(o:Int))),rt t,rt u,lit (.slice none 0 0)]) ⟨Le.refl _,Le.refl _,Le.refl _,dS,trivial⟩
   have hg:Gd (L++M) (dI (1+(o:Int)) t u []):=Gd.merge (uw hLM) g1.1 g2.1
   have hlen:(L++M).length≤12*2^(d+1):=by rw [List.length_append];omega
   generalize dI (1+(o:Int)) t u []=r at *
   clear c h3 m3 g1 g2 h2 m2
   repeat(first|(refine A1 ⟨?_⟩;intros)|refine W4 c' ⟨?_⟩)
   exact db () _ (ay (RV.tmp rfl) (g9 (L++M) hlen hLM hg)) mmA (LeL.refl _)
  ·repeat(refine A1 ⟨?_⟩;intros)
   refine Wtx (CL zs hz) mmA fun l=>?_
   obtain⟨l,hok,hle⟩:=l
   simp only []
   have c:=Ar (l:=l) ⟨hok,hle⟩
   rw [show rt (.node l (.leaf true) (.leaf false))=pt (rc (.node l (.leaf true) (.leaf false)))from rfl,eH]at c
   repeat(first|(refine Wo (aC (sv:=ag _) rfl) ?_)|(refine Wdo (aC (sv:=ag _) rfl) ?_)|(refine A1 ⟨?_⟩;intros)|refine W4 (cE true) ⟨?_⟩|refine W4 (cE false) ⟨?_⟩|refine W4 c ⟨?_⟩)
   exact db () _ (ay (RV.tmp rfl) (g9 [l] (by simp only [List.length_singleton];omega) (fun x hx=>by rw [List.mem_singleton.1 hx];exact⟨hok,hle⟩) (As ⟨hok,hle⟩))) mmA (LeL.refl _)
  ·repeat(refine A1 ⟨?_⟩;intros)
   refine Wtx (qv zs hz 3 om) mmA fun t=>?_
   obtain⟨t,ht,hs⟩:=t
   simp only []
   have h8:t.size<8:=hs
   have hd:=nT t
   have c:=fY t ht om
   have hln:=kf t
   repeat(first|(refine A1 ⟨?_⟩;intros)|refine W4 c ⟨?_⟩)
   exact db () _ (ay (RV.tmp rfl) (g9 (jh t) om (fun x hx=>iF ht x hx) (zv ht))) mmA (LeL.refl _)
  ·repeat(refine A1 ⟨?_⟩;intros)
   refine Wtx (gF zs hz) mmA fun t=>?_
   obtain⟨t,L,h1,h2,h3⟩:=t
   simp only []
   have c:=lD t (rM h2 h3)
   repeat(first|(refine A1 ⟨?_⟩;intros)|refine W4 c ⟨?_⟩)
   exact db () _ (ay (RV.tmp rfl) (g9 L om h2 h3.not)) mmA (LeL.refl _)
  ·repeat(refine A1 ⟨?_⟩;intros)
   refine Wtx (gF zs hz) mmA fun t=>?_
   obtain⟨t,L,h1,h2,h3⟩:=t
   simp only []
   repeat(refine A1 ⟨?_⟩;intros)
   exact db () _ (ay (RV.tmp rfl) (g9 L om h2 h3)) mmA (LeL.refl _)
theorem oF {L:Nat}(h1:1≤L):∀(t:Tr) (c:PC),(t.all fun l=>l.le L)→(∀s∈c,o9 L s)→∀x∈ar t c,(∀s∈x.1,o9 L s)∧x.1.length≤c.length+bo t
 | .leaf i,c,_,hc,x,hx=>by
  unfold ar at hx
  rw [List.mem_singleton.1 hx]
  exact⟨hc,Nat.le_add_right _ _⟩
 | .node l a b,c,h,hc,x,hx=>by
  have hd:bo (.node l a b)=1+max (bo a) (bo b):=rfl
  have n1:=ik (aF l) c l
  have n2:=ik (aF l.neg) c l.neg
  have hln:l.neg.le L:=⟨by show il (-l.a)≤L;rw [cG];exact h.1.a,by show il (-l.b)≤L;rw [cG];exact h.1.b,by show il (-l.c)≤L;rw [cG];exact h.1.c⟩
  unfold ar at hx
  rcases List.mem_append.1 hx with hx|hx
  ·split at hx
   ·obtain⟨g1,g2⟩:=oF h1 a _ h.2.1 (jP hc h.1 h1) x hx
    exact⟨g1,by rw [hd];omega⟩
   ·cases hx
  ·split at hx
   ·obtain⟨g1,g2⟩:=oF h1 b _ h.2.2 (jP hc hln h1) x hx
    exact⟨g1,by rw [hd];omega⟩
   ·cases hx
structure Gx (L:List Li) (t:Tr):Prop where
 len:L.length≤25
 sm:∀l∈L,l.sm
 g:Gd L t
theorem Gx.ok {L:List Li}{t:Tr}(h:Gx L t):∀l∈L,l.ok:=uw h.sm
theorem Gx.lok {L:List Li}{t:Tr}(h:Gx L t):t.lok:=fh h.ok h.g.1
theorem Gx.dep {L:List Li}{t:Tr}(h:Gx L t):bo t≤25:=Nat.le_trans h.g.dep h.len
theorem Gx.size {L:List Li}{t:Tr}(h:Gx L t):jq t≤650:=Nat.le_trans (h.g.size h.ok) (Nat.le_trans (Nat.mul_le_mul h.len (Nat.add_le_add_left h.len 1)) (by decide))
theorem Gx.lv {L:List Li}{t:Tr}(h:Gx L t):aj t≤651:=by have:=h.size;rw [iV];omega
theorem Gx.all {L:List Li}{t:Tr}(h:Gx L t):t.all fun l=>l.sm:=rM h.sm h.g
theorem kB {p q:Li→Prop}(hpq:∀l,p l→q l):∀{t:Tr},t.all p→t.all q
 | .leaf _,_=>trivial
 | .node _ _ _,h=>⟨hpq _ h.1,kB hpq h.2.1,kB hpq h.2.2⟩
theorem Gx.restr {L:List Li}{t:Tr}(h:Gx L t):Gx L (ac t []):=⟨h.len,h.sm,Gd.restr h.ok h.g.1⟩
theorem Gx.not {L:List Li}{t:Tr}(h:Gx L t):Gx L (bi t):=⟨h.len,h.sm,h.g.not⟩
abbrev mc (u:Tr):List (Tr×Bool):=sb (ar u []) u
theorem Gx.comps {L:List Li}{u:Tr}(h:Gx L u):Pu Tryz.prog 26 [bt u] (cps (mc u)):=by
 have hlen:=zW da.nil h.lok h.g.2
 have hle:=kB (p:=fun l=>l.sm) (q:=fun l=>l.le 1) (fun l hl=>hl.2) h.all
 have hd:=h.dep
 have hv:=h.lv
 exact Ft (L:=1) rfl rfl ⟨om,om,fun x hx=>by
  obtain⟨g1,g2⟩:=oF om u [] hle (fun s hs=>by cases hs) x hx
  exact⟨g1,by rw [List.length_nil]at g2;omega⟩,om⟩ hle h.lok om hlen.symm
structure CN (t:Tr) (n h:Nat):Prop where
 w:Pu Tryz.prog 9 [rt t] (tq t)
 cc:Pu Tryz.prog 10 [tq t] (Ab.tup [lit (.int .i64 n),lit (.int .i64 h),lit .nilIface])
section
variable {P:Program}{C:Ctx}{n:Nat}{F:Fr}{H:LH}{ty:TypeId}
theorem pR {T e:TypeId}{sz by_:Nat}{z:List SV}{g:Bool} [hS:TSl P T e] [hT:TY P e sz by_ z g]{len:Nat}{l:List (Nat×Operand)}{r:List (Nat×List SV)}{cs:List SV}(hp:dc F l r) (hf:fO ((List.range len).map fun i=>(i*sz,sz)) (List.replicate len z).flatten r=some cs:=by exact rfl)
  (hsz:Nat.ble (len*sz) 16777216=true:=by exact rfl) (hpos:Nat.blt 0 sz=true:=by exact rfl) (hl:Nat.ble len 1000=true:=by exact rfl):OpV P (.buildSlice T len l.toArray) ty F H (xsl cs len) :=
 OpV.pubN (gc hp hf hsz hpos) fun m b arr hb h=>um hb h (by have:=Nat.le_of_ble_eq_true hl;simp only [maxLen];omega)
end
abbrev sqP (a b:Int):List Pq:=[iq a a,iq b a,iq b b,iq a b]
theorem vW {a b:Int}(ha:a.natAbs≤1000) (hb:b.natAbs≤1000) (h:a≠b):eG (sqP a b):=rg4 ha ha hb hb h h
theorem jp (a b:Int) (ha:a.natAbs≤1000) (hb:b.natAbs≤1000):Pu Tryz.prog 21 [lit (.int .i64 a),lit (.int .i64 b)] (rps (sqP a b)):=by
 have c1:=jn a a om om om om
 have c2:=jn b a om om om om
 have c3:=jn b b om om om om
 have c4:=jn a b om om om om
 clear ha hb
 refine Pi Tryz.func21 fun C=>?_
 repeat(first|(refine Wo (kT bC (sqP a b) (r:=[(0,rpx (iq a a)),(1,rpx (iq b a)),(2,rpx (iq b b)),(3,rpx (iq a b))]) (.pt rfl (.pt rfl (.pt rfl (.pt rfl .nil))))) ?_)|(refine Wdo (kT bC (sqP a b) (r:=[(0,rpx (iq a a)),(1,rpx (iq b a)),(2,rpx (iq b b)),(3,rpx (iq a b))]) (.pt rfl (.pt rfl (.pt rfl (.pt rfl .nil))))) ?_)|(refine A1 ⟨?_⟩;intros)|refine W4 c1 ⟨?_⟩|refine W4 c2 ⟨?_⟩|refine W4 c3 ⟨?_⟩|refine W4 c4 ⟨?_⟩)
 exact E1
theorem tU {rs:List (List Pq)}{fill:Int}(hrl:rs.length≤3) (hrs:∀r∈rs,eG r):∃L:List Li,L.length≤18∧(∀l∈L,l.sm)∧Gd L (ac (jx (inR rs fill) 20000 ((rs.map dw).flatten) []) []):=by
 have hLl:=gI rs hrs
 have hL:=pX hrs
 have hlen:((rs.map dw).flatten).length≤18:=by have:=hLl;unfold f6 at this;rw [List.length_map]at this;omega
 have hfw:∀f∈(rs.map dw).flatten,FgG (f6 rs) f:=fun f hf=>by
  obtain⟨e,he,hfe⟩:=List.mem_flatten.1 hf
  obtain⟨r,hr,rfl⟩:=List.mem_map.1 he
  exact(qe (hrs r hr) f hfe).2.2 _ (List.mem_map.2 ⟨f,hf,rfl⟩)
 have hphi:fE (f6 rs) (rs.map dw).flatten≤18*19:=Nat.le_trans (pM _ _) (Nat.mul_le_mul hlen om)
 obtain⟨_,_,z3⟩:=jw (inR rs fill) 20000 ((rs.map dw).flatten) [] hfw om
 exact⟨f6 rs,om,hL,Gd.restr (uw hL) z3⟩
abbrev zm (rs:List (List Pq)):Tr:=ac (jx (inR rs 1) 20000 ((rs.map dw).flatten) []) []
theorem zl {rs:List (List Pq)}(h0:rs≠[]) (hl:rs.length≤3) (hr:∀r∈rs,eG r):Pu Tryz.prog 24 [qM rs] (xI rs)∧Pu Tryz.prog 23 [xI rs,lit (.int .i64 1)] (rgR rs 1 (mE (f6 rs)))∧Pu Tryz.prog 22 [rgR rs 1 (mE (f6 rs))] (rt (zm rs)) :=
 ⟨pJ rs om hr,zE 1 h0 om hr,tg (.inl rfl) om hr⟩
theorem yI (zs:List Int) (hz:zs.length≤400):PuT 6 zs [] (Bo 24):=by
 have fin:∀(rs:List (List Pq)),rs.length≤3→(∀r∈rs,eG r)→Le (rt (zm rs)) (Bo 24):=fun rs hl hr=>by
  obtain⟨L,h1,h2,h3⟩:=tU (fill:=1) hl hr
  exact g9 L om h2 h3
 refine PuM.intro Tryz.func6 rfl kr fun C b=>?_
 repeat(refine A1 ⟨?_⟩;intros)
 refine Wtx (cB zs hz 2 om om) mmA fun k=>?_
 obtain⟨k,hk⟩:=k
 simp only []
 by_cases hk0:k=0
 ·subst hk0
  repeat(refine A1 ⟨?_⟩;intros)
  refine Wtx (xQ zs hz 1 om) mmA fun t=>?_
  obtain⟨t,L,h1,h2,h3⟩:=t
  simp only []
  repeat(refine A1 ⟨?_⟩;intros)
  exact db () _ (ay (RV.tmp rfl) (g9 L (by simpa using h1) h2 h3)) mmA (LeL.refl _)
 ·repeat(refine A1 ⟨?_⟩;intros)
  refine Wtx (cB zs hz 3 om om) mmA fun a=>?_
  obtain⟨a,ha⟩:=a
  simp only []
  repeat(refine A1 ⟨?_⟩;intros)
  refine Wtx (cB zs hz 3 om om) mmA fun b=>?_
  obtain⟨b,hb⟩:=b
  simp only []
  have s1:=jp ((a:Int)-3) ((a:Int)-3+3+b) om om
  have s2:=jp ((a:Int)-3+1) ((a:Int)-3+2) om om
  have o1:eG (sqP ((a:Int)-3) ((a:Int)-3+3+b)):=vW om om om
  have o2:eG (sqP ((a:Int)-3+1) ((a:Int)-3+2)):=vW om om om
  have s3:=jp 2 3 om om
  have o3:eG (sqP 2 3):=vW om om om
  generalize sqP ((a:Int)-3) ((a:Int)-3+3+b)=p1 at *
  generalize sqP ((a:Int)-3+1) ((a:Int)-3+2)=p2 at *
  generalize sqP 2 3=p3 at *
  repeat(first|(refine Wo (pR (r:=[(0,[rps p1]),(1,[rps p2])]) (cs:=[rps p1,rps p2]) (.cons (sv:=rps p1) rfl inferInstance (.cons (sv:=rps p2) rfl inferInstance .nil))) ?_)|(refine Wdo (pR (r:=[(0,[rps p1]),(1,[rps p2])]) (cs:=[rps p1,rps p2]) (.cons (sv:=rps p1) rfl inferInstance (.cons (sv:=rps p2) rfl inferInstance .nil))) ?_)|(refine A1 ⟨?_⟩;intros)|refine W4 s1 ⟨?_⟩|refine W4 s2 ⟨?_⟩)
  refine Wtx (cB zs hz 2 om om) mmA fun c=>?_
  obtain⟨c,hc⟩:=c
  simp only []
  by_cases hc0:c=0
  ·subst hc0
   have hrs:∀x∈[p1,p2,p3],eG x:=fun x hx=>by
    simp only [List.mem_cons,List.not_mem_nil,or_false]at hx
    rcases hx with rfl|rfl|rfl <;> assumption
   obtain⟨b1,b2,b3⟩:=zl (by simp) (by simp) hrs
   have hfin:=fin [p1,p2,p3] (by simp) hrs
   repeat(first|(refine Wo (aX (r:=[(0,[rps p3])]) (cs:=[rps p3]) (.cons (sv:=rps p3) rfl inferInstance .nil)) ?_)|(refine Wdo (aX (r:=[(0,[rps p3])]) (cs:=[rps p3]) (.cons (sv:=rps p3) rfl inferInstance .nil)) ?_)|(refine Wo (av (k:=2) (k0:=1) (ds:=[rps p3]) rfl rfl rfl rfl om) ?_)|(refine Wdo (av (k:=2) (k0:=1) (ds:=[rps p3]) rfl rfl rfl rfl om) ?_)|(refine A1 ⟨?_⟩;intros)|refine W4 s3 ⟨?_⟩|refine W4 b1 ⟨?_⟩|refine W4 b2 ⟨?_⟩|refine W4 b3 ⟨?_⟩)
   exact db () _ (ay (RV.tmp rfl) hfin) mmA (LeL.refl _)
  ·have hrs:∀x∈[p1,p2],eG x:=fun x hx=>by
    simp only [List.mem_cons,List.not_mem_nil,or_false]at hx
    rcases hx with rfl|rfl <;> assumption
   obtain⟨b1,b2,b3⟩:=zl (by simp) (by simp) hrs
   have b1':=b1.arg (l':=[xsl [rps p1,rps p2] 2]) ⟨mw,trivial⟩
   have hfin:=fin [p1,p2] (by simp) hrs
   repeat(first|(refine A1 ⟨?_⟩;intros)|refine W4 b1' ⟨?_⟩|refine W4 b2 ⟨?_⟩|refine W4 b3 ⟨?_⟩)
   exact db () _ (ay (RV.tmp rfl) hfin) mmA (LeL.refl _)
structure TP (t:Tr):Prop where
 n:(bw t).length≤1000000
 w:Pu Tryz.prog 9 [rt t] (tq t)
 cp:Pu Tryz.prog 8 [tq t] (Ab.tup [tps (bw t),lit .nilIface])
 cc:Pu Tryz.prog 10 [tq t] (Ab.tup [lit (.int .i64 (bw t).length),lit (.int .i64 ((bw (bi t)).filter rbT).length),lit .nilIface])
 cn:Pu Tryz.prog 11 [tq t] (Ab.tup [lit (.bool (decide ((bw t).length=1))),lit .nilIface])
 rp:Pu Tryz.prog 12 [rt t] (rts (bw t))
 rh:Pu Tryz.prog 13 [rt t] (rts ((bw (bi t)).filter rbT))
 sw:∀T∈bw t,Pu Tryz.prog 9 [rt T] (tq T)∧Pu Tryz.prog 14 [tq T,tq T] (lit (.bool true))
theorem Ev (HA:∀(L:List Li) (t:Tr),L.length≤24→(∀l∈L,l.sm)→Gd L t→TP t) (hkn:Pu Tryz.prog 15 [] (lit (.bool true))) (zs:List Int) (hz:zs.length≤9223372036854775807):Pu Tryz.prog 3 [nsl .i64 zs] (lit (.bool true)):=by
 have hk:(zs.take (min zs.length 400)).length≤400:=by simp;omega
 have hnew:=Jy zs hz
 generalize zs.take (min zs.length 400)=ys at *
 have hreg:=yI ys hk
 clear hz
 refine Pi Tryz.func3 fun C=>?_
 repeat(refine A1 ⟨?_⟩;intros)
 refine WPL.callN hnew rfl rfl fun bb=>?_
 repeat(refine A1 ⟨?_⟩;intros)
 refine Wtx hreg mmA fun t=>?_
 obtain⟨t,L,h1,h2,h3⟩:=t
 simp only []
 obtain⟨h0,w,cp,cc,cn,rp,rh,sw⟩:=HA L t h1 h2 h3
 clear HA h1 h2 h3 hreg hnew
 generalize(bw (bi t)).filter rbT=Hs at *
 generalize bw t=Ps at *
 by_cases hn:Ps.length=1
 ·rw [decide_eq_true hn]at cn
  repeat(first|(refine A1 ⟨?_⟩;intros)|refine W4 w ⟨?_⟩|refine W4 cp ⟨?_⟩|refine W4 cc ⟨?_⟩|refine W4 cn ⟨?_⟩|refine W4 rp ⟨?_⟩|refine W4 rh ⟨?_⟩)
  refine WP.loopS (ι:=Nat) (fun k=>k≤Ps.length) (fun k=>Ps.length-k)
   (fun k=>fm [(4,tps Ps),(11,rts Ps),(74,lit (.int .i64 Ps.length)),(75,lit (.int .i64 k))]) (fun _=>[]) 0 (Nat.zero_le _) lfA (List.nil_sublist _) ?_
  rintro k hk K hK
  by_cases hkl:k<Ps.length
  ·obtain⟨T,hget,hmm,hat,hne⟩:=elt zw om hkl
   obtain⟨T',hget',_,hat',hne'⟩:=elt (f:=fun t=>[rt t]) (n:=1) (fun _=>rfl) om hkl
   obtain rfl:T'=T:=by rw [hget]at hget';exact(Option.some.inj hget').symm
   obtain⟨w1,w2⟩:=sw _ hmm
   have hgo:=fun F' H'=>hK F' H' (k+1) om om
   clear hK hget hget' hmm sw w cp cc cn rp rh
   repeat(first|(refine A1 ⟨?_⟩;intros)|(refine Wo (a6 (cs':=tpx T') rfl rfl om om hat hne) ?_)|(refine Wdo (a6 (cs':=tpx T') rfl rfl om om hat hne) ?_)|(refine Wog (a6 (cs':=tpx T') rfl rfl om om hat hne) ?_)|(refine bB (a6 (cs':=tpx T') rfl rfl om om hat hne) ?_)|(refine Wo (a6 (cs':=[rt T']) rfl rfl om om hat' hne') ?_)|(refine Wdo (a6 (cs':=[rt T']) rfl rfl om om hat' hne') ?_)|(refine Wog (a6 (cs':=[rt T']) rfl rfl om om hat' hne') ?_)|(refine bB (a6 (cs':=[rt T']) rfl rfl om om hat' hne') ?_)|refine W4 w1 ⟨?_⟩|refine W4 w2 ⟨?_⟩)
   exact hgo _ _ lfA (List.nil_sublist _)
  ·have hke:k=Ps.length:=by omega
   subst hke
   clear hK sw w cp cc cn rp rh
   exact Y1 hkn
 ·rw [decide_eq_false hn]at cn
  repeat(first|(refine A1 ⟨?_⟩;intros)|refine W4 w ⟨?_⟩|refine W4 cp ⟨?_⟩|refine W4 cc ⟨?_⟩|refine W4 cn ⟨?_⟩|refine W4 rp ⟨?_⟩|refine W4 rh ⟨?_⟩)
  refine WP.loopS (ι:=Nat) (fun k=>k≤Ps.length) (fun k=>Ps.length-k)
   (fun k=>fm [(4,tps Ps),(11,rts Ps),(74,lit (.int .i64 Ps.length)),(75,lit (.int .i64 k))]) (fun _=>[]) 0 (Nat.zero_le _) lfA (List.nil_sublist _) ?_
  rintro k hk K hK
  by_cases hkl:k<Ps.length
  ·obtain⟨T,hget,hmm,hat,hne⟩:=elt zw om hkl
   obtain⟨T',hget',_,hat',hne'⟩:=elt (f:=fun t=>[rt t]) (n:=1) (fun _=>rfl) om hkl
   obtain rfl:T'=T:=by rw [hget]at hget';exact(Option.some.inj hget').symm
   obtain⟨w1,w2⟩:=sw _ hmm
   have hgo:=fun F' H'=>hK F' H' (k+1) om om
   clear hK hget hget' hmm sw w cp cc cn rp rh
   repeat(first|(refine A1 ⟨?_⟩;intros)|(refine Wo (a6 (cs':=tpx T') rfl rfl om om hat hne) ?_)|(refine Wdo (a6 (cs':=tpx T') rfl rfl om om hat hne) ?_)|(refine Wog (a6 (cs':=tpx T') rfl rfl om om hat hne) ?_)|(refine bB (a6 (cs':=tpx T') rfl rfl om om hat hne) ?_)|(refine Wo (a6 (cs':=[rt T']) rfl rfl om om hat' hne') ?_)|(refine Wdo (a6 (cs':=[rt T']) rfl rfl om om hat' hne') ?_)|(refine Wog (a6 (cs':=[rt T']) rfl rfl om om hat' hne') ?_)|(refine bB (a6 (cs':=[rt T']) rfl rfl om om hat' hne') ?_)|refine W4 w1 ⟨?_⟩|refine W4 w2 ⟨?_⟩)
   exact hgo _ _ lfA (List.nil_sublist _)
  ·have hke:k=Ps.length:=by omega
   subst hke
   clear hK sw w cp cc cn rp rh
   exact Y1 hkn
theorem F2.flags {l:Pts}{Y:RPs}(h:F2 CR l Y):l.map Prod.snd=Y.map Prod.snd:=by
 induction h with
 |nil=>rfl
 |cons h _ ih=>rw [List.map_cons,List.map_cons,ih,h.f]
theorem rI {t:Tr}(hl:t.lok) (hp:Prp t (Inn [])):jG t=(cl (aG t [])).length:=by
 have h:=pP hl hp
 have hv:=(par t [] [] da.nil (fun l h=>by cases h) (fun q=>Iff.rfl) hl hp).2
 rw [pW,←hv,h.flags,List.countP_map]
 unfold cl
 rw [List.length_map,←List.countP_eq_length_filter]
 rfl
theorem Gx.fst {L:List Li}{u:Tr}(h:Gx L u):(mc u).map Prod.fst=cD u (oO (cl (aG u []))) (cl (aG u [])).length (cl (aG u [])).length :=
 yv (pP h.lok h.g.2) (dis u [] da.nil h.lok h.g.2).2 (par u [] [] da.nil (fun l h=>by cases h) (fun q=>Iff.rfl) h.lok h.g.2).2
theorem Gx.hol {L:List Li}{u:Tr}(h:Gx L u):oN (mc u)=((mc u).map Prod.fst).filter rbT:=by
 unfold oN
 rw [List.filter_map]
 congr 1
 refine List.filter_congr fun c hc=>?_
 obtain⟨i,_,rfl⟩:=List.mem_map.1 hc
 exact DI h.ok h.g i
theorem Iw {L:List Li}{t:Tr}(hL:L.length≤24) (hs:∀l∈L,l.sm) (hg:Gd L t):TP t:=by
 have h:Gx L t:=⟨om,hs,hg⟩
 have hr:=h.restr
 have hn:=hr.not
 have f1:(mc (ac t [])).map Prod.fst=bw t:=hr.fst
 have f2:(mc (bi (ac t []))).map Prod.fst=bw (bi t):=by
  rw [hn.fst];unfold bw;rw [ii]
 have hol:oN (mc (bi (ac t [])))=(bw (bi t)).filter rbT:=by rw [hn.hol,f2]
 have hok:∀T∈bw t,(T.all fun l=>l.le 1000000)∧T.size≤650:=fun T hT=>by
  obtain⟨g1,_,g3⟩:=t9 hr.all hT
  have hv:=hr.lv
  have e:=iV T
  exact⟨kB (fun l hl=>hl.ile) g1,by rw [ov];omega⟩
 have hlen:(bw t).length≤651:=by
  have h1:=gY (ac t []) (oO (cl (aG (ac t []) []))) (cl (aG (ac t []) [])).length (cl (aG (ac t []) [])).length
  have h2:=jH (aG (ac t []) [])
  have h3:=dz (ac t []) []
  have hv:=hr.lv
  unfold bw;omega
 have hcl:(mc (ac t [])).length=(bw t).length:=by rw [←f1,List.length_map]
 have hc2l:(mc (bi (ac t []))).length≤1000000:=by
  have h1:=gY (bi (ac t [])) (oO (cl (aG (bi (ac t [])) []))) (cl (aG (bi (ac t [])) [])).length (cl (aG (bi (ac t [])) [])).length
  have h2:=jH (aG (bi (ac t [])) [])
  have h3:=dz (bi (ac t [])) []
  have hv:=hn.lv
  have e:=congrArg List.length hn.fst
  rw [List.length_map]at e
  omega
 have hd:=h.dep
 have hdr:=hr.dep
 have hv:=h.lv
 have hsz:=h.size
 have hlv:=hr.lv
 have ha6:=kB (q:=fun l=>l.le 1000000) (fun l hl=>Li.sm.ile hl) h.all
 have ha1:=kB (q:=fun l=>l.le 1) (fun l (hl:l.sm)=>hl.2) h.all
 have cof:=FD t (kB (q:=fun l=>l.ok∧l.le 100000) (fun l (hl:l.sm)=>⟨hl.1,hl.2.gr om⟩) h.all) (by rw [ov];omega)
 have c1:=CJ (L:=1) om om ha1 h.lok cof om
 have c2:=hr.comps
 have c3:∀c∈mc (ac t []),Pu Tryz.prog 27 [bt c.1] (tq c.1):=fun c hc=>by
  obtain⟨g1,g2⟩:=hok c.1 (by rw [←f1];exact List.mem_map.2 ⟨c,hc,rfl⟩)
  exact G9 c.1 g1 om
 have c4:=B6 hn.comps hc2l
 have hin:=rI hr.lok hr.g.2
 have hin2:jG (ac (bi t) [])≤(cl (aG (ac (bi t) []) [])).length:=by
  rw [ii,rI hn.lok hn.g.2];exact Nat.le_refl _
 refine⟨om,sY t ha6 (by rw [ov];omega),?_,?_,?_,?_,?_,fun T hT=>?_⟩
 ·have:=B4 c1 c2 c3 om
  rw [f1]at this;exact this
 ·have:=B7 c1 c2 c4
  rw [hcl,hol]at this;exact this
 ·have:=CP c1 c2
  rw [hcl]at this;exact this
 ·exact t8 h.all om rfl om om om
 ·exact Bm h.all om om hin2
 ·obtain⟨g1,g2⟩:=hok T hT
  exact⟨sY T g1 om,D8 T g1 om⟩
theorem JB (hkn:Pu Tryz.prog 15 [] (lit (.bool true))) (zs:List Int) (hz:zs.length≤9223372036854775807):Pu Tryz.prog 3 [nsl .i64 zs] (lit (.bool true)) :=
 Ev (fun _ _ h1 h2 h3=>Iw h1 h2 h3) hkn zs hz
abbrev knT:Tr:=zm [sqP 0 3,sqP 1 2]
theorem Ey:Nat.beq (bw knT).length 1=true:=by kernel_rfl
theorem Ez:Nat.beq ((bw (bi knT)).filter rbT).length 1=true:=by kernel_rfl
theorem yK:Pu Tryz.prog 15 [] (lit (.bool true)):=by
 have o1:eG (sqP 0 3):=vW om om om
 have o2:eG (sqP 1 2):=vW om om om
 have hrs:∀x∈[sqP 0 3,sqP 1 2],eG x:=fun x hx=>by
  simp only [List.mem_cons,List.not_mem_nil,or_false]at hx
  rcases hx with rfl|rfl <;> assumption
 obtain⟨b1,b2,b3⟩:=zl (by simp) (by simp) hrs
 obtain⟨L,h1,h2,h3⟩:=tU (fill:=1) (rs:=[sqP 0 3,sqP 1 2]) (by simp) hrs
 have tp:TP (zm [sqP 0 3,sqP 1 2]):=Iw om h2 h3
 have hw:=tp.w
 have hc:=tp.cc
 have e1:(bw (zm [sqP 0 3,sqP 1 2])).length=1:=Nat.eq_of_beq_eq_true Ey
 have e2:((bw (bi (zm [sqP 0 3,sqP 1 2]))).filter rbT).length=1:=Nat.eq_of_beq_eq_true Ez
 rw [e1,e2]at hc
 have s1:=jp 0 3 om om
 have s2:=jp 1 2 om om
 have b1':=b1.arg (l':=[xsl [rps (sqP 0 3),rps (sqP 1 2)] 2]) ⟨mw,trivial⟩
 clear tp h1 h2 h3 e1 e2 o1 o2 hrs
 generalize zm [sqP 0 3,sqP 1 2]=t at *
 generalize sqP 0 3=p1 at *
 generalize sqP 1 2=p2 at *
 refine Pi Tryz.func15 fun C=>?_
 repeat(first|(refine Wo (pR (r:=[(0,[rps p1]),(1,[rps p2])]) (cs:=[rps p1,rps p2]) (.cons (sv:=rps p1) rfl inferInstance (.cons (sv:=rps p2) rfl inferInstance .nil))) ?_)|(refine Wdo (pR (r:=[(0,[rps p1]),(1,[rps p2])]) (cs:=[rps p1,rps p2]) (.cons (sv:=rps p1) rfl inferInstance (.cons (sv:=rps p2) rfl inferInstance .nil))) ?_)|(refine A1 ⟨?_⟩;intros)|refine W4 s1 ⟨?_⟩|refine W4 s2 ⟨?_⟩|refine W4 b1' ⟨?_⟩|refine W4 b2 ⟨?_⟩|refine W4 b3 ⟨?_⟩|refine W4 hw ⟨?_⟩|refine W4 hc ⟨?_⟩)
 exact E1
theorem oq (zs:List Int) (hz:zs.length≤9223372036854775807):Pu Tryz.prog 3 [nsl .i64 zs] (lit (.bool true)):=JB yK zs hz
end Go.Ab
