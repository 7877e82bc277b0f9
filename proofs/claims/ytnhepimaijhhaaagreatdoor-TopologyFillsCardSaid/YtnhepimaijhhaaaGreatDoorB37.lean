/- Texts laid one behind the other: PTwo, TpA, ScR, L28G, L28A, L28B, L28C, L28K. -/
import Derived.Test.YtnhepimaijhhaaaGreatDoorB36
set_option linter.all false
set_option maxHeartbeats 16000000
namespace Go.Ab
open Go.Proofs
variable [Base]
structure LnE (L:List Li) (LL:Nat):Prop where
 ok:∀l∈L,l.ok
 le:∀l∈L,l.le LL
 l1:1≤LL
 l2:LL≤500
 len:L.length≤100
theorem LnE.all {L:List Li}{LL:Nat}(h:LnE L LL){t:Tr}(k:t.lin L):t.all fun l=>l.le LL:=Tr.lin.all h.le k
theorem LnE.sz {L:List Li}{LL:Nat}(h:LnE L LL):L.length*(1+L.length)≤100*101:=Nat.mul_le_mul h.len (by have:=h.len;omega)
theorem yw {L:List Li}{LL:Nat}(h:LnE L LL) (op:Int) (hop:1≤op∧op≤4){a b:Tr}(ha:a.lin L) (hb:b.lin L) (da:aU a≤500) (db:aU b≤500):Pu Tryz.prog 77 [lit (.int .i64 op),bt a,bt b] (Ab.tup [bt (cD op a b []),lit .nilIface]):=by
 have c1:=kt a om;have c2:=kt b om;have c3:=lH h.l1 h.l2 op hop b (h.all hb) a [] (h.all ha) (fun s hs=>by cases hs) (by simp only [List.length_nil];omega);have c3':=c3.arg (l':=[lit (.int .i64 op),bt a,bt b,lit (.slice none 0 0)]) ⟨Le.refl _,Le.refl _,Le.refl _,dJ,trivial⟩;rw [Al ak (cM h.ok ha) (cM h.ok hb)]at c3';have hg:=wA (op:=op) h.ok ha hb;have hm:=h.sz;have c4:=Ho (cD op a b []) om;generalize cD op a b []=r at *;generalize L.length*(1+L.length)=q at *;clear c3 ha hb h;refine Pi Tryz.func77 fun C=>?_
 repeat(first|(refine A1 ⟨?_⟩;intros)|refine W4 c1 ⟨?_⟩|refine W4 c2 ⟨?_⟩|refine W4 c3' ⟨?_⟩|refine W4 c4 ⟨?_⟩)
 exact G2
theorem iw:∀t:Tr,t.size=cK t
 | .leaf _=>rfl
 | .node l a b=>by rw [Tr.size_node,iw a,iw b];rfl
abbrev tpx (t:Tr):List SV:=[lit (.int .i64 (t.root 0)),sl (t.rows 0) t.size]
abbrev tps (l:List Tr):SV:=sl (l.map tpx).flatten l.length
abbrev Ll:TypeId:=34
abbrev pbT:TypeId:=71
abbrev bts (l:List Tr):SV:=sl (l.map fun t=>[bt t]).flatten l.length
theorem rI {t:Tr}{L:Nat}(h1:1≤L) (hU:L≤500) (hall:t.all fun l=>l.le L) (hlok:t.lok) (c1:Pu Tryz.prog 53 [tq t] (Ab.tup [bt t,lit (.bool true)])) (hd:aU t≤1024):Pu Tryz.prog 25 [tq t] (Ab.tup [bt (a8 t []),lit .nilIface]):=by
 have c2:=kt t om;have c3:=nM h1 hU t hall om;rw [mU ak hlok]at c3;generalize a8 t []=r at *;clear hall hlok;refine Pi Tryz.func25 fun C=>?_
 repeat(first|(refine Wo (aB (sv:=ag _) rfl) ?_)|(refine Wdo (aB (sv:=ag _) rfl) ?_)|(refine A1 ⟨?_⟩;intros)|refine W4 c1 ⟨?_⟩|refine W4 c2 ⟨?_⟩|refine W4 c3 ⟨?_⟩)
 exact G2
theorem In {l:List Tr}{t:Tr}{s:SV}{H:LH}(h:Own Ll 2 (l.length+1) ((l.map tpx).flatten++tpx t) s H):Own Ll 2 (l++[t]).length ((l++[t]).map tpx).flatten s H:=by
 rw [List.map_append,List.flatten_append,List.length_append];simpa using h
theorem Is {l:List Tr}{t:Tr}{s:SV}{H:LH}(h:Own pbT 1 (l.length+1) ((l.map fun t=>[bt t]).flatten++[bt t]) s H):Own pbT 1 (l++[t]).length ((l++[t]).map fun t=>[bt t]).flatten s H:=by
 rw [List.map_append,List.flatten_append,List.length_append];simpa using h
theorem GF {Cs:List (Tr×Bool)}{k:Nat}{c:Tr×Bool}(h:Cs[k]? = some c):(Cs.take (k+1)).map Prod.fst=(Cs.take k).map Prod.fst++[c.1]:=by
 rw [bV h,List.map_append];rfl
theorem Cu {t tr:Tr}{Cs:List (Tr×Bool)}(c1:Pu Tryz.prog 25 [tq t] (Ab.tup [bt tr,lit .nilIface])) (c2:Pu Tryz.prog 26 [bt tr] (cps Cs)) (c3:∀c∈Cs,Pu Tryz.prog 27 [bt c.1] (tq c.1)) (hl:Cs.length≤1000000) :
  Pu Tryz.prog 8 [tq t] (Ab.tup [tps (Cs.map Prod.fst),lit .nilIface]):=by
 refine Pi Tryz.func8 fun C=>?_
 repeat(first|(refine Wo (aB (sv:=ag _) rfl) ?_)|(refine Wdo (aB (sv:=ag _) rfl) ?_)|(refine A1 ⟨?_⟩;intros)|refine W4 c1 ⟨?_⟩|refine W4 c2 ⟨?_⟩)
 refine WP.loopS (ι:=pf) (fun y=>y.k≤Cs.length∧Own Ll 2 ((Cs.take y.k).map Prod.fst).length (((Cs.take y.k).map Prod.fst).map tpx).flatten y.s y.Hs) (fun y=>Cs.length-y.k)
  (fun y=>fm [(6,y.s),(18,cps Cs),(19,lit (.int .i64 Cs.length)),(20,lit (.int .i64 y.k))]) (fun y=>y.Hs) ⟨0,lit (.slice none 0 0),[]⟩
  ⟨Nat.zero_le _,Own.nil _ _⟩ lfA (List.nil_sublist _) ?_
 clear c1 c2;rintro ⟨k,s,Hs⟩ ⟨hk,hown⟩ K hK;simp only at hk hown⊢;have hco:=hown.co;by_cases hkl:k<Cs.length
 ·obtain⟨⟨T,bb⟩,hget,hmm,hat,hne⟩:=elt Ch om hkl;have hgo:=fun s' Hs' h F' H'=>hK F' H' ⟨k+1,s',Hs'⟩ ⟨by simp only;omega,h⟩ (by simp only;omega)
  simp only [GF hget]at hgo;have c4:=c3 _ hmm;have hle:((Cs.take k).map Prod.fst).length≤k:=by rw [List.length_map,List.length_take];omega
  generalize(Cs.take k).map Prod.fst=D at *;clear hK hget hmm c3;repeat(refine A1 ⟨?_⟩;intros)
  refine Wo (a7 (cs':=cpx (T,bb)) rfl rfl om om hat hne) ?_;repeat(first|(refine Wo (aE (tpx T) rfl) ?_)|(refine Wdo (aE (tpx T) rfl) ?_)|(refine A1 ⟨?_⟩;intros)|refine W4 c4 ⟨?_⟩)
  refine iG (ds:=tpx T) hown (Tk.skip _ (Tk.same _)) om (fun s' H1 hown'=>?_);have hco':=hown'.co;replace hgo:=hgo s' H1 (In hown');clear hown hown';repeat(refine A1 ⟨?_⟩;intros)
  exact hgo _ _ lfA (Sc Sr)
 ·have hke:k=Cs.length:=by omega
  subst hke;rw [List.take_length]at hown;refine WP.rowS 6 hown rfl (by rw [List.append_nil]) ?_;clear hK hown;repeat(refine A1 ⟨?_⟩;intros)
  exact G2
def fC (Cs:List (Tr×Bool)):List Tr:=(Cs.filter fun c=>c.2).map Prod.fst
theorem Ds {Cs:List (Tr×Bool)}{k:Nat}{T:Tr}{b:Bool}(h:Cs[k]? = some (T,b)):fC (Cs.take (k+1))=if b then fC (Cs.take k)++[T]else fC (Cs.take k):=by
 unfold fC;rw [bV h,List.filter_append,List.map_append];cases b <;> simp
theorem ti (Cs:List (Tr×Bool)):(fC Cs).length≤Cs.length:=by
 unfold fC;rw [List.length_map];exact List.length_filter_le _ _
theorem pw {tr:Tr}{Cs:List (Tr×Bool)}(c2:Pu Tryz.prog 26 [bt (aN tr)] (cps Cs)) (hl:Cs.length≤1000000):Pu Tryz.prog 29 [bt tr] (bts (fC Cs)):=by
 have c1:=i4 tr;refine Pi Tryz.func29 fun C=>?_
 repeat(first|(refine A1 ⟨?_⟩;intros)|refine W4 c1 ⟨?_⟩|refine W4 c2 ⟨?_⟩)
 refine WP.loopS (ι:=pf) (fun y=>y.k≤Cs.length∧Own pbT 1 (fC (Cs.take y.k)).length ((fC (Cs.take y.k)).map fun t=>[bt t]).flatten y.s y.Hs) (fun y=>Cs.length-y.k)
  (fun y=>fm [(3,y.s),(8,cps Cs),(9,lit (.int .i64 Cs.length)),(10,lit (.int .i64 y.k))]) (fun y=>y.Hs) ⟨0,lit (.slice none 0 0),[]⟩
  ⟨Nat.zero_le _,Own.nil _ _⟩ lfA (List.nil_sublist _) ?_
 clear c1 c2;rintro ⟨k,s,Hs⟩ ⟨hk,hown⟩ K hK;simp only at hk hown⊢;have hco:=hown.co;by_cases hkl:k<Cs.length
 ·obtain⟨⟨T,bb⟩,hget,hmm,hat,hne⟩:=elt Ch om hkl;have hgo:=fun s' Hs' h F' H'=>hK F' H' ⟨k+1,s',Hs'⟩ ⟨by simp only;omega,h⟩ (by simp only;omega)
  simp only [Ds hget]at hgo;have hle:=ti (Cs.take k);rw [List.length_take]at hle;generalize fC (Cs.take k)=D at *;clear hK hget hmm;cases bb with
  |false =>
   rw [if_neg (by decide)]at hgo;replace hgo:=hgo s Hs hown;clear hown;repeat(refine A1 ⟨?_⟩;intros)
   refine Wo (a7 (cs':=cpx (T,false)) rfl rfl om om hat hne) ?_;repeat(refine A1 ⟨?_⟩;intros)
   exact hgo _ _ lfA (Sc Sr)
  |true =>
   rw [if_pos rfl]at hgo;repeat(refine A1 ⟨?_⟩;intros)
   refine Wo (a7 (cs':=cpx (T,true)) rfl rfl om om hat hne) ?_;repeat(first|(refine Wo (eS (s:=bt T) (ds:=[bt T]) rfl inferInstance) ?_)|(refine Wdo (eS (s:=bt T) (ds:=[bt T]) rfl inferInstance) ?_)|(refine A1 ⟨?_⟩;intros))
   refine iG (ds:=[bt T]) hown (Tk.skip _ (Tk.same _)) om (fun s' H1 hown'=>?_);have hco':=hown'.co;replace hgo:=hgo s' H1 (Is hown');clear hown hown';repeat(refine A1 ⟨?_⟩;intros)
   exact hgo _ _ lfA (Sc Sr)
 ·have hke:k=Cs.length:=by omega
  subst hke;rw [List.take_length]at hown;refine WP.rowS 3 hown rfl (by rw [List.append_nil]) ?_;clear hK hown;exact Z1
theorem uk {t tr:Tr}{Cs:List (Tr×Bool)}{Hl:List Tr}(c1:Pu Tryz.prog 25 [tq t] (Ab.tup [bt tr,lit .nilIface])) (c2:Pu Tryz.prog 26 [bt tr] (cps Cs)) (c3:Pu Tryz.prog 29 [bt tr] (bts Hl)) :
  Pu Tryz.prog 10 [tq t] (Ab.tup [lit (.int .i64 Cs.length),lit (.int .i64 Hl.length),lit .nilIface]):=by
 refine Pi Tryz.func10 fun C=>?_
 repeat(first|(refine Wo (aB (sv:=ag _) rfl) ?_)|(refine Wdo (aB (sv:=ag _) rfl) ?_)|(refine A1 ⟨?_⟩;intros)|refine W4 c1 ⟨?_⟩|refine W4 c2 ⟨?_⟩|refine W4 c3 ⟨?_⟩)
 ((first|refine aS ?_|refine eV ?_);exact JF (RV.tmp rfl) (RV.tmp rfl) (RV.tmp rfl) Lr)
theorem Ei {t tr:Tr}{Cs:List (Tr×Bool)}(c1:Pu Tryz.prog 25 [tq t] (Ab.tup [bt tr,lit .nilIface])) (c2:Pu Tryz.prog 26 [bt tr] (cps Cs)) :
  Pu Tryz.prog 11 [tq t] (Ab.tup [lit (.bool (decide (Cs.length=1))),lit .nilIface]):=by
 by_cases h:Cs.length=1
 ·rw [decide_eq_true h];refine Pi Tryz.func11 fun C=>?_
  repeat(first|(refine Wo (aB (sv:=ag _) rfl) ?_)|(refine Wdo (aB (sv:=ag _) rfl) ?_)|(refine A1 ⟨?_⟩;intros)|refine W4 c1 ⟨?_⟩|refine W4 c2 ⟨?_⟩)
  exact G2
 ·rw [decide_eq_false h];refine Pi Tryz.func11 fun C=>?_
  repeat(first|(refine Wo (aB (sv:=ag _) rfl) ?_)|(refine Wdo (aB (sv:=ag _) rfl) ?_)|(refine A1 ⟨?_⟩;intros)|refine W4 c1 ⟨?_⟩|refine W4 c2 ⟨?_⟩)
  exact G2
abbrev CJ (n:Nat):SV:=ex fun t:{t:Tr //∃L:List Li,L.length≤n∧(∀l∈L,l.sm)∧Gd L t}=>rt t.1
theorem gH {n:Nat}{t:Tr}(L:List Li) (h1:L.length≤n) (h2:∀l∈L,l.sm) (h3:Gd L t):Le (rt t) (CJ n):=Le.ex (f:=fun t:{t:Tr //∃L:List Li,L.length≤n∧(∀l∈L,l.sm)∧Gd L t}=>rt t.1) ⟨t,L,h1,h2,h3⟩ Lr
theorem np:∀t:Tr,t.lin (jE t)
 | .leaf _=>trivial
 | .node l a b=>⟨Ms,Tr.lin.mono (fun x hx=>Mc (List.mem_append_left _ hx)) (np a),Tr.lin.mono (fun x hx=>Mc (List.mem_append_right _ hx)) (np b)⟩
theorem kO:∀t:Tr,(jE t).length=t.size
 | .leaf _=>rfl
 | .node l a b=>by
  rw [Tr.size_node,←kO a,←kO b];show(l::(jE a++jE b)).length=_
  rw [List.length_cons,List.length_append];omega
theorem j8 {p:Li→Prop}:∀{t:Tr},t.all p→∀l∈jE t,p l
 | .leaf _,_,l,h=>by cases h
 | .node m a b,k,l,h=>by
  rcases List.mem_cons.1 h with h|h
  ·rw [h];exact k.1
  ·rcases List.mem_append.1 h with h|h
   ·exact j8 k.2.1 l h
   ·exact j8 k.2.2 l h
theorem oX:∀t:Tr,aU t≤t.size
 | .leaf _=>Nat.le_refl _
 | .node l a b=>by
  have:=oX a;have:=oX b;rw [Tr.size_node];simp only [aU];omega
theorem Gd.mono {L M:List Li}(hs:∀l∈L,l∈M){t:Tr}(h:Gd L t):Gd M t:=⟨Tr.lin.mono hs h.1,h.2⟩
theorem ln {L:List Li}(h:∀l∈L,l.sm):∀l∈L,l.ok:=fun l hl=>(h l hl).1
theorem nA {L:List Li}(h:∀l∈L,l.sm){t:Tr}(k:Gd L t):t.all fun l=>l.sm:=Tr.lin.all h k.1
theorem GC {rs:List (List Pq)}{fill:Int}(hrl:rs.length≤2) (hrs:∀r∈rs,eL r):∃L:List Li,L.length≤12∧(∀l∈L,l.sm)∧Gd L (a8 (jX (inR rs fill) 20000 ((rs.map dS).flatten) []) []):=by
 have hLl:=ig rs hrs;have hL:=r9 hrs;have hlen:((rs.map dS).flatten).length≤12:=by have:=hLl;unfold fy at this;rw [List.length_map]at this;omega
 have hfw:∀f∈(rs.map dS).flatten,FgG (fy rs) f:=fun f hf=>by
  obtain⟨e,he,hfe⟩:=List.mem_flatten.1 hf;obtain⟨r,hr,rfl⟩:=List.mem_map.1 he;exact(rk (hrs r hr) f hfe).2.2 _ (List.mem_map.2 ⟨f,hf,rfl⟩)
 have hphi:ga (fy rs) (rs.map dS).flatten≤12*13:=Nat.le_trans (qQ _ _) (Nat.mul_le_mul hlen om);obtain⟨_,_,z3⟩:=jW (inR rs fill) 20000 ((rs.map dS).flatten) [] hfw om;exact⟨fy rs,om,hL,Gd.restr (ln hL) z3⟩
theorem i7 (zs:List Int) (hz:zs.length≤400):PuT 46 zs [] (CJ 12):=by
 have key:∀(rs:List (List Pq)) (fill:Int),rs≠[]→rs.length≤2→(∀r∈rs,eL r)→(fill=1∨fill=2)→Pu Tryz.prog 24 [s8 rs] (zu rs)∧Pu Tryz.prog 23 [zu rs,lit (.int .i64 fill)] (rgR rs fill (nE (fy rs)))∧Pu Tryz.prog 22 [rgR rs fill (nE (fy rs))] (rt (a8 (jX (inR rs fill) 20000 ((rs.map dS).flatten) []) [])):=fun rs fill h0 hl hr hf =>
  ⟨qN rs om hr,B9 fill h0 om hr,uH hf om hr⟩
 have fin:∀(rs:List (List Pq)) (fill:Int),rs.length≤2→(∀r∈rs,eL r)→Le (rt (a8 (jX (inR rs fill) 20000 ((rs.map dS).flatten) []) [])) (CJ 12):=fun rs fill hl hr=>by
  obtain⟨L,h1,h2,h3⟩:=GC (fill:=fill) hl hr;exact gH L h1 h2 h3
 refine PuM.intro Tryz.func46 rfl kr fun C b=>?_
 repeat(refine A1 ⟨?_⟩;intros)
 refine Wtx (xt zs hz) mmA fun r=>?_
 obtain⟨r,hr⟩:=r;simp only [];refine Wo (j5 (s:=rps r) (ds:=[rps r]) rfl inferInstance) ?_;repeat(refine A1 ⟨?_⟩;intros)
 refine Wtx (cL zs hz 3 om om) mmA fun k=>?_
 obtain⟨k,hk⟩:=k;simp only [];by_cases hk0:k=0
 ·subst hk0;repeat(refine A1 ⟨?_⟩;intros)
  refine Wtx (xt zs hz) mmA fun q=>?_
  obtain⟨q,hq⟩:=q;simp only [];refine Wo (aX (r:=[(0,[rps q])]) (cs:=[rps q]) (.cons (sv:=rps q) rfl inferInstance .nil)) ?_;refine Wo (az (k:=1) (k0:=1) (ds:=[rps q]) rfl rfl rfl rfl om) ?_
  have hrs:∀x∈[r,q],eL x:=fun x hx=>by
   rcases List.mem_cons.1 hx with h|h
   ·rw [h];exact hr
   ·rw [List.mem_singleton.1 h];exact hq
  have ca:=qN [r,q] (by simp) hrs;repeat(first|(refine A1 ⟨?_⟩;intros)|refine W4 ca ⟨?_⟩)
  refine Wtx (cL zs hz 2 om om) mmA fun k=>?_
  obtain⟨k,hk⟩:=k;simp only [];have hf:(1+(k:Int))=1∨(1+(k:Int))=2:=by omega
  obtain⟨_,c1,c2⟩:=key [r,q] (1+(k:Int)) (by simp) (by simp) hrs hf;have hfin:=fin [r,q] (1+(k:Int)) (by simp) hrs;repeat(first|(refine A1 ⟨?_⟩;intros)|refine W4 c1 ⟨?_⟩|refine W4 c2 ⟨?_⟩)
  exact dB () _ (aC (RV.tmp rfl) hfin) mmA (LeL.refl _)
 ·repeat(refine A1 ⟨?_⟩;intros)
  have hrs:∀x∈[r],eL x:=fun x hx=>by rw [List.mem_singleton.1 hx];exact hr
  have ca:=(qN [r] (by simp) hrs).arg (l':=[xsl [rps r] 1]) ⟨lN,trivial⟩;repeat(first|(refine A1 ⟨?_⟩;intros)|refine W4 ca ⟨?_⟩)
  refine Wtx (cL zs hz 2 om om) mmA fun k=>?_
  obtain⟨k,hk⟩:=k;simp only [];have hf:(1+(k:Int))=1∨(1+(k:Int))=2:=by omega
  obtain⟨_,c1,c2⟩:=key [r] (1+(k:Int)) (by simp) (by simp) hrs hf;have hfin:=fin [r] (1+(k:Int)) (by simp) hrs;repeat(first|(refine A1 ⟨?_⟩;intros)|refine W4 c1 ⟨?_⟩|refine W4 c2 ⟨?_⟩)
  exact dB () _ (aC (RV.tmp rfl) hfin) mmA (LeL.refl _)
theorem pow_one (d:Nat):12≤12*2^d:=by have:0<2^d:=Nat.pow_pos om;omega
theorem BV {l:Li}(hl:l.sm):Pu Tryz.prog 30 [rt (.node l (.leaf true) (.leaf false))] (rt (a8 (.node l (.leaf true) (.leaf false)) [])):=fL _ ⟨hl,trivial,trivial⟩ (by simp [aU])
theorem BW {l:Li}(hl:l.sm):Gd [l] (a8 (.node l (.leaf true) (.leaf false)) []):=Gd.restr (fun x hx=>by rw [List.mem_singleton.1 hx];exact hl.1) ⟨List.mem_singleton.2 rfl,trivial,trivial⟩
theorem AY {t:Tr}(h:t.all fun l=>l.ok∧l.le 1):Gd (jE t) (a8 t []):=Gd.restr (fun l hl=>(j8 h l hl).1) (np t)
theorem zC (zs:List Int) (hz:zs.length≤400):∀d:Nat,d≤3→PuT 20 zs [lit (.int .i64 (d:Int))] (CJ (12*2^d)):=by
 intro d;induction d with
 |zero =>
  intro _;refine PuM.intro Tryz.func20 rfl kr fun C b=>?_
  repeat(refine A1 ⟨?_⟩;intros)
  refine Wtx (cL zs hz 6 om om) mmA fun k=>?_
  obtain⟨k,hk⟩:=k;simp only [];rcases(by omega:k=1∨k=2∨k=3∨k=0∨(k≠0∧k≠1∧k≠2∧k≠3))with rfl|rfl|rfl|rfl|⟨k0,k1,k2,k3⟩
  ·repeat(refine A1 ⟨?_⟩;intros)
   refine Wtx (AZ zs hz) mmA fun l=>?_
   obtain⟨l,hok,hle⟩:=l;simp only [];have c:=BV (l:=l) ⟨hok,hle⟩;rw [show rt (.node l (.leaf true) (.leaf false))=pt (rc (.node l (.leaf true) (.leaf false)))from rfl,eN]at c;repeat(first|(refine Wo (aB (sv:=ag _) rfl) ?_)|(refine Wdo (aB (sv:=ag _) rfl) ?_)|(refine A1 ⟨?_⟩;intros)|refine W4 (cP true) ⟨?_⟩|refine W4 (cP false) ⟨?_⟩|refine W4 c ⟨?_⟩)
   exact dB () _ (aC (RV.tmp rfl) (gH [l] (by simp) (fun x hx=>by rw [List.mem_singleton.1 hx];exact⟨hok,hle⟩) (BW ⟨hok,hle⟩))) mmA (LeL.refl _)
  ·repeat(refine A1 ⟨?_⟩;intros)
   refine Wtx (rH zs hz 3 om) mmA fun t=>?_
   obtain⟨t,ht,hs⟩:=t;simp only [];have h8:t.size<8:=hs;have hd:=oX t;have c:=fL t ht om;have hln:=kO t;repeat(first|(refine A1 ⟨?_⟩;intros)|refine W4 c ⟨?_⟩)
   exact dB () _ (aC (RV.tmp rfl) (gH (jE t) (by simp only [Nat.pow_zero];omega) (fun x hx=>j8 ht x hx) (AY ht))) mmA (LeL.refl _)
  ·repeat(refine A1 ⟨?_⟩;intros)
   refine Wtx (i7 zs hz) mmA fun t=>?_
   obtain⟨t,L,h1,h2,h3⟩:=t;simp only [];have c:=mh t (nA h2 h3);repeat(first|(refine A1 ⟨?_⟩;intros)|refine W4 c ⟨?_⟩)
   exact dB () _ (aC (RV.tmp rfl) (gH L (by simpa using h1) h2 h3.not)) mmA (LeL.refl _)
  ·repeat(refine A1 ⟨?_⟩;intros)
   refine Wtx (i7 zs hz) mmA fun t=>?_
   obtain⟨t,L,h1,h2,h3⟩:=t;simp only [];repeat(refine A1 ⟨?_⟩;intros)
   exact dB () _ (aC (RV.tmp rfl) (gH L (by simpa using h1) h2 h3)) mmA (LeL.refl _)
  ·repeat(refine A1 ⟨?_⟩;intros)
   refine Wtx (i7 zs hz) mmA fun t=>?_
   obtain⟨t,L,h1,h2,h3⟩:=t;simp only [];repeat(refine A1 ⟨?_⟩;intros)
   exact dB () _ (aC (RV.tmp rfl) (gH L (by simpa using h1) h2 h3)) mmA (LeL.refl _)
 |succ d ih =>
  intro hd;have hr:=ih om;rw [show(d:Int)=((d+1:Nat):Int)-1 from by omega]at hr;have hp:=pow_one (d+1);have hp8:12*2^(d+1)=12*2^d+12*2^d:=by rw [Nat.pow_succ];omega
  have hp3:2^d≤2^3:=Nat.pow_le_pow_right om om;clear ih;refine PuM.intro Tryz.func20 rfl kr fun C b=>?_
  repeat(refine A1 ⟨?_⟩;intros)
  refine Wtx (cL zs hz 6 om om) mmA fun k=>?_
  obtain⟨k,hk⟩:=k;simp only [];rcases(by omega:k=0∨k=1∨k=2∨k=3∨(k≠0∧k≠1∧k≠2∧k≠3))with rfl|rfl|rfl|rfl|⟨k0,k1,k2,k3⟩
  ·repeat(refine A1 ⟨?_⟩;intros)
   refine Wtx hr mmA fun t=>?_
   obtain⟨t,L,h1,h2,h3⟩:=t;simp only [];repeat(refine A1 ⟨?_⟩;intros)
   refine Wtx (cL zs hz 4 om om) mmA fun o=>?_
   obtain⟨o,ho⟩:=o;simp only [];repeat(refine A1 ⟨?_⟩;intros)
   refine Wtx hr mmA fun u=>?_
   obtain⟨u,M,m1,m2,m3⟩:=u;simp only [];have q1:=h3.dep;have q2:=m3.dep;have hLM:∀l∈L++M,l.sm:=fun l hl=>(List.mem_append.1 hl).elim (h2 l) (m2 l)
   have g1:=Gd.mono (M:=L++M) (fun l hl=>List.mem_append_left _ hl) h3;have g2:=Gd.mono (M:=L++M) (fun l hl=>List.mem_append_right _ hl) m3;have c:=gE (1+(o:Int)) om u (nA m2 m3) t [] (nA h2 h3) (fun m h=>by cases h) (by simp only [List.length_nil];omega);have c':=c.arg (l':=[lit (.int .i64 (1+(o:Int))),rt t,rt u,lit (.slice none 0 0)]) ⟨Le.refl _,Le.refl _,Le.refl _,dJ,trivial⟩;have hg:Gd (L++M) (cD (1+(o:Int)) t u []):=Gd.merge (ln hLM) g1.1 g2.1;have hlen:(L++M).length≤12*2^(d+1):=by rw [List.length_append];omega
   generalize cD (1+(o:Int)) t u []=r at *;clear c h3 m3 g1 g2 h2 m2;repeat(first|(refine A1 ⟨?_⟩;intros)|refine W4 c' ⟨?_⟩)
   exact dB () _ (aC (RV.tmp rfl) (gH (L++M) hlen hLM hg)) mmA (LeL.refl _)
  ·repeat(refine A1 ⟨?_⟩;intros)
   refine Wtx (AZ zs hz) mmA fun l=>?_
   obtain⟨l,hok,hle⟩:=l;simp only [];have c:=BV (l:=l) ⟨hok,hle⟩;rw [show rt (.node l (.leaf true) (.leaf false))=pt (rc (.node l (.leaf true) (.leaf false)))from rfl,eN]at c;repeat(first|(refine Wo (aB (sv:=ag _) rfl) ?_)|(refine Wdo (aB (sv:=ag _) rfl) ?_)|(refine A1 ⟨?_⟩;intros)|refine W4 (cP true) ⟨?_⟩|refine W4 (cP false) ⟨?_⟩|refine W4 c ⟨?_⟩)
   exact dB () _ (aC (RV.tmp rfl) (gH [l] (by simp only [List.length_singleton];omega) (fun x hx=>by rw [List.mem_singleton.1 hx];exact⟨hok,hle⟩) (BW ⟨hok,hle⟩))) mmA (LeL.refl _)
  ·repeat(refine A1 ⟨?_⟩;intros)
   refine Wtx (rH zs hz 3 om) mmA fun t=>?_
   obtain⟨t,ht,hs⟩:=t;simp only [];have h8:t.size<8:=hs;have hd:=oX t;have c:=fL t ht om;have hln:=kO t;repeat(first|(refine A1 ⟨?_⟩;intros)|refine W4 c ⟨?_⟩)
   exact dB () _ (aC (RV.tmp rfl) (gH (jE t) om (fun x hx=>j8 ht x hx) (AY ht))) mmA (LeL.refl _)
  ·repeat(refine A1 ⟨?_⟩;intros)
   refine Wtx (i7 zs hz) mmA fun t=>?_
   obtain⟨t,L,h1,h2,h3⟩:=t;simp only [];have c:=mh t (nA h2 h3);repeat(first|(refine A1 ⟨?_⟩;intros)|refine W4 c ⟨?_⟩)
   exact dB () _ (aC (RV.tmp rfl) (gH L om h2 h3.not)) mmA (LeL.refl _)
  ·repeat(refine A1 ⟨?_⟩;intros)
   refine Wtx (i7 zs hz) mmA fun t=>?_
   obtain⟨t,L,h1,h2,h3⟩:=t;simp only [];repeat(refine A1 ⟨?_⟩;intros)
   exact dB () _ (aC (RV.tmp rfl) (gH L om h2 h3)) mmA (LeL.refl _)
theorem pI {L:Nat}(h1:1≤L):∀(t:Tr) (c:PC),(t.all fun l=>l.le L)→(∀s∈c,mO L s)→∀x∈a9 t c,(∀s∈x.1,mO L s)∧x.1.length≤c.length+aU t
 | .leaf i,c,_,hc,x,hx=>by
  unfold a9 at hx;rw [List.mem_singleton.1 hx];exact⟨hc,Nat.le_add_right _ _⟩
 | .node l a b,c,h,hc,x,hx=>by
  have hd:aU (.node l a b)=1+max (aU a) (aU b):=rfl;have n1:=fZ (ak l) c l;have n2:=fZ (ak l.neg) c l.neg;have hln:l.neg.le L:=⟨by show il (-l.a)≤L;rw [cw];exact h.1.a,by show il (-l.b)≤L;rw [cw];exact h.1.b,by show il (-l.c)≤L;rw [cw];exact h.1.c⟩
  unfold a9 at hx;rcases List.mem_append.1 hx with hx|hx
  ·split at hx
   ·obtain⟨g1,g2⟩:=pI h1 a _ h.2.1 (io hc h.1 h1) x hx;exact⟨g1,by rw [hd];omega⟩
   ·cases hx
  ·split at hx
   ·obtain⟨g1,g2⟩:=pI h1 b _ h.2.2 (io hc hln h1) x hx;exact⟨g1,by rw [hd];omega⟩
   ·cases hx
structure Gx (L:List Li) (t:Tr):Prop where
 len:L.length≤25
 sm:∀l∈L,l.sm
 g:Gd L t
theorem Gx.ok {L:List Li}{t:Tr}(h:Gx L t):∀l∈L,l.ok:=ln h.sm
theorem Gx.lok {L:List Li}{t:Tr}(h:Gx L t):t.lok:=cM h.ok h.g.1
theorem Gx.dep {L:List Li}{t:Tr}(h:Gx L t):aU t≤25:=Nat.le_trans h.g.dep h.len
theorem Gx.size {L:List Li}{t:Tr}(h:Gx L t):cK t≤650:=Nat.le_trans (h.g.size h.ok) (Nat.le_trans (Nat.mul_le_mul h.len (Nat.add_le_add_left h.len 1)) (by decide))
theorem Gx.lv {L:List Li}{t:Tr}(h:Gx L t):ap t≤651:=by have:=h.size;rw [jo];omega
theorem Gx.all {L:List Li}{t:Tr}(h:Gx L t):t.all fun l=>l.sm:=nA h.sm h.g
theorem e7 {p q:Li→Prop}(hpq:∀l,p l→q l):∀{t:Tr},t.all p→t.all q
 | .leaf _,_=>trivial
 | .node _ _ _,h=>⟨hpq _ h.1,e7 hpq h.2.1,e7 hpq h.2.2⟩
theorem Gx.restr {L:List Li}{t:Tr}(h:Gx L t):Gx L (a8 t []):=⟨h.len,h.sm,Gd.restr h.ok h.g.1⟩
theorem Gx.not {L:List Li}{t:Tr}(h:Gx L t):Gx L (aN t):=⟨h.len,h.sm,h.g.not⟩
abbrev cV (u:Tr):List (Tr×Bool):=fR (a9 u []) u
theorem Gx.comps {L:List Li}{u:Tr}(h:Gx L u):Pu Tryz.prog 26 [bt u] (cps (cV u)):=by
 have hlen:=wj cW.nil h.lok h.g.2;have hle:=e7 (p:=fun l=>l.sm) (q:=fun l=>l.le 1) (fun l hl=>hl.2) h.all;have hd:=h.dep;have hv:=h.lv
 exact Ha (L:=1) rfl rfl ⟨om,om,fun x hx=>by
  obtain⟨g1,g2⟩:=pI om u [] hle (fun s hs=>by cases hs) x hx;exact⟨g1,by rw [List.length_nil]at g2;omega⟩,om⟩ hle h.lok om hlen.symm
structure CN (t:Tr) (n h:Nat):Prop where
 w:Pu Tryz.prog 9 [rt t] (tq t)
 cc:Pu Tryz.prog 10 [tq t] (Ab.tup [lit (.int .i64 n),lit (.int .i64 h),lit .nilIface])
theorem DM (l:Pts) (t:Tr):(fR l t).length≤l.length:=by
 unfold fR;rw [List.length_map];exact Nat.le_trans (List.length_filter_le _ _) (by rw [List.length_range];exact Nat.le_refl _)
theorem Gx.clen {L:List Li}{u:Tr}(h:Gx L u):(cV u).length≤651:=by
 have h1:=DM (a9 u []) u;have h2:=wj cW.nil h.lok h.g.2;have h3:=h.lv;unfold cV;omega
theorem He {L:List Li}{t:Tr}(hL:L.length≤25) (hs:∀l∈L,l.sm) (ht:t.lin L) (hd:aU t≤100) (hz:cK t≤10000):CN t (cV (a8 t [])).length (fC (cV (aN (a8 t [])))).length:=by
 have hok:∀l∈L,l.ok:=ln hs;have hr:Gx L (a8 t []):=⟨hL,hs,Gd.restr hok ht⟩
 have hn:=hr.not;have hall:t.all fun l=>l.sm:=Tr.lin.all hs ht
 have ha6:=e7 (q:=fun l=>l.le 1000000) (fun l hl=>Li.sm.ile hl) hall;have ha1:=e7 (q:=fun l=>l.le 1) (fun l (hl:l.sm)=>hl.2) hall;have cof:=AR t (e7 (q:=fun l=>l.ok∧l.le 100000) (fun l (hl:l.sm)=>⟨hl.1,hl.2.gr om⟩) hall) (by rw [iw];omega);have c1:=rI (L:=1) om om ha1 (cM hok ht) cof om;have c4:=pw hn.comps (by have:=hn.clen;omega);exact⟨jO t ha6 (by rw [iw];omega),uk c1 hr.comps c4⟩
section
variable {P:Program}{C:Ctx}{n:Nat}{F:Fr}{H:LH}{ty:TypeId}
theorem mq {T e:TypeId}{sz by_:Nat}{z:List SV}{g:Bool} [hS:TSl P T e] [hT:TY P e sz by_ z g]{len:Nat}{l:List (Nat×Operand)}{r:List (Nat×List SV)}{cs:List SV}(hp:dC F l r) (hf:gn ((List.range len).map fun i=>(i*sz,sz)) (List.replicate len z).flatten r=some cs:=by exact rfl)
  (hsz:Nat.ble (len*sz) 16777216=true:=by exact rfl) (hpos:Nat.blt 0 sz=true:=by exact rfl) (hl:Nat.ble len 1000=true:=by exact rfl):OpV P (.buildSlice T len l.toArray) ty F H (xsl cs len) :=
 OpV.pubN (gK hp hf hsz hpos) fun m b arr hb h=>vM hb h (by have:=Nat.le_of_ble_eq_true hl;simp only [maxLen];omega)
end
abbrev sqP (a b:Int):List Pq:=[iq a a,iq b a,iq b b,iq a b]
theorem rM {a b:Int}(ha:a.natAbs≤1000) (hb:b.natAbs≤1000) (h:a≠b):eL (sqP a b):=rg4 ha ha hb hb h h
theorem gD (a b:Int) (ha:a.natAbs≤1000) (hb:b.natAbs≤1000):Pu Tryz.prog 21 [lit (.int .i64 a),lit (.int .i64 b)] (rps (sqP a b)):=by
 have c1:=jL a a om om om om;have c2:=jL b a om om om om;have c3:=jL b b om om om om;have c4:=jL a b om om om om;clear ha hb;refine Pi Tryz.func21 fun C=>?_
 repeat(first|(refine Wo (lB bD (sqP a b) (r:=[(0,rpx (iq a a)),(1,rpx (iq b a)),(2,rpx (iq b b)),(3,rpx (iq a b))]) (.pt rfl (.pt rfl (.pt rfl (.pt rfl .nil))))) ?_)|(refine Wdo (lB bD (sqP a b) (r:=[(0,rpx (iq a a)),(1,rpx (iq b a)),(2,rpx (iq b b)),(3,rpx (iq a b))]) (.pt rfl (.pt rfl (.pt rfl (.pt rfl .nil))))) ?_)|(refine A1 ⟨?_⟩;intros)|refine W4 c1 ⟨?_⟩|refine W4 c2 ⟨?_⟩|refine W4 c3 ⟨?_⟩|refine W4 c4 ⟨?_⟩)
 exact E1
theorem pR {rs:List (List Pq)}{fill:Int}(hrl:rs.length≤3) (hrs:∀r∈rs,eL r):∃L:List Li,L.length≤18∧(∀l∈L,l.sm)∧Gd L (a8 (jX (inR rs fill) 20000 ((rs.map dS).flatten) []) []):=by
 have hLl:=ig rs hrs;have hL:=r9 hrs;have hlen:((rs.map dS).flatten).length≤18:=by have:=hLl;unfold fy at this;rw [List.length_map]at this;omega
 have hfw:∀f∈(rs.map dS).flatten,FgG (fy rs) f:=fun f hf=>by
  obtain⟨e,he,hfe⟩:=List.mem_flatten.1 hf;obtain⟨r,hr,rfl⟩:=List.mem_map.1 he;exact(rk (hrs r hr) f hfe).2.2 _ (List.mem_map.2 ⟨f,hf,rfl⟩)
 have hphi:ga (fy rs) (rs.map dS).flatten≤18*19:=Nat.le_trans (qQ _ _) (Nat.mul_le_mul hlen om);obtain⟨_,_,z3⟩:=jW (inR rs fill) 20000 ((rs.map dS).flatten) [] hfw om;exact⟨fy rs,om,hL,Gd.restr (ln hL) z3⟩
abbrev xc (rs:List (List Pq)):Tr:=a8 (jX (inR rs 1) 20000 ((rs.map dS).flatten) []) []
theorem x9 {rs:List (List Pq)}(h0:rs≠[]) (hl:rs.length≤3) (hr:∀r∈rs,eL r):Pu Tryz.prog 24 [s8 rs] (zu rs)∧Pu Tryz.prog 23 [zu rs,lit (.int .i64 1)] (rgR rs 1 (nE (fy rs)))∧Pu Tryz.prog 22 [rgR rs 1 (nE (fy rs))] (rt (xc rs)) :=
 ⟨qN rs om hr,B9 1 h0 om hr,uH (.inl rfl) om hr⟩
theorem tc (zs:List Int) (hz:zs.length≤400):PuT 6 zs [] (CJ 24):=by
 have fin:∀(rs:List (List Pq)),rs.length≤3→(∀r∈rs,eL r)→Le (rt (xc rs)) (CJ 24):=fun rs hl hr=>by
  obtain⟨L,h1,h2,h3⟩:=pR (fill:=1) hl hr;exact gH L om h2 h3
 refine PuM.intro Tryz.func6 rfl kr fun C b=>?_
 repeat(refine A1 ⟨?_⟩;intros)
 refine Wtx (cL zs hz 2 om om) mmA fun k=>?_
 obtain⟨k,hk⟩:=k;simp only [];by_cases hk0:k=0
 ·subst hk0;repeat(refine A1 ⟨?_⟩;intros)
  refine Wtx (zC zs hz 1 om) mmA fun t=>?_
  obtain⟨t,L,h1,h2,h3⟩:=t;simp only [];repeat(refine A1 ⟨?_⟩;intros)
  exact dB () _ (aC (RV.tmp rfl) (gH L (by simpa using h1) h2 h3)) mmA (LeL.refl _)
 ·repeat(refine A1 ⟨?_⟩;intros)
  refine Wtx (cL zs hz 3 om om) mmA fun a=>?_
  obtain⟨a,ha⟩:=a;simp only [];repeat(refine A1 ⟨?_⟩;intros)
  refine Wtx (cL zs hz 3 om om) mmA fun b=>?_
  obtain⟨b,hb⟩:=b;simp only [];have s1:=gD ((a:Int)-3) ((a:Int)-3+3+b) om om;have s2:=gD ((a:Int)-3+1) ((a:Int)-3+2) om om;have o1:eL (sqP ((a:Int)-3) ((a:Int)-3+3+b)):=rM om om om;have o2:eL (sqP ((a:Int)-3+1) ((a:Int)-3+2)):=rM om om om;have s3:=gD 2 3 om om;have o3:eL (sqP 2 3):=rM om om om;generalize sqP ((a:Int)-3) ((a:Int)-3+3+b)=p1 at *;generalize sqP ((a:Int)-3+1) ((a:Int)-3+2)=p2 at *;generalize sqP 2 3=p3 at *;repeat(first|(refine Wo (mq (r:=[(0,[rps p1]),(1,[rps p2])]) (cs:=[rps p1,rps p2]) (.cons (sv:=rps p1) rfl inferInstance (.cons (sv:=rps p2) rfl inferInstance .nil))) ?_)|(refine Wdo (mq (r:=[(0,[rps p1]),(1,[rps p2])]) (cs:=[rps p1,rps p2]) (.cons (sv:=rps p1) rfl inferInstance (.cons (sv:=rps p2) rfl inferInstance .nil))) ?_)|(refine A1 ⟨?_⟩;intros)|refine W4 s1 ⟨?_⟩|refine W4 s2 ⟨?_⟩)
  refine Wtx (cL zs hz 2 om om) mmA fun c=>?_
  obtain⟨c,hc⟩:=c;simp only [];by_cases hc0:c=0
  ·subst hc0
   have hrs:∀x∈[p1,p2,p3],eL x:=fun x hx=>by
    simp only [List.mem_cons,List.not_mem_nil,or_false]at hx;rcases hx with rfl|rfl|rfl <;> assumption
   obtain⟨b1,b2,b3⟩:=x9 (by simp) (by simp) hrs;have hfin:=fin [p1,p2,p3] (by simp) hrs;repeat(first|(refine Wo (aX (r:=[(0,[rps p3])]) (cs:=[rps p3]) (.cons (sv:=rps p3) rfl inferInstance .nil)) ?_)|(refine Wdo (aX (r:=[(0,[rps p3])]) (cs:=[rps p3]) (.cons (sv:=rps p3) rfl inferInstance .nil)) ?_)|(refine Wo (az (k:=2) (k0:=1) (ds:=[rps p3]) rfl rfl rfl rfl om) ?_)|(refine Wdo (az (k:=2) (k0:=1) (ds:=[rps p3]) rfl rfl rfl rfl om) ?_)|(refine A1 ⟨?_⟩;intros)|refine W4 s3 ⟨?_⟩|refine W4 b1 ⟨?_⟩|refine W4 b2 ⟨?_⟩|refine W4 b3 ⟨?_⟩)
   exact dB () _ (aC (RV.tmp rfl) hfin) mmA (LeL.refl _)
  ·have hrs:∀x∈[p1,p2],eL x:=fun x hx=>by
    simp only [List.mem_cons,List.not_mem_nil,or_false]at hx;rcases hx with rfl|rfl <;> assumption
   obtain⟨b1,b2,b3⟩:=x9 (by simp) (by simp) hrs;have b1':=b1.arg (l':=[xsl [rps p1,rps p2] 2]) ⟨lN,trivial⟩;have hfin:=fin [p1,p2] (by simp) hrs;repeat(first|(refine A1 ⟨?_⟩;intros)|refine W4 b1' ⟨?_⟩|refine W4 b2 ⟨?_⟩|refine W4 b3 ⟨?_⟩)
   exact dB () _ (aC (RV.tmp rfl) hfin) mmA (LeL.refl _)
structure TP (t:Tr):Prop where
 n:(bA t).length≤1000000
 w:Pu Tryz.prog 9 [rt t] (tq t)
 cp:Pu Tryz.prog 8 [tq t] (Ab.tup [tps (bA t),lit .nilIface])
 cc:Pu Tryz.prog 10 [tq t] (Ab.tup [lit (.int .i64 (bA t).length),lit (.int .i64 ((bA (aN t)).filter rbT).length),lit .nilIface])
 cn:Pu Tryz.prog 11 [tq t] (Ab.tup [lit (.bool (decide ((bA t).length=1))),lit .nilIface])
 rp:Pu Tryz.prog 12 [rt t] (rts (bA t))
 rh:Pu Tryz.prog 13 [rt t] (rts ((bA (aN t)).filter rbT))
 sw:∀T∈bA t,Pu Tryz.prog 9 [rt T] (tq T)∧Pu Tryz.prog 14 [tq T,tq T] (lit (.bool true))
theorem F2.flags {l:Pts}{Y:RPs}(h:F2 CR l Y):l.map Prod.snd=Y.map Prod.snd:=by
 induction h with
 |nil=>rfl
 |cons h _ ih=>rw [List.map_cons,List.map_cons,ih,h.f]
theorem nu {t:Tr}(hl:t.lok) (hp:Prp t (Inn [])):jF t=(cB (aF t [])).length:=by
 have h:=oA hl hp;have hv:=(par t [] [] cW.nil (fun l h=>by cases h) (fun q=>Iff.rfl) hl hp).2;rw [qZ,←hv,h.flags,List.countP_map];unfold cB;rw [List.length_map,←List.countP_eq_length_filter];rfl
theorem Gx.fst {L:List Li}{u:Tr}(h:Gx L u):(cV u).map Prod.fst=cO u (pQ (cB (aF u []))) (cB (aF u [])).length (cB (aF u [])).length :=
 Aa (oA h.lok h.g.2) (dis u [] cW.nil h.lok h.g.2).2 (par u [] [] cW.nil (fun l h=>by cases h) (fun q=>Iff.rfl) h.lok h.g.2).2
theorem Gx.hol {L:List Li}{u:Tr}(h:Gx L u):fC (cV u)=((cV u).map Prod.fst).filter rbT:=by
 unfold fC;rw [List.filter_map];congr 1
 refine List.filter_congr fun c hc=>?_
 obtain⟨i,_,rfl⟩:=List.mem_map.1 hc;exact Fm h.ok h.g i
theorem Lz {L:List Li}{t:Tr}(hL:L.length≤24) (hs:∀l∈L,l.sm) (hg:Gd L t):TP t:=by
 have h:Gx L t:=⟨om,hs,hg⟩
 have hr:=h.restr;have hn:=hr.not;have f1:(cV (a8 t [])).map Prod.fst=bA t:=hr.fst
 have f2:(cV (aN (a8 t []))).map Prod.fst=bA (aN t):=by
  rw [hn.fst];unfold bA;rw [fW]
 have hol:fC (cV (aN (a8 t [])))=(bA (aN t)).filter rbT:=by rw [hn.hol,f2]
 have hok:∀T∈bA t,(T.all fun l=>l.le 1000000)∧T.size≤650:=fun T hT=>by
  obtain⟨g1,_,g3⟩:=uB hr.all hT;have hv:=hr.lv;have e:=jo T;exact⟨e7 (fun l hl=>hl.ile) g1,by rw [iw];omega⟩
 have hlen:(bA t).length≤651:=by
  have h1:=iL (a8 t []) (pQ (cB (aF (a8 t []) []))) (cB (aF (a8 t []) [])).length (cB (aF (a8 t []) [])).length;have h2:=kg (aF (a8 t []) []);have h3:=dU (a8 t []) [];have hv:=hr.lv;unfold bA;omega
 have hcl:(cV (a8 t [])).length=(bA t).length:=by rw [←f1,List.length_map]
 have hc2l:(cV (aN (a8 t []))).length≤1000000:=by
  have h1:=iL (aN (a8 t [])) (pQ (cB (aF (aN (a8 t [])) []))) (cB (aF (aN (a8 t [])) [])).length (cB (aF (aN (a8 t [])) [])).length;have h2:=kg (aF (aN (a8 t [])) []);have h3:=dU (aN (a8 t [])) [];have hv:=hn.lv;have e:=congrArg List.length hn.fst;rw [List.length_map]at e;omega
 have hd:=h.dep;have hdr:=hr.dep;have hv:=h.lv;have hsz:=h.size;have hlv:=hr.lv;have ha6:=e7 (q:=fun l=>l.le 1000000) (fun l hl=>Li.sm.ile hl) h.all;have ha1:=e7 (q:=fun l=>l.le 1) (fun l (hl:l.sm)=>hl.2) h.all;have cof:=AR t (e7 (q:=fun l=>l.ok∧l.le 100000) (fun l (hl:l.sm)=>⟨hl.1,hl.2.gr om⟩) h.all) (by rw [iw];omega);have c1:=rI (L:=1) om om ha1 h.lok cof om;have c2:=hr.comps
 have c3:∀c∈cV (a8 t []),Pu Tryz.prog 27 [bt c.1] (tq c.1):=fun c hc=>by
  obtain⟨g1,g2⟩:=hok c.1 (by rw [←f1];exact List.mem_map.2 ⟨c,hc,rfl⟩);exact B0 c.1 g1 om
 have c4:=pw hn.comps hc2l;have hin:=nu hr.lok hr.g.2
 have hin2:jF (a8 (aN t) [])≤(cB (aF (a8 (aN t) []) [])).length:=by
  rw [fW,nu hn.lok hn.g.2];exact Nat.le_refl _
 refine⟨om,jO t ha6 (by rw [iw];omega),?_,?_,?_,?_,?_,fun T hT=>?_⟩
 ·have:=Cu c1 c2 c3 om;rw [f1]at this;exact this
 ·have:=uk c1 c2 c4;rw [hcl,hol]at this;exact this
 ·have:=Ei c1 c2;rw [hcl]at this;exact this
 ·exact uA h.all om rfl om om om
 ·exact uC h.all om om hin2
 ·obtain⟨g1,g2⟩:=hok T hT;exact⟨jO T g1 om,xG T g1 om⟩
abbrev knT:Tr:=xc [sqP 0 3,sqP 1 2]
theorem Ga:Nat.beq (bA knT).length 1=true:=by kernel_rfl
theorem Gb:Nat.beq ((bA (aN knT)).filter rbT).length 1=true:=by kernel_rfl
theorem Ar:Pu Tryz.prog 15 [] (lit (.bool true)):=by
 have o1:eL (sqP 0 3):=rM om om om;have o2:eL (sqP 1 2):=rM om om om
 have hrs:∀x∈[sqP 0 3,sqP 1 2],eL x:=fun x hx=>by
  simp only [List.mem_cons,List.not_mem_nil,or_false]at hx;rcases hx with rfl|rfl <;> assumption
 obtain⟨b1,b2,b3⟩:=x9 (by simp) (by simp) hrs;obtain⟨L,h1,h2,h3⟩:=pR (fill:=1) (rs:=[sqP 0 3,sqP 1 2]) (by simp) hrs;have tp:TP (xc [sqP 0 3,sqP 1 2]):=Lz om h2 h3;have hw:=tp.w;have hc:=tp.cc;have e1:(bA (xc [sqP 0 3,sqP 1 2])).length=1:=Nat.eq_of_beq_eq_true Ga;have e2:((bA (aN (xc [sqP 0 3,sqP 1 2]))).filter rbT).length=1:=Nat.eq_of_beq_eq_true Gb;rw [e1,e2]at hc;have s1:=gD 0 3 om om;have s2:=gD 1 2 om om;have b1':=b1.arg (l':=[xsl [rps (sqP 0 3),rps (sqP 1 2)] 2]) ⟨lN,trivial⟩;clear tp h1 h2 h3 e1 e2 o1 o2 hrs;generalize xc [sqP 0 3,sqP 1 2]=t at *;generalize sqP 0 3=p1 at *;generalize sqP 1 2=p2 at *;refine Pi Tryz.func15 fun C=>?_
 repeat(first|(refine Wo (mq (r:=[(0,[rps p1]),(1,[rps p2])]) (cs:=[rps p1,rps p2]) (.cons (sv:=rps p1) rfl inferInstance (.cons (sv:=rps p2) rfl inferInstance .nil))) ?_)|(refine Wdo (mq (r:=[(0,[rps p1]),(1,[rps p2])]) (cs:=[rps p1,rps p2]) (.cons (sv:=rps p1) rfl inferInstance (.cons (sv:=rps p2) rfl inferInstance .nil))) ?_)|(refine A1 ⟨?_⟩;intros)|refine W4 s1 ⟨?_⟩|refine W4 s2 ⟨?_⟩|refine W4 b1' ⟨?_⟩|refine W4 b2 ⟨?_⟩|refine W4 b3 ⟨?_⟩|refine W4 hw ⟨?_⟩|refine W4 hc ⟨?_⟩)
 exact E1
end Go.Ab
