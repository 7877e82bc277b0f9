/- Texts laid one behind the other: TqG, TpA, ScR, L28G, Fil, L28J, L28A, L28M. -/
import Derived.Test.YtncbhpffccggcaaGreatDoorB35
set_option linter.all false
set_option maxHeartbeats 16000000
namespace Go.Ab
open Go.Proofs
variable [Base]
theorem F2.left {α β:Type}{R:α→β→Prop}{l:List α}{m:List β}(h:F2 R l m):∀{x:α},x∈l→∃z∈m,R x z:=by
 induction h with
 |nil=>intro x hx;cases hx
 |cons h _ ih =>
  intro x hx;rcases List.mem_cons.1 hx with e|hx
  ·exact⟨_,Ms,e▸h⟩
  ·obtain⟨z,hz,hr⟩:=ih hx;exact⟨z,Mc hz,hr⟩
theorem F2.right {α β:Type}{R:α→β→Prop}{l:List α}{m:List β}(h:F2 R l m):∀{z:β},z∈m→∃x∈l,R x z:=by
 induction h with
 |nil=>intro x hx;cases hx
 |cons h _ ih =>
  intro x hx;rcases List.mem_cons.1 hx with e|hx
  ·exact⟨_,Ms,e▸h⟩
  ·obtain⟨z,hz,hr⟩:=ih hx;exact⟨z,Mc hz,hr⟩
theorem y7 (p f:Nat→Bool):∀(ks:List Nat) (b:Bool),ks.foldl (fun b k=>if p k=true then b&&f k else b) b=(b&&ks.all fun k => !p k||f k)
 | [],b=>by simp
 |k::ks,b=>by
  rw [List.foldl_cons,y7 p f ks,List.all_cons];cases p k <;> cases b <;> cases f k <;> simp
theorem zH (l:Pts) (i:Nat):df l i=false↔∃(k:Nat) (x:PC×Bool),l[k]? = some x∧(x.2&&decide (cP l k=i))=true∧oY x.1=false:=by
 have e:df l i=(List.range l.length).all fun k => !(inB l k&&decide (cP l k=i))||oY (clB l k):=by
  have:=y7 (fun k=>inB l k&&decide (cP l k=i)) (fun k=>oY (clB l k)) (List.range l.length) true;rw [Bool.true_and]at this;exact this
 rw [e,List.all_eq_false]
 have hg:∀k,k<l.length→∃x,l[k]? = some x∧inB l k=x.2∧clB l k=x.1:=fun k hk=>⟨l[k],List.getElem?_eq_getElem hk,by
  show(l.getD k ([],false)).2=_
  rw [List.getD,List.getElem?_eq_getElem hk];rfl,by
  show(l.getD k ([],false)).1=_
  rw [List.getD,List.getElem?_eq_getElem hk];rfl⟩
 constructor
 ·rintro ⟨k,hk,hb⟩;obtain⟨x,h1,h2,h3⟩:=hg k (List.mem_range.1 hk);rw [h2,h3]at hb;refine⟨k,x,h1,?_,?_⟩
  ·revert hb;cases(x.2&&decide (cP l k=i)) <;> simp
  ·revert hb;cases oY x.1 <;> simp
 ·rintro ⟨k,x,h1,h2,h3⟩;have hk:=(List.getElem?_eq_some_iff.1 h1).1;obtain⟨y,g1,g2,g3⟩:=hg k hk;rw [h1]at g1;obtain rfl:=Option.some.inj g1;refine⟨k,List.mem_range.2 hk,?_⟩;rw [g2,g3,h2,h3];decide
theorem qI:∀(t:Tr) (k:Nat),gD (fun _=>true) t k=t
 | .leaf i,_=>by unfold gD;rw [Bool.and_true]
 | .node l a b,k=>by unfold gD;rw [qI a,qI b]
theorem lr {L:List Li}{keep:Nat→Bool}:∀{t:Tr}{k:Nat},t.lin L→(gD keep t k).lin L
 | .leaf _,_,_=>trivial
 | .node _ _ _,_,h=>⟨h.1,lr h.2.1,lr h.2.2⟩
theorem Ij {t:Tr}(hl:t.lok) (hp:Prp t (Inn [])){q:Pq}{k:Nat}{x:PC×Bool}(hk:(a8 t [])[k]? = some x) (hq:Inn (a9 x.1) q):atT t q=x.2:=by
 have:=vR (fun _=>true) t [] 0 dC.nil hl hp k x hk hq;rwa [qI,Bool.and_true]at this
theorem GF {t:Tr}(hl:t.lok) (hp:Prp t (Inn [])):F2 CR (a8 t []) (ky t []):=(par t [] [] dC.nil (fun l h=>by cases h) (fun q=>Iff.rfl) hl hp).1
abbrev tpx (t:Tr):List SV:=[lit (.int .i64 (t.root 0)),sl (t.rows 0) t.size]
theorem Ge (t:Tr):(tpx t).length=2:=rfl
abbrev tps (l:List Tr):SV:=sl (l.map tpx).flatten l.length
abbrev CS:TypeId:=25
abbrev pbT:TypeId:=62
abbrev bts (l:List Tr):SV:=sl (l.map fun t=>[bt t]).flatten l.length
theorem mO {t:Tr}{L:Nat}(h1:1≤L) (hU:L≤500) (hall:t.all fun l=>l.le L) (hlok:t.lok) (c1:Pu Tryz.prog 33 [tq t] (Ab.tup [bt t,lit (.bool true)])) (hd:br t≤1024):Pu Tryz.prog 24 [tq t] (Ab.tup [bt (aa t []),lit .nilIface]):=by
 have c2:=jH t om;have c3:=mC h1 hU t hall om;rw [lZ aj hlok]at c3;generalize aa t []=r at *;clear hall hlok;refine Pi Tryz.func24 fun C=>?_
 repeat(first|(refine Wo (aG (sv:=ag _) rfl) ?_)|(refine Wdo (aG (sv:=ag _) rfl) ?_)|(refine A1 ⟨?_⟩;intros)|refine W4 c1 ⟨?_⟩|refine W4 c2 ⟨?_⟩|refine W4 c3 ⟨?_⟩)
 exact G2
theorem GI {l:List Tr}{t:Tr}{s:SV}{H:LH}(h:Own CS 2 (l.length+1) ((l.map tpx).flatten++tpx t) s H):Own CS 2 (l++[t]).length ((l++[t]).map tpx).flatten s H:=by
 rw [List.map_append,List.flatten_append,List.length_append];simpa using h
theorem GL {l:List Tr}{t:Tr}{s:SV}{H:LH}(h:Own pbT 1 (l.length+1) ((l.map fun t=>[bt t]).flatten++[bt t]) s H):Own pbT 1 (l++[t]).length ((l++[t]).map fun t=>[bt t]).flatten s H:=by
 rw [List.map_append,List.flatten_append,List.length_append];simpa using h
theorem F9 {Cs:List (Tr×Bool)}{k:Nat}{c:Tr×Bool}(h:Cs[k]? = some c):(Cs.take (k+1)).map Prod.fst=(Cs.take k).map Prod.fst++[c.1]:=by
 rw [dQ h,List.map_append];rfl
theorem Bm {t tr:Tr}{Cs:List (Tr×Bool)}(c1:Pu Tryz.prog 24 [tq t] (Ab.tup [bt tr,lit .nilIface])) (c2:Pu Tryz.prog 31 [bt tr] (cps Cs)) (c3:∀c∈Cs,Pu Tryz.prog 27 [bt c.1] (tq c.1)) (hl:Cs.length≤1000000) :
  Pu Tryz.prog 13 [tq t] (Ab.tup [tps (Cs.map Prod.fst),lit .nilIface]):=by
 refine Pi Tryz.func13 fun C=>?_
 repeat(first|(refine Wo (aG (sv:=ag _) rfl) ?_)|(refine Wdo (aG (sv:=ag _) rfl) ?_)|(refine A1 ⟨?_⟩;intros)|refine W4 c1 ⟨?_⟩|refine W4 c2 ⟨?_⟩)
 refine WP.loopS (ι:=vV) (fun y=>y.k≤Cs.length∧Own CS 2 ((Cs.take y.k).map Prod.fst).length (((Cs.take y.k).map Prod.fst).map tpx).flatten y.s y.Hs) (fun y=>Cs.length-y.k)
  (fun y=>fm [(6,y.s),(18,cps Cs),(19,lit (.int .i64 Cs.length)),(20,lit (.int .i64 y.k))]) (fun y=>y.Hs) ⟨0,lit (.slice none 0 0),[]⟩
  ⟨Nat.zero_le _,Own.nil _ _⟩ lfA (List.nil_sublist _) ?_
 clear c1 c2;rintro ⟨k,s,Hs⟩ ⟨hk,hown⟩ K hK;simp only at hk hown⊢;have hco:=hown.co;by_cases hkl:k<Cs.length
 ·obtain⟨⟨T,bb⟩,hget,hmm,hat,hne⟩:=elt Ba om hkl;have hgo:=fun s' Hs' h F' H'=>hK F' H' ⟨k+1,s',Hs'⟩ ⟨by simp only;omega,h⟩ (by simp only;omega)
  simp only [F9 hget]at hgo;have c4:=c3 _ hmm;have hle:((Cs.take k).map Prod.fst).length≤k:=by rw [List.length_map,List.length_take];omega
  generalize(Cs.take k).map Prod.fst=D at *;clear hK hget hmm c3;repeat(refine A1 ⟨?_⟩;intros)
  refine Wo (a7 (cs':=cpx (T,bb)) rfl rfl om om hat hne) ?_;repeat(first|(refine Wo (aD (tpx T) rfl) ?_)|(refine Wdo (aD (tpx T) rfl) ?_)|(refine A1 ⟨?_⟩;intros)|refine W4 c4 ⟨?_⟩)
  refine jL (ds:=tpx T) hown (Tk.skip _ (Tk.same _)) om (fun s' H1 hown'=>?_);have hco':=hown'.co;replace hgo:=hgo s' H1 (GI hown');clear hown hown';repeat(refine A1 ⟨?_⟩;intros)
  exact hgo _ _ lfA (Sc Sr)
 ·have hke:k=Cs.length:=by omega
  subst hke;rw [List.take_length]at hown;refine WP.rowS 6 hown rfl (by rw [List.append_nil]) ?_;clear hK hown;repeat(refine A1 ⟨?_⟩;intros)
  exact G2
def fJ (Cs:List (Tr×Bool)):List Tr:=(Cs.filter fun c=>c.2).map Prod.fst
theorem Cm {Cs:List (Tr×Bool)}{k:Nat}{T:Tr}{b:Bool}(h:Cs[k]? = some (T,b)):fJ (Cs.take (k+1))=if b then fJ (Cs.take k)++[T]else fJ (Cs.take k):=by
 unfold fJ;rw [dQ h,List.filter_append,List.map_append];cases b <;> simp
theorem xx (Cs:List (Tr×Bool)):(fJ Cs).length≤Cs.length:=by
 unfold fJ;rw [List.length_map];exact List.length_filter_le _ _
theorem sP {tr:Tr}{Cs:List (Tr×Bool)}(c2:Pu Tryz.prog 31 [bt (cN tr)] (cps Cs)) (hl:Cs.length≤1000000):Pu Tryz.prog 26 [bt tr] (bts (fJ Cs)):=by
 have c1:=gw tr;refine Pi Tryz.func26 fun C=>?_
 repeat(first|(refine A1 ⟨?_⟩;intros)|refine W4 c1 ⟨?_⟩|refine W4 c2 ⟨?_⟩)
 refine WP.loopS (ι:=vV) (fun y=>y.k≤Cs.length∧Own pbT 1 (fJ (Cs.take y.k)).length ((fJ (Cs.take y.k)).map fun t=>[bt t]).flatten y.s y.Hs) (fun y=>Cs.length-y.k)
  (fun y=>fm [(3,y.s),(8,cps Cs),(9,lit (.int .i64 Cs.length)),(10,lit (.int .i64 y.k))]) (fun y=>y.Hs) ⟨0,lit (.slice none 0 0),[]⟩
  ⟨Nat.zero_le _,Own.nil _ _⟩ lfA (List.nil_sublist _) ?_
 clear c1 c2;rintro ⟨k,s,Hs⟩ ⟨hk,hown⟩ K hK;simp only at hk hown⊢;have hco:=hown.co;by_cases hkl:k<Cs.length
 ·obtain⟨⟨T,bb⟩,hget,hmm,hat,hne⟩:=elt Ba om hkl;have hgo:=fun s' Hs' h F' H'=>hK F' H' ⟨k+1,s',Hs'⟩ ⟨by simp only;omega,h⟩ (by simp only;omega)
  simp only [Cm hget]at hgo;have hle:=xx (Cs.take k);rw [List.length_take]at hle;generalize fJ (Cs.take k)=D at *;clear hK hget hmm;cases bb with
  |false =>
   rw [if_neg (by decide)]at hgo;replace hgo:=hgo s Hs hown;clear hown;repeat(refine A1 ⟨?_⟩;intros)
   refine Wo (a7 (cs':=cpx (T,false)) rfl rfl om om hat hne) ?_;repeat(refine A1 ⟨?_⟩;intros)
   exact hgo _ _ lfA (Sc Sr)
  |true =>
   rw [if_pos rfl]at hgo;repeat(refine A1 ⟨?_⟩;intros)
   refine Wo (a7 (cs':=cpx (T,true)) rfl rfl om om hat hne) ?_;repeat(first|(refine Wo (iy (s:=bt T) (ds:=[bt T]) rfl inferInstance) ?_)|(refine Wdo (iy (s:=bt T) (ds:=[bt T]) rfl inferInstance) ?_)|(refine A1 ⟨?_⟩;intros))
   refine jL (ds:=[bt T]) hown (Tk.skip _ (Tk.same _)) om (fun s' H1 hown'=>?_);have hco':=hown'.co;replace hgo:=hgo s' H1 (GL hown');clear hown hown';repeat(refine A1 ⟨?_⟩;intros)
   exact hgo _ _ lfA (Sc Sr)
 ·have hke:k=Cs.length:=by omega
  subst hke;rw [List.take_length]at hown;refine WP.rowS 3 hown rfl (by rw [List.append_nil]) ?_;clear hK hown;exact Z1
theorem Bo {t tr:Tr}{Cs:List (Tr×Bool)}{Hl:List Tr}(c1:Pu Tryz.prog 24 [tq t] (Ab.tup [bt tr,lit .nilIface])) (c2:Pu Tryz.prog 31 [bt tr] (cps Cs)) (c3:Pu Tryz.prog 26 [bt tr] (bts Hl)) :
  Pu Tryz.prog 11 [tq t] (Ab.tup [lit (.int .i64 Cs.length),lit (.int .i64 Hl.length),lit .nilIface]):=by
 refine Pi Tryz.func11 fun C=>?_
 repeat(first|(refine Wo (aG (sv:=ag _) rfl) ?_)|(refine Wdo (aG (sv:=ag _) rfl) ?_)|(refine A1 ⟨?_⟩;intros)|refine W4 c1 ⟨?_⟩|refine W4 c2 ⟨?_⟩|refine W4 c3 ⟨?_⟩)
 ((first|refine aS ?_|refine eI ?_);exact I4 (RV.tmp rfl) (RV.tmp rfl) (RV.tmp rfl) Lr)
theorem Df {t tr:Tr}{Cs:List (Tr×Bool)}(c1:Pu Tryz.prog 24 [tq t] (Ab.tup [bt tr,lit .nilIface])) (c2:Pu Tryz.prog 31 [bt tr] (cps Cs)) :
  Pu Tryz.prog 14 [tq t] (Ab.tup [lit (.bool (decide (Cs.length=1))),lit .nilIface]):=by
 by_cases h:Cs.length=1
 ·rw [decide_eq_true h];refine Pi Tryz.func14 fun C=>?_
  repeat(first|(refine Wo (aG (sv:=ag _) rfl) ?_)|(refine Wdo (aG (sv:=ag _) rfl) ?_)|(refine A1 ⟨?_⟩;intros)|refine W4 c1 ⟨?_⟩|refine W4 c2 ⟨?_⟩)
  exact G2
 ·rw [decide_eq_false h];refine Pi Tryz.func14 fun C=>?_
  repeat(first|(refine Wo (aG (sv:=ag _) rfl) ?_)|(refine Wdo (aG (sv:=ag _) rfl) ?_)|(refine A1 ⟨?_⟩;intros)|refine W4 c1 ⟨?_⟩|refine W4 c2 ⟨?_⟩)
  exact G2
abbrev BF (n:Nat):SV:=ex fun t:{t:Tr //∃L:List Li,L.length≤n∧(∀l∈L,l.sm)∧Gd L t}=>rt t.1
theorem fX {n:Nat}{t:Tr}(L:List Li) (h1:L.length≤n) (h2:∀l∈L,l.sm) (h3:Gd L t):Le (rt t) (BF n):=Le.ex (f:=fun t:{t:Tr //∃L:List Li,L.length≤n∧(∀l∈L,l.sm)∧Gd L t}=>rt t.1) ⟨t,L,h1,h2,h3⟩ Lr
theorem mg:∀t:Tr,t.lin (j7 t)
 | .leaf _=>trivial
 | .node l a b=>⟨Ms,Tr.lin.mono (fun x hx=>Mc (List.mem_append_left _ hx)) (mg a),Tr.lin.mono (fun x hx=>Mc (List.mem_append_right _ hx)) (mg b)⟩
theorem ke:∀t:Tr,(j7 t).length=t.size
 | .leaf _=>rfl
 | .node l a b=>by
  rw [Tr.size_node,←ke a,←ke b];show(l::(j7 a++j7 b)).length=_
  rw [List.length_cons,List.length_append];omega
theorem iC {p:Li→Prop}:∀{t:Tr},t.all p→∀l∈j7 t,p l
 | .leaf _,_,l,h=>by cases h
 | .node m a b,k,l,h=>by
  rcases List.mem_cons.1 h with h|h
  ·rw [h];exact k.1
  ·rcases List.mem_append.1 h with h|h
   ·exact iC k.2.1 l h
   ·exact iC k.2.2 l h
theorem nS:∀t:Tr,br t≤t.size
 | .leaf _=>Nat.le_refl _
 | .node l a b=>by
  have:=nS a;have:=nS b;rw [Tr.size_node];simp only [br];omega
theorem Gd.mono {L M:List Li}(hs:∀l∈L,l∈M){t:Tr}(h:Gd L t):Gd M t:=⟨Tr.lin.mono hs h.1,h.2⟩
theorem ot {L:List Li}(h:∀l∈L,l.sm):∀l∈L,l.ok:=fun l hl=>(h l hl).1
theorem rN {L:List Li}(h:∀l∈L,l.sm){t:Tr}(k:Gd L t):t.all fun l=>l.sm:=Tr.lin.all h k.1
theorem F6 {rs:List (List Pq)}{fill:Int}(hrl:rs.length≤2) (hrs:∀r∈rs,eM r):∃L:List Li,L.length≤12∧(∀l∈L,l.sm)∧Gd L (aa (jo (inR rs fill) 20000 ((rs.map dG).flatten) []) []):=by
 have hLl:=gH rs hrs;have hL:=pY hrs;have hlen:((rs.map dG).flatten).length≤12:=by have:=hLl;unfold f6 at this;rw [List.length_map]at this;omega
 have hfw:∀f∈(rs.map dG).flatten,FgG (f6 rs) f:=fun f hf=>by
  obtain⟨e,he,hfe⟩:=List.mem_flatten.1 hf;obtain⟨r,hr,rfl⟩:=List.mem_map.1 he;exact(qg (hrs r hr) f hfe).2.2 _ (List.mem_map.2 ⟨f,hf,rfl⟩)
 have hphi:fC (f6 rs) (rs.map dG).flatten≤12*13:=Nat.le_trans (pQ _ _) (Nat.mul_le_mul hlen om);obtain⟨_,_,z3⟩:=jn (inR rs fill) 20000 ((rs.map dG).flatten) [] hfw om;exact⟨f6 rs,om,hL,Gd.restr (ot hL) z3⟩
theorem gB (zs:List Int) (hz:zs.length≤400):PuT 43 zs [] (BF 12):=by
 have key:∀(rs:List (List Pq)) (fill:Int),rs≠[]→rs.length≤2→(∀r∈rs,eM r)→(fill=1∨fill=2)→Pu Tryz.prog 23 [qQ rs] (ya rs)∧Pu Tryz.prog 22 [ya rs,lit (.int .i64 fill)] (rgR rs fill (mq (f6 rs)))∧Pu Tryz.prog 21 [rgR rs fill (mq (f6 rs))] (rt (aa (jo (inR rs fill) 20000 ((rs.map dG).flatten) []) [])):=fun rs fill h0 hl hr hf =>
  ⟨pN rs om hr,A4 fill h0 om hr,td hf om hr⟩
 have fin:∀(rs:List (List Pq)) (fill:Int),rs.length≤2→(∀r∈rs,eM r)→Le (rt (aa (jo (inR rs fill) 20000 ((rs.map dG).flatten) []) [])) (BF 12):=fun rs fill hl hr=>by
  obtain⟨L,h1,h2,h3⟩:=F6 (fill:=fill) hl hr;exact fX L h1 h2 h3
 refine PuM.intro Tryz.func43 rfl kr fun C b=>?_
 repeat(refine A1 ⟨?_⟩;intros)
 refine Wtx (w5 zs hz) mmA fun r=>?_
 obtain⟨r,hr⟩:=r;simp only [];refine Wo (iw (s:=rps r) (ds:=[rps r]) rfl inferInstance) ?_;repeat(refine A1 ⟨?_⟩;intros)
 refine Wtx (cB zs hz 3 om om) mmA fun k=>?_
 obtain⟨k,hk⟩:=k;simp only [];by_cases hk0:k=0
 ·subst hk0;repeat(refine A1 ⟨?_⟩;intros)
  refine Wtx (w5 zs hz) mmA fun q=>?_
  obtain⟨q,hq⟩:=q;simp only [];refine Wo (bA (r:=[(0,[rps q])]) (cs:=[rps q]) (.cons (sv:=rps q) rfl inferInstance .nil)) ?_;refine Wo (az (k:=1) (k0:=1) (ds:=[rps q]) rfl rfl rfl rfl om) ?_
  have hrs:∀x∈[r,q],eM x:=fun x hx=>by
   rcases List.mem_cons.1 hx with h|h
   ·rw [h];exact hr
   ·rw [List.mem_singleton.1 h];exact hq
  have ca:=pN [r,q] (by simp) hrs;repeat(first|(refine A1 ⟨?_⟩;intros)|refine W4 ca ⟨?_⟩)
  refine Wtx (cB zs hz 2 om om) mmA fun k=>?_
  obtain⟨k,hk⟩:=k;simp only [];have hf:(1+(k:Int))=1∨(1+(k:Int))=2:=by omega
  obtain⟨_,c1,c2⟩:=key [r,q] (1+(k:Int)) (by simp) (by simp) hrs hf;have hfin:=fin [r,q] (1+(k:Int)) (by simp) hrs;repeat(first|(refine A1 ⟨?_⟩;intros)|refine W4 c1 ⟨?_⟩|refine W4 c2 ⟨?_⟩)
  exact dp () _ (aF (RV.tmp rfl) hfin) mmA (LeL.refl _)
 ·repeat(refine A1 ⟨?_⟩;intros)
  have hrs:∀x∈[r],eM x:=fun x hx=>by rw [List.mem_singleton.1 hx];exact hr
  have ca:=(pN [r] (by simp) hrs).arg (l':=[xsl [rps r] 1]) ⟨mh,trivial⟩;repeat(first|(refine A1 ⟨?_⟩;intros)|refine W4 ca ⟨?_⟩)
  refine Wtx (cB zs hz 2 om om) mmA fun k=>?_
  obtain⟨k,hk⟩:=k;simp only [];have hf:(1+(k:Int))=1∨(1+(k:Int))=2:=by omega
  obtain⟨_,c1,c2⟩:=key [r] (1+(k:Int)) (by simp) (by simp) hrs hf;have hfin:=fin [r] (1+(k:Int)) (by simp) hrs;repeat(first|(refine A1 ⟨?_⟩;intros)|refine W4 c1 ⟨?_⟩|refine W4 c2 ⟨?_⟩)
  exact dp () _ (aF (RV.tmp rfl) hfin) mmA (LeL.refl _)
theorem pow_one (d:Nat):12≤12*2^d:=by have:0<2^d:=Nat.pow_pos om;omega
theorem AN {l:Li}(hl:l.sm):Pu Tryz.prog 38 [rt (.node l (.leaf true) (.leaf false))] (rt (aa (.node l (.leaf true) (.leaf false)) [])):=jR _ ⟨hl,trivial,trivial⟩ (by simp [br])
theorem AO {l:Li}(hl:l.sm):Gd [l] (aa (.node l (.leaf true) (.leaf false)) []):=Gd.restr (fun x hx=>by rw [List.mem_singleton.1 hx];exact hl.1) ⟨List.mem_singleton.2 rfl,trivial,trivial⟩
theorem zT {t:Tr}(h:t.all fun l=>l.ok∧l.le 1):Gd (j7 t) (aa t []):=Gd.restr (fun l hl=>(iC h l hl).1) (mg t)
theorem yk (zs:List Int) (hz:zs.length≤400):∀d:Nat,d≤3→PuT 19 zs [lit (.int .i64 (d:Int))] (BF (12*2^d)):=by
 intro d;induction d with
 |zero =>
  intro _;refine PuM.intro Tryz.func19 rfl kr fun C b=>?_
  repeat(refine A1 ⟨?_⟩;intros)
  refine Wtx (cB zs hz 6 om om) mmA fun k=>?_
  obtain⟨k,hk⟩:=k;simp only [];rcases(by omega:k=1∨k=2∨k=3∨k=0∨(k≠0∧k≠1∧k≠2∧k≠3))with rfl|rfl|rfl|rfl|⟨k0,k1,k2,k3⟩
  ·repeat(refine A1 ⟨?_⟩;intros)
   refine Wtx (Dc zs hz) mmA fun l=>?_
   obtain⟨l,hok,hle⟩:=l;simp only [];have c:=AN (l:=l) ⟨hok,hle⟩;rw [show rt (.node l (.leaf true) (.leaf false))=pt (rc (.node l (.leaf true) (.leaf false)))from rfl,gm]at c;repeat(first|(refine Wo (aG (sv:=ag _) rfl) ?_)|(refine Wdo (aG (sv:=ag _) rfl) ?_)|(refine A1 ⟨?_⟩;intros)|refine W4 (cS true) ⟨?_⟩|refine W4 (cS false) ⟨?_⟩|refine W4 c ⟨?_⟩)
   exact dp () _ (aF (RV.tmp rfl) (fX [l] (by simp) (fun x hx=>by rw [List.mem_singleton.1 hx];exact⟨hok,hle⟩) (AO ⟨hok,hle⟩))) mmA (LeL.refl _)
  ·repeat(refine A1 ⟨?_⟩;intros)
   refine Wtx (qz zs hz 3 om) mmA fun t=>?_
   obtain⟨t,ht,hs⟩:=t;simp only [];have h8:t.size<8:=hs;have hd:=nS t;have c:=jR t ht om;have hln:=ke t;repeat(first|(refine A1 ⟨?_⟩;intros)|refine W4 c ⟨?_⟩)
   exact dp () _ (aF (RV.tmp rfl) (fX (j7 t) (by simp only [Nat.pow_zero];omega) (fun x hx=>iC ht x hx) (zT ht))) mmA (LeL.refl _)
  ·repeat(refine A1 ⟨?_⟩;intros)
   refine Wtx (gB zs hz) mmA fun t=>?_
   obtain⟨t,L,h1,h2,h3⟩:=t;simp only [];have c:=n7 t (rN h2 h3);repeat(first|(refine A1 ⟨?_⟩;intros)|refine W4 c ⟨?_⟩)
   exact dp () _ (aF (RV.tmp rfl) (fX L (by simpa using h1) h2 h3.not)) mmA (LeL.refl _)
  ·repeat(refine A1 ⟨?_⟩;intros)
   refine Wtx (gB zs hz) mmA fun t=>?_
   obtain⟨t,L,h1,h2,h3⟩:=t;simp only [];repeat(refine A1 ⟨?_⟩;intros)
   exact dp () _ (aF (RV.tmp rfl) (fX L (by simpa using h1) h2 h3)) mmA (LeL.refl _)
  ·repeat(refine A1 ⟨?_⟩;intros)
   refine Wtx (gB zs hz) mmA fun t=>?_
   obtain⟨t,L,h1,h2,h3⟩:=t;simp only [];repeat(refine A1 ⟨?_⟩;intros)
   exact dp () _ (aF (RV.tmp rfl) (fX L (by simpa using h1) h2 h3)) mmA (LeL.refl _)
 |succ d ih =>
  intro hd;have hr:=ih om;rw [show(d:Int)=((d+1:Nat):Int)-1 from by omega]at hr;have hp:=pow_one (d+1);have hp8:12*2^(d+1)=12*2^d+12*2^d:=by rw [Nat.pow_succ];omega
  have hp3:2^d≤2^3:=Nat.pow_le_pow_right om om;clear ih;refine PuM.intro Tryz.func19 rfl kr fun C b=>?_
  repeat(refine A1 ⟨?_⟩;intros)
  refine Wtx (cB zs hz 6 om om) mmA fun k=>?_
  obtain⟨k,hk⟩:=k;simp only [];rcases(by omega:k=0∨k=1∨k=2∨k=3∨(k≠0∧k≠1∧k≠2∧k≠3))with rfl|rfl|rfl|rfl|⟨k0,k1,k2,k3⟩
  ·repeat(refine A1 ⟨?_⟩;intros)
   refine Wtx hr mmA fun t=>?_
   obtain⟨t,L,h1,h2,h3⟩:=t;simp only [];repeat(refine A1 ⟨?_⟩;intros)
   refine Wtx (cB zs hz 4 om om) mmA fun o=>?_
   obtain⟨o,ho⟩:=o;simp only [];repeat(refine A1 ⟨?_⟩;intros)
   refine Wtx hr mmA fun u=>?_
   obtain⟨u,M,m1,m2,m3⟩:=u;simp only [];have q1:=h3.dep;have q2:=m3.dep;have hLM:∀l∈L++M,l.sm:=fun l hl=>(List.mem_append.1 hl).elim (h2 l) (m2 l)
   have g1:=Gd.mono (M:=L++M) (fun l hl=>List.mem_append_left _ hl) h3;have g2:=Gd.mono (M:=L++M) (fun l hl=>List.mem_append_right _ hl) m3;have c:=ij (1+(o:Int)) om u (rN m2 m3) t [] (rN h2 h3) (fun m h=>by cases h) (by simp only [List.length_nil];omega);have c':=c.arg (l':=[lit (.int .i64 (1+(o:Int))),rt t,rt u,lit (.slice none 0 0)]) ⟨Le.refl _,Le.refl _,Le.refl _,dM,trivial⟩;have hg:Gd (L++M) (aQ (1+(o:Int)) t u []):=Gd.merge (ot hLM) g1.1 g2.1;have hlen:(L++M).length≤12*2^(d+1):=by rw [List.length_append];omega
   generalize aQ (1+(o:Int)) t u []=r at *;clear c h3 m3 g1 g2 h2 m2;repeat(first|(refine A1 ⟨?_⟩;intros)|refine W4 c' ⟨?_⟩)
   exact dp () _ (aF (RV.tmp rfl) (fX (L++M) hlen hLM hg)) mmA (LeL.refl _)
  ·repeat(refine A1 ⟨?_⟩;intros)
   refine Wtx (Dc zs hz) mmA fun l=>?_
   obtain⟨l,hok,hle⟩:=l;simp only [];have c:=AN (l:=l) ⟨hok,hle⟩;rw [show rt (.node l (.leaf true) (.leaf false))=pt (rc (.node l (.leaf true) (.leaf false)))from rfl,gm]at c;repeat(first|(refine Wo (aG (sv:=ag _) rfl) ?_)|(refine Wdo (aG (sv:=ag _) rfl) ?_)|(refine A1 ⟨?_⟩;intros)|refine W4 (cS true) ⟨?_⟩|refine W4 (cS false) ⟨?_⟩|refine W4 c ⟨?_⟩)
   exact dp () _ (aF (RV.tmp rfl) (fX [l] (by simp only [List.length_singleton];omega) (fun x hx=>by rw [List.mem_singleton.1 hx];exact⟨hok,hle⟩) (AO ⟨hok,hle⟩))) mmA (LeL.refl _)
  ·repeat(refine A1 ⟨?_⟩;intros)
   refine Wtx (qz zs hz 3 om) mmA fun t=>?_
   obtain⟨t,ht,hs⟩:=t;simp only [];have h8:t.size<8:=hs;have hd:=nS t;have c:=jR t ht om;have hln:=ke t;repeat(first|(refine A1 ⟨?_⟩;intros)|refine W4 c ⟨?_⟩)
   exact dp () _ (aF (RV.tmp rfl) (fX (j7 t) om (fun x hx=>iC ht x hx) (zT ht))) mmA (LeL.refl _)
  ·repeat(refine A1 ⟨?_⟩;intros)
   refine Wtx (gB zs hz) mmA fun t=>?_
   obtain⟨t,L,h1,h2,h3⟩:=t;simp only [];have c:=n7 t (rN h2 h3);repeat(first|(refine A1 ⟨?_⟩;intros)|refine W4 c ⟨?_⟩)
   exact dp () _ (aF (RV.tmp rfl) (fX L om h2 h3.not)) mmA (LeL.refl _)
  ·repeat(refine A1 ⟨?_⟩;intros)
   refine Wtx (gB zs hz) mmA fun t=>?_
   obtain⟨t,L,h1,h2,h3⟩:=t;simp only [];repeat(refine A1 ⟨?_⟩;intros)
   exact dp () _ (aF (RV.tmp rfl) (fX L om h2 h3)) mmA (LeL.refl _)
theorem oD {L:Nat}(h1:1≤L):∀(t:Tr) (c:PC),(t.all fun l=>l.le L)→(∀s∈c,lS L s)→∀x∈a8 t c,(∀s∈x.1,lS L s)∧x.1.length≤c.length+br t
 | .leaf i,c,_,hc,x,hx=>by
  unfold a8 at hx;rw [List.mem_singleton.1 hx];exact⟨hc,Nat.le_add_right _ _⟩
 | .node l a b,c,h,hc,x,hx=>by
  have hd:br (.node l a b)=1+max (br a) (br b):=rfl;have n1:=fB (aj l) c l;have n2:=fB (aj l.neg) c l.neg;have hln:l.neg.le L:=⟨by show il (-l.a)≤L;rw [cj];exact h.1.a,by show il (-l.b)≤L;rw [cj];exact h.1.b,by show il (-l.c)≤L;rw [cj];exact h.1.c⟩
  unfold a8 at hx;rcases List.mem_append.1 hx with hx|hx
  ·split at hx
   ·obtain⟨g1,g2⟩:=oD h1 a _ h.2.1 (gK hc h.1 h1) x hx;exact⟨g1,by rw [hd];omega⟩
   ·cases hx
  ·split at hx
   ·obtain⟨g1,g2⟩:=oD h1 b _ h.2.2 (gK hc hln h1) x hx;exact⟨g1,by rw [hd];omega⟩
   ·cases hx
structure Gx (L:List Li) (t:Tr):Prop where
 len:L.length≤25
 sm:∀l∈L,l.sm
 g:Gd L t
theorem Gx.ok {L:List Li}{t:Tr}(h:Gx L t):∀l∈L,l.ok:=ot h.sm
theorem Gx.lok {L:List Li}{t:Tr}(h:Gx L t):t.lok:=ci h.ok h.g.1
theorem Gx.dep {L:List Li}{t:Tr}(h:Gx L t):br t≤25:=Nat.le_trans h.g.dep h.len
theorem Gx.size {L:List Li}{t:Tr}(h:Gx L t):bw t≤650:=Nat.le_trans (h.g.size h.ok) (Nat.le_trans (Nat.mul_le_mul h.len (Nat.add_le_add_left h.len 1)) (by decide))
theorem Gx.lv {L:List Li}{t:Tr}(h:Gx L t):aV t≤651:=by have:=h.size;rw [kW];omega
theorem Gx.all {L:List Li}{t:Tr}(h:Gx L t):t.all fun l=>l.sm:=rN h.sm h.g
theorem dO {p q:Li→Prop}(hpq:∀l,p l→q l):∀{t:Tr},t.all p→t.all q
 | .leaf _,_=>trivial
 | .node _ _ _,h=>⟨hpq _ h.1,dO hpq h.2.1,dO hpq h.2.2⟩
theorem Gx.restr {L:List Li}{t:Tr}(h:Gx L t):Gx L (aa t []):=⟨h.len,h.sm,Gd.restr h.ok h.g.1⟩
theorem Gx.not {L:List Li}{t:Tr}(h:Gx L t):Gx L (cN t):=⟨h.len,h.sm,h.g.not⟩
abbrev bE (u:Tr):List (Tr×Bool):=gO (a8 u []) u
theorem Gx.comps {L:List Li}{u:Tr}(h:Gx L u):Pu Tryz.prog 31 [bt u] (cps (bE u)):=by
 have hlen:=uR dC.nil h.lok h.g.2;have hle:=dO (p:=fun l=>l.sm) (q:=fun l=>l.le 1) (fun l hl=>hl.2) h.all;have hd:=h.dep;have hv:=h.lv
 exact FB (L:=1) rfl rfl ⟨om,om,fun x hx=>by
  obtain⟨g1,g2⟩:=oD om u [] hle (fun s hs=>by cases hs) x hx;exact⟨g1,by rw [List.length_nil]at g2;omega⟩,om⟩ hle h.lok om hlen.symm
structure CN (t:Tr) (n h:Nat):Prop where
 w:Pu Tryz.prog 5 [rt t] (tq t)
 cc:Pu Tryz.prog 11 [tq t] (Ab.tup [lit (.int .i64 n),lit (.int .i64 h),lit .nilIface])
theorem CF (l:Pts) (t:Tr):(gO l t).length≤l.length:=by
 unfold gO;rw [List.length_map];exact Nat.le_trans (List.length_filter_le _ _) (by rw [List.length_range];exact Nat.le_refl _)
theorem Gx.clen {L:List Li}{u:Tr}(h:Gx L u):(bE u).length≤651:=by
 have h1:=CF (a8 u []) u;have h2:=uR dC.nil h.lok h.g.2;have h3:=h.lv;unfold bE;omega
theorem IG {L:List Li}{t:Tr}(hL:L.length≤25) (hs:∀l∈L,l.sm) (ht:t.lin L) (hd:br t≤100) (hz:bw t≤10000):CN t (bE (aa t [])).length (fJ (bE (cN (aa t [])))).length:=by
 have hok:∀l∈L,l.ok:=ot hs;have hr:Gx L (aa t []):=⟨hL,hs,Gd.restr hok ht⟩
 have hn:=hr.not;have hall:t.all fun l=>l.sm:=Tr.lin.all hs ht
 have ha6:=dO (q:=fun l=>l.le 1000000) (fun l hl=>Li.sm.ile hl) hall;have ha1:=dO (q:=fun l=>l.le 1) (fun l (hl:l.sm)=>hl.2) hall;have cof:=sk t (dO (q:=fun l=>l.ok∧l.le 100000) (fun l (hl:l.sm)=>⟨hl.1,hl.2.gr om⟩) hall) (by rw [fV];omega);have c1:=mO (L:=1) om om ha1 (ci hok ht) cof om;have c4:=sP hn.comps (by have:=hn.clen;omega);exact⟨ou t ha6 (by rw [fV];omega),Bo c1 hr.comps c4⟩
theorem vD {L:List Li}(hL:∀l∈L,l.ok){u:Tr}(hu:u.lin L):∀x∈fJ (bE u),Gd L x:=fun x hx=>by
 unfold fJ at hx;obtain⟨c,hc,rfl⟩:=List.mem_map.1 hx;obtain⟨i,_,rfl⟩:=List.mem_map.1 (List.mem_filter.1 hc).1;exact Gd.restr hL (lr hu)
def gJ (t:Tr):Tr:=lR 1 (aa t []) (fJ (bE (cN (aa t []))))
theorem vI {L:List Li}(hL:∀l∈L,l.ok){t:Tr}(ht:t.lin L):Gd L (gJ t) :=
 qu hL _ (Gd.restr hL ht) fun x hx=>(vD hL (Gd.restr hL ht).not.1 x hx).1
theorem Gx.lne {L:List Li}{t:Tr}(h:Gx L t):LnE L 1:=⟨h.ok,fun l hl=>(h.sm l hl).2,om,om,by have:=h.len;omega⟩
theorem Gx.fill {L:List Li}{t:Tr}(h:Gx L t):Gx L (gJ t):=⟨h.len,h.sm,vI h.ok h.g.1⟩
theorem w9 {L:List Li}{t:Tr}(h:Gx L t):Pu Tryz.prog 8 [tq t] (Ab.tup [tq (gJ t),lit .nilIface]):=by
 have hr:=h.restr;have hn:=hr.not;have hd:=h.dep;have hrd:=hr.dep;have hsz:=h.size;have hf:=h.fill;have hfs:=hf.size;have hhl:(fJ (bE (cN (aa t [])))).length≤651:=by have:=xx (bE (cN (aa t [])));have:=hn.clen;omega
 have ha1:=dO (q:=fun l=>l.le 1) (fun l (hl:l.sm)=>hl.2) h.all;have cof:=sk t (dO (q:=fun l=>l.ok∧l.le 100000) (fun l (hl:l.sm)=>⟨hl.1,hl.2.gr om⟩) h.all) (by rw [fV];omega);have c1:=mO (L:=1) om om ha1 h.lok cof om;have c2:=sP hn.comps (by have:=hn.clen;omega)
 have c3:=GG h.lne 1 om hr.g.1 om (Hs:=fJ (bE (cN (aa t [])))) (fun x hx=>by
  have g:=vD h.ok hn.g.1 x hx;have:=g.dep;have:=h.len;exact⟨g.1,om⟩) om
 rw [p9 h.ok h.g.1]at c3;have c4:=um (gJ t) (dO (fun l hl=>Li.sm.ile hl) hf.all) (by rw [fV];omega);clear cof ha1 hfs hf hsz hrd hd hn hr h hhl;unfold gJ at *;generalize lR 1 (aa t []) (fJ (bE (cN (aa t []))))=y at *;generalize fJ (bE (cN (aa t [])))=Hs at *;generalize aa t []=r at *;refine Pi Tryz.func8 fun C=>?_
 repeat(first|(refine Wo (aG (sv:=ag _) rfl) ?_)|(refine Wdo (aG (sv:=ag _) rfl) ?_)|(refine A1 ⟨?_⟩;intros)|refine W4 c1 ⟨?_⟩|refine W4 c2 ⟨?_⟩|refine W4 c3 ⟨?_⟩|refine W4 c4 ⟨?_⟩)
 exact G3
section
variable {P:Program}{C:Ctx}{n:Nat}{F:Fr}{H:LH}{ty:TypeId}
theorem pV {T e:TypeId}{sz by_:Nat}{z:List SV}{g:Bool} [hS:TSl P T e] [hT:TY P e sz by_ z g]{len:Nat}{l:List (Nat×Operand)}{r:List (Nat×List SV)}{cs:List SV}(hp:dq F l r) (hf:fL ((List.range len).map fun i=>(i*sz,sz)) (List.replicate len z).flatten r=some cs:=by exact rfl)
  (hsz:Nat.ble (len*sz) 16777216=true:=by exact rfl) (hpos:Nat.blt 0 sz=true:=by exact rfl) (hl:Nat.ble len 1000=true:=by exact rfl):OpV P (.buildSlice T len l.toArray) ty F H (xsl cs len) :=
 OpV.pubN (g8 hp hf hsz hpos) fun m b arr hb h=>ui hb h (by have:=Nat.le_of_ble_eq_true hl;simp only [maxLen];omega)
end
abbrev sqP (a b:Int):List Pq:=[iq a a,iq b a,iq b b,iq a b]
theorem wg {a b:Int}(ha:a.natAbs≤1000) (hb:b.natAbs≤1000) (h:a≠b):eM (sqP a b):=rg4 ha ha hb hb h h
theorem jg (a b:Int) (ha:a.natAbs≤1000) (hb:b.natAbs≤1000):Pu Tryz.prog 20 [lit (.int .i64 a),lit (.int .i64 b)] (rps (sqP a b)):=by
 have c1:=je a a om om om om;have c2:=je b a om om om om;have c3:=je b b om om om om;have c4:=je a b om om om om;clear ha hb;refine Pi Tryz.func20 fun C=>?_
 repeat(first|(refine Wo (oF bW (sqP a b) (r:=[(0,rpx (iq a a)),(1,rpx (iq b a)),(2,rpx (iq b b)),(3,rpx (iq a b))]) (.pt rfl (.pt rfl (.pt rfl (.pt rfl .nil))))) ?_)|(refine Wdo (oF bW (sqP a b) (r:=[(0,rpx (iq a a)),(1,rpx (iq b a)),(2,rpx (iq b b)),(3,rpx (iq a b))]) (.pt rfl (.pt rfl (.pt rfl (.pt rfl .nil))))) ?_)|(refine A1 ⟨?_⟩;intros)|refine W4 c1 ⟨?_⟩|refine W4 c2 ⟨?_⟩|refine W4 c3 ⟨?_⟩|refine W4 c4 ⟨?_⟩)
 exact E1
theorem tO {rs:List (List Pq)}{fill:Int}(hrl:rs.length≤3) (hrs:∀r∈rs,eM r):∃L:List Li,L.length≤18∧(∀l∈L,l.sm)∧Gd L (aa (jo (inR rs fill) 20000 ((rs.map dG).flatten) []) []):=by
 have hLl:=gH rs hrs;have hL:=pY hrs;have hlen:((rs.map dG).flatten).length≤18:=by have:=hLl;unfold f6 at this;rw [List.length_map]at this;omega
 have hfw:∀f∈(rs.map dG).flatten,FgG (f6 rs) f:=fun f hf=>by
  obtain⟨e,he,hfe⟩:=List.mem_flatten.1 hf;obtain⟨r,hr,rfl⟩:=List.mem_map.1 he;exact(qg (hrs r hr) f hfe).2.2 _ (List.mem_map.2 ⟨f,hf,rfl⟩)
 have hphi:fC (f6 rs) (rs.map dG).flatten≤18*19:=Nat.le_trans (pQ _ _) (Nat.mul_le_mul hlen om);obtain⟨_,_,z3⟩:=jn (inR rs fill) 20000 ((rs.map dG).flatten) [] hfw om;exact⟨f6 rs,om,hL,Gd.restr (ot hL) z3⟩
abbrev Ii (rs:List (List Pq)):Tr:=aa (jo (inR rs 1) 20000 ((rs.map dG).flatten) []) []
theorem zJ {rs:List (List Pq)}(h0:rs≠[]) (hl:rs.length≤3) (hr:∀r∈rs,eM r):Pu Tryz.prog 23 [qQ rs] (ya rs)∧Pu Tryz.prog 22 [ya rs,lit (.int .i64 1)] (rgR rs 1 (mq (f6 rs)))∧Pu Tryz.prog 21 [rgR rs 1 (mq (f6 rs))] (rt (Ii rs)) :=
 ⟨pN rs om hr,A4 1 h0 om hr,td (.inl rfl) om hr⟩
theorem rG (zs:List Int) (hz:zs.length≤400):PuT 6 zs [] (BF 24):=by
 have fin:∀(rs:List (List Pq)),rs.length≤3→(∀r∈rs,eM r)→Le (rt (Ii rs)) (BF 24):=fun rs hl hr=>by
  obtain⟨L,h1,h2,h3⟩:=tO (fill:=1) hl hr;exact fX L om h2 h3
 refine PuM.intro Tryz.func6 rfl kr fun C b=>?_
 repeat(refine A1 ⟨?_⟩;intros)
 refine Wtx (cB zs hz 2 om om) mmA fun k=>?_
 obtain⟨k,hk⟩:=k;simp only [];by_cases hk0:k=0
 ·subst hk0;repeat(refine A1 ⟨?_⟩;intros)
  refine Wtx (yk zs hz 1 om) mmA fun t=>?_
  obtain⟨t,L,h1,h2,h3⟩:=t;simp only [];repeat(refine A1 ⟨?_⟩;intros)
  exact dp () _ (aF (RV.tmp rfl) (fX L (by simpa using h1) h2 h3)) mmA (LeL.refl _)
 ·repeat(refine A1 ⟨?_⟩;intros)
  refine Wtx (cB zs hz 3 om om) mmA fun a=>?_
  obtain⟨a,ha⟩:=a;simp only [];repeat(refine A1 ⟨?_⟩;intros)
  refine Wtx (cB zs hz 3 om om) mmA fun b=>?_
  obtain⟨b,hb⟩:=b;simp only [];have s1:=jg ((a:Int)-3) ((a:Int)-3+3+b) om om;have s2:=jg ((a:Int)-3+1) ((a:Int)-3+2) om om;have o1:eM (sqP ((a:Int)-3) ((a:Int)-3+3+b)):=wg om om om;have o2:eM (sqP ((a:Int)-3+1) ((a:Int)-3+2)):=wg om om om;have s3:=jg 2 3 om om;have o3:eM (sqP 2 3):=wg om om om;generalize sqP ((a:Int)-3) ((a:Int)-3+3+b)=p1 at *;generalize sqP ((a:Int)-3+1) ((a:Int)-3+2)=p2 at *;generalize sqP 2 3=p3 at *;repeat(first|(refine Wo (pV (r:=[(0,[rps p1]),(1,[rps p2])]) (cs:=[rps p1,rps p2]) (.cons (sv:=rps p1) rfl inferInstance (.cons (sv:=rps p2) rfl inferInstance .nil))) ?_)|(refine Wdo (pV (r:=[(0,[rps p1]),(1,[rps p2])]) (cs:=[rps p1,rps p2]) (.cons (sv:=rps p1) rfl inferInstance (.cons (sv:=rps p2) rfl inferInstance .nil))) ?_)|(refine A1 ⟨?_⟩;intros)|refine W4 s1 ⟨?_⟩|refine W4 s2 ⟨?_⟩)
  refine Wtx (cB zs hz 2 om om) mmA fun c=>?_
  obtain⟨c,hc⟩:=c;simp only [];by_cases hc0:c=0
  ·subst hc0
   have hrs:∀x∈[p1,p2,p3],eM x:=fun x hx=>by
    simp only [List.mem_cons,List.not_mem_nil,or_false]at hx;rcases hx with rfl|rfl|rfl <;> assumption
   obtain⟨b1,b2,b3⟩:=zJ (by simp) (by simp) hrs;have hfin:=fin [p1,p2,p3] (by simp) hrs;repeat(first|(refine Wo (bA (r:=[(0,[rps p3])]) (cs:=[rps p3]) (.cons (sv:=rps p3) rfl inferInstance .nil)) ?_)|(refine Wdo (bA (r:=[(0,[rps p3])]) (cs:=[rps p3]) (.cons (sv:=rps p3) rfl inferInstance .nil)) ?_)|(refine Wo (az (k:=2) (k0:=1) (ds:=[rps p3]) rfl rfl rfl rfl om) ?_)|(refine Wdo (az (k:=2) (k0:=1) (ds:=[rps p3]) rfl rfl rfl rfl om) ?_)|(refine A1 ⟨?_⟩;intros)|refine W4 s3 ⟨?_⟩|refine W4 b1 ⟨?_⟩|refine W4 b2 ⟨?_⟩|refine W4 b3 ⟨?_⟩)
   exact dp () _ (aF (RV.tmp rfl) hfin) mmA (LeL.refl _)
  ·have hrs:∀x∈[p1,p2],eM x:=fun x hx=>by
    simp only [List.mem_cons,List.not_mem_nil,or_false]at hx;rcases hx with rfl|rfl <;> assumption
   obtain⟨b1,b2,b3⟩:=zJ (by simp) (by simp) hrs;have b1':=b1.arg (l':=[xsl [rps p1,rps p2] 2]) ⟨mh,trivial⟩;have hfin:=fin [p1,p2] (by simp) hrs;repeat(first|(refine A1 ⟨?_⟩;intros)|refine W4 b1' ⟨?_⟩|refine W4 b2 ⟨?_⟩|refine W4 b3 ⟨?_⟩)
   exact dp () _ (aF (RV.tmp rfl) hfin) mmA (LeL.refl _)
abbrev knF:Tr:=Ii [sqP 0 3,sqP 1 2]
theorem Ce:Nat.beq (bE (aa knF [])).length 1=true:=by kernel_rfl
theorem Cf:Nat.beq (fJ (bE (cN (aa knF [])))).length 1=true:=by kernel_rfl
theorem pj:Pu Tryz.prog 12 [] (lit (.bool true)):=by
 have o1:eM (sqP 0 3):=wg om om om;have o2:eM (sqP 1 2):=wg om om om
 have hrs:∀x∈[sqP 0 3,sqP 1 2],eM x:=fun x hx=>by
  simp only [List.mem_cons,List.not_mem_nil,or_false]at hx;rcases hx with rfl|rfl <;> assumption
 obtain⟨b1,b2,b3⟩:=zJ (by simp) (by simp) hrs;obtain⟨L,h1,h2,h3⟩:=tO (fill:=1) (rs:=[sqP 0 3,sqP 1 2]) (by simp) hrs;have hd:br knF≤L.length:=h3.dep;have hz:bw knF≤L.length*(1+L.length):=h3.size (ot h2);have hm:L.length*(1+L.length)≤18*19:=Nat.mul_le_mul h1 om;have tp:CN knF (bE (aa knF [])).length (fJ (bE (cN (aa knF [])))).length:=IG om h2 h3.1 om om;have hw:=tp.w;have hc:=tp.cc;have e1:(bE (aa knF [])).length=1:=Nat.eq_of_beq_eq_true Ce;have e2:(fJ (bE (cN (aa knF [])))).length=1:=Nat.eq_of_beq_eq_true Cf;rw [e1,e2]at hc;have s1:=jg 0 3 om om;have s2:=jg 1 2 om om;have b1':=b1.arg (l':=[xsl [rps (sqP 0 3),rps (sqP 1 2)] 2]) ⟨mh,trivial⟩;clear tp h1 h2 h3 e1 e2 o1 o2 hrs hd hz hm;unfold knF at hw hc;generalize Ii [sqP 0 3,sqP 1 2]=t at *;generalize sqP 0 3=p1 at *;generalize sqP 1 2=p2 at *;refine Pi Tryz.func12 fun C=>?_
 repeat(first|(refine Wo (pV (r:=[(0,[rps p1]),(1,[rps p2])]) (cs:=[rps p1,rps p2]) (.cons (sv:=rps p1) rfl inferInstance (.cons (sv:=rps p2) rfl inferInstance .nil))) ?_)|(refine Wdo (pV (r:=[(0,[rps p1]),(1,[rps p2])]) (cs:=[rps p1,rps p2]) (.cons (sv:=rps p1) rfl inferInstance (.cons (sv:=rps p2) rfl inferInstance .nil))) ?_)|(refine A1 ⟨?_⟩;intros)|refine W4 s1 ⟨?_⟩|refine W4 s2 ⟨?_⟩|refine W4 b1' ⟨?_⟩|refine W4 b2 ⟨?_⟩|refine W4 b3 ⟨?_⟩|refine W4 hw ⟨?_⟩|refine W4 hc ⟨?_⟩)
 exact E1
end Go.Ab
