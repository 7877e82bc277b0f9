/- Texts laid one behind the other: NumD, ScB, PEach, PTwo, Areas, Open, RowKit, LaidKit, GInt. -/
import Derived.Test.YtbcojehfealiaaaGreatDoorB38
import Derived.ProofKit
import Derived.OpenShut
import Derived.ChangeOld
import Derived.Below
import Derived.OpenVars
import Derived.Deep.Slices
import Derived.WalkKit
import Derived.Stop.LaidErr
import Derived.LaidMore
import Derived.Deep.DeepHandedRow
import Derived.Deep.DeepWitnessRowRef
set_option linter.all false
set_option maxHeartbeats 16000000
namespace Go.Ab
open Go.Proofs
variable [Base]
def Cov (rs:List (List Pq)) (l:List Fg) (c:List Li):Prop:=∀r∈rs,∀i,i<r.length→∀t:Rat,0<t→t<1→Inn c (lrp (vtx r i) (nxt r i) t)→∃f∈l,∃u,InS f.2 u∧atL f.1 u=lrp (vtx r i) (nxt r i) t
theorem Hm {l:Li}(h:l.ok) (p q:Pq) (t:Rat):bo l (lrp p q t)=bo l p+t*(bo l q-bo l p):=by
 have n:=cC h;have a:=iT h (lrp p q t);have b:=iT h p;have c:=iT h q;refine jk (n:=(l.a:Rat)*l.a+l.b*l.b) (by grind) ?_;unfold lrp at *;simp only at *;grind
theorem JT {v w:Pq}(h:v≠w):bo (cR v w) v<bo (cR v w) w:=by
 obtain⟨hok,k,hk,e⟩:=iF h;have n:=cC hok;have b:=iT hok v;have c:=iT hok w
 have hne : -(w.2-v.2)≠0∨w.1-v.1≠0:=by
  apply Classical.byContradiction;intro c;have h1 : -(w.2-v.2)=0:=Classical.byContradiction fun e=>c (.inl e)
  have h2:w.1-v.1=0:=Classical.byContradiction fun e=>c (.inr e)
  exact h (Prod.ext (by grind) (by grind))
 obtain⟨e1,e2,_⟩:=iS (c := -(-(w.2-v.2)*v.1+(w.1-v.1)*v.2)) hne;have hg:=Rat.inv_pos.2 (kT (c := -(-(w.2-v.2)*v.1+(w.1-v.1)*v.2)) hne);have ea:((cR v w).a:Rat) = -(w.2-v.2)*(g3 (-(w.2-v.2)) (w.1-v.1) (-(-(w.2-v.2)*v.1+(w.1-v.1)*v.2)))⁻¹:=e1.symm;have eb:((cR v w).b:Rat)=(w.1-v.1)*(g3 (-(w.2-v.2)) (w.1-v.1) (-(-(w.2-v.2)*v.1+(w.1-v.1)*v.2)))⁻¹:=e2.symm;generalize(g3 (-(w.2-v.2)) (w.1-v.1) (-(-(w.2-v.2)*v.1+(w.1-v.1)*v.2)))⁻¹=g at *;have sq:=lj hne;have pos:=Rat.mul_pos hg sq;generalize((cR v w).a:Rat)*(cR v w).a+(cR v w).b*(cR v w).b=M at *;have e5:(bo (cR v w) w-bo (cR v w) v)*M=(w.1-v.1)*(cR v w).b-(w.2-v.2)*(cR v w).a:=by grind
 have e6:(bo (cR v w) w-bo (cR v w) v)*M=g*(-(w.2-v.2) * -(w.2-v.2)+(w.1-v.1)*(w.1-v.1)):=by
  rw [e5,ea,eb];grind
 rw [←e6]at pos;have:=(eT (x:=bo (cR v w) w-bo (cR v w) v) n).1 pos;grind
theorem D4 {rs:List (List Pq)}(hr:∀r∈rs,sQ r):Cov rs ((rs.map dk).flatten) []:=fun r hrm i hi t t0 t1 _=>by
 have hvw:=hr r hrm i hi;obtain⟨hok,k,hk,e⟩:=iF hvw;have lt:=JT hvw;refine⟨uK (vtx r i) (nxt r i),List.mem_flatten.2 ⟨dk r,List.mem_map.2 ⟨r,hrm,rfl⟩,List.mem_map.2 ⟨i,List.mem_range.2 hi,rfl⟩⟩,bo (cR (vtx r i) (nxt r i)) (lrp (vtx r i) (nxt r i) t),?_,?_⟩
 ·rw [Hm hok];have a:=Rat.mul_pos t0 (show 0<bo (cR (vtx r i) (nxt r i)) (nxt r i)-bo (cR (vtx r i) (nxt r i)) (vtx r i) by grind);have b:=Rat.mul_pos (show 0<1-t by grind) (show 0<bo (cR (vtx r i) (nxt r i)) (nxt r i)-bo (cR (vtx r i) (nxt r i)) (vtx r i) by grind);exact⟨.inr (by show bo (cR (vtx r i) (nxt r i)) (vtx r i)<_;grind), .inr (by show _<bo (cR (vtx r i) (nxt r i)) (nxt r i);grind)⟩
 ·refine kB hok ?_;rw [e];unfold a9;simp only;grind
theorem wt {L:List Li}{f:Fg}(hf:FgG L f) (m:Li){u:Rat}(hu:InS f.2 u):(0<a8 m (atL f.1 u)→∃g∈(bM f m).1,InS g.2 u∧g.1=f.1)∧(0<a8 m.neg (atL f.1 u)→∃g∈(bM f m).2,InS g.2 u∧g.1=f.1):=by
 rw [ie hf.g hf.b hf.ok]
 have key:∀k:Li,0<a8 k (atL f.1 u)→∃g∈((dZ f.1 f.2 k).toList).map (fun s=>(f.1,s)),InS g.2 u∧g.1=f.1:=fun k hk=>by
  cases hc:dZ f.1 f.2 k with
  |none=>exact absurd ⟨hu,hk⟩ (pA hc u)
  |some w=>exact⟨(f.1,w),by simp,(dR hc u).2 ⟨hu,hk⟩,rfl⟩
 exact⟨key m,key m.neg⟩
theorem D5 {L:List Li}{rs:List (List Pq)}{l:List Fg}{c:List Li}(hl:∀f∈l,FgG L f) (h:Cov rs l c) (m:Li):Cov rs (aK l m).1 (c++[m])∧Cov rs (aK l m).2 (c++[m.neg]):=by
 constructor
 ·intro r hr i hi t t0 t1 hin;rw [dN]at hin;obtain⟨f,hf,u,hu,e⟩:=h r hr i hi t t0 t1 hin.1;obtain⟨g,hg,gu,g1⟩:=(wt (hl f hf) m hu).1 (by rw [e];exact hin.2);exact⟨g,List.mem_flatten.2 ⟨_,List.mem_map.2 ⟨f,hf,rfl⟩,hg⟩,u,gu,by rw [g1];exact e⟩
 ·intro r hr i hi t t0 t1 hin;rw [dN]at hin;obtain⟨f,hf,u,hu,e⟩:=h r hr i hi t t0 t1 hin.1;obtain⟨g,hg,gu,g1⟩:=(wt (hl f hf) m hu).2 (by rw [e];exact hin.2);exact⟨g,List.mem_flatten.2 ⟨_,List.mem_map.2 ⟨f,hf,rfl⟩,hg⟩,u,gu,by rw [g1];exact e⟩
def kL (inn:Pq→Bool):Nat→List Fg→List Li→List (List Li)
 |0,_,_=>[]
 |n+1,[],c=>if inn ((ci c).getD (0,0))then [c]else []
 |n+1,f::l,c=>kL inn n (aK (f::l) f.1).1 (c++[f.1])++kL inn n (aK (f::l) f.1).2 (c++[f.1.neg])
theorem yM {L:List Li}(inn:Pq→Bool){q:Pq}(hq:Off L q):∀(n:Nat) (l:List Fg) (c:List Li),(∀f∈l,FgG L f)→Inn c q→atT (gg inn n l c) q=true→∃c'∈kL inn n l c,Inn c' q
 |0,_,_,_,_,h=>by unfold gg at h;cases h
 |n+1,[],c,_,hc,h=>by
  unfold gg at h;unfold kL;have h:inn ((ci c).getD (0,0))=true:=h;rw [if_pos h];exact⟨c,List.mem_singleton.2 rfl,hc⟩
 |n+1,f::l,c,hl,hc,h=>by
  unfold gg at h;unfold kL;have h:(if 0<a8 f.1 q then atT (gg inn n (aK (f::l) f.1).1 (c++[f.1])) q else atT (gg inn n (aK (f::l) f.1).2 (c++[f.1.neg])) q)=true:=h;have h0:=hq f.1 (hl f Ms).mem;obtain⟨g1,g2⟩:=qO (m:=f.1) hl;by_cases k:0<a8 f.1 q
  ·rw [if_pos k]at h;obtain⟨c',a,b⟩:=yM inn hq n _ _ g1 (by rw [dN];exact⟨hc,k⟩) h;exact⟨c',List.mem_append_left _ a,b⟩
  ·rw [if_neg k]at h;obtain⟨c',a,b⟩:=yM inn hq n _ _ g2 (by rw [dN];exact⟨hc,by rw [cA];grind⟩) h;exact⟨c',List.mem_append_right _ a,b⟩
theorem uR {L:List Li}(inn:Pq→Bool){rs:List (List Pq)}:∀(n:Nat) (l:List Fg) (c:List Li),(∀f∈l,FgG L f)→(∀m∈c,m.ok)→Cov rs l c→∀c'∈kL inn n l c,Cov rs [] c'∧(∀m∈c',m.ok)∧inn ((ci c').getD (0,0))=true
 |0,_,_,_,_,_,c',h=>by unfold kL at h;cases h
 |n+1,[],c,_,hc,hv,c',h=>by
  unfold kL at h;split at h
  ·rename_i k;rw [List.mem_singleton.1 h];exact⟨hv,hc,k⟩
  ·cases h
 |n+1,f::l,c,hl,hc,hv,c',h=>by
  unfold kL at h;have hok:=(hl f Ms).ok;obtain⟨g1,g2⟩:=qO (m:=f.1) hl;obtain⟨v1,v2⟩:=D5 hl hv f.1;rcases List.mem_append.1 h with h|h
  ·exact uR inn n _ _ g1 (gY hc hok) v1 c' h
  ·exact uR inn n _ _ g2 (gY hc (Li.ok.neg hok)) v2 c' h
theorem I5 {rs:List (List Pq)}{c:List Li}(h:Cov rs [] c){r:List Pq}(hr:r∈rs):pH r c:=fun i hi t t0 t1 hin=>by
 have op:∀t:Rat,0<t→t<1→¬Inn c (lrp (vtx r i) (nxt r i) t):=fun t t0 t1 hin=>by
  obtain⟨f,hf,_⟩:=h r hr i hi t t0 t1 hin;cases hf
 by_cases a:0<t
 ·by_cases b:t<1
  ·exact op t a b hin
  ·have e:t=1:=by grind
   subst e;rw [o5]at hin;obtain⟨e,e0,he⟩:=ol ((vtx r i).1-(nxt r i).1,(vtx r i).2-(nxt r i).2) hin
   have s:∃s:Rat,0<s∧s≤e∧s<1:=by
    by_cases k:e<1
    ·exact⟨e,e0,Rat.le_refl,k⟩
    ·exact⟨1/2,by grind,by grind,by grind⟩
   obtain⟨s,s0,s1,s2⟩:=s;have:=he s s0 s1;refine op (1-s) (by grind) (by grind) ?_;have e2:lrp (vtx r i) (nxt r i) (1-s)=bO (nxt r i) s ((vtx r i).1-(nxt r i).1,(vtx r i).2-(nxt r i).2):=by unfold lrp bO;ext <;> simp only <;> grind
   rw [e2];exact this
 ·have e:t=0:=by grind
  subst e;rw [kO]at hin;obtain⟨e,e0,he⟩:=ol ((nxt r i).1-(vtx r i).1,(nxt r i).2-(vtx r i).2) hin
  have s:∃s:Rat,0<s∧s≤e∧s<1:=by
   by_cases k:e<1
   ·exact⟨e,e0,Rat.le_refl,k⟩
   ·exact⟨1/2,by grind,by grind,by grind⟩
  obtain⟨s,s0,s1,s2⟩:=s;exact op s s0 s2 (he s s0 s1)
theorem EM (rs:List (List Pq)) (p:Pq) (h:∀r∈rs,gj r p=0):∀n:Int,rs.foldl (fun n r=>n+gj r p) n=n:=by
 induction rs with
 |nil=>intro n;rfl
 |cons r rs ih =>
  intro n;rw [List.foldl_cons,h r Ms,ih fun x hx=>h x (Mc hx)];omega
theorem Fj {L:List Li}{rs:List (List Pq)}{fill:Int}(hr:∀r∈rs,sQ r){n:Nat}(hl:∀f∈(rs.map dk).flatten,FgG L f){c:List Li}(hc:c∈kL (inR rs fill) n ((rs.map dk).flatten) []) (hq:∃q,Inn c q){d:Pq}(hd:nz d):¬ye c d:=fun ho=>by
 obtain⟨hv,hok,hi⟩:=uR (inR rs fill) n _ [] hl ET (D4 hr) c hc;obtain⟨p,hp⟩:=Option.isSome_iff_exists.1 ((pS hok).2 hq);have hin:=rW hok hp;rw [hp,Option.getD_some]at hi;unfold inR at hi;rw [EM rs p (fun r hrm=>EO (hr r hrm) (I5 hv hrm) hd ho hin)]at hi;unfold J1 at hi;split at hi <;> exact absurd hi (by decide)
theorem BZ {L:List Li}(hL:∀l∈L,l.ok){rs:List (List Pq)}{fill:Int}(hr:∀r∈rs,sQ r){n:Nat}(hl:∀f∈(rs.map dk).flatten,FgG L f) (hg:(gg (inR rs fill) n ((rs.map dk).flatten) []).lin L) :
  ∀x∈aN (cG (gg (inR rs fill) n ((rs.map dk).flatten) []) []) [],x.2=true→bndP x.1=true:=fun x hx hx2=>by
 have hT:Gd L (cG (gg (inR rs fill) n ((rs.map dk).flatten) []) []):=Gd.restr hL hg;have hTl:=ke hL hT.1;obtain⟨j,hj⟩:=List.mem_iff_getElem?.1 hx;obtain⟨z,_,hcr⟩:=(Hl hTl hT.2).left hx;cases hb:bndP x.1 with
 |true=>rfl
 |false =>
  exfalso;obtain⟨d,hd,ho⟩:=(rA hcr.p).1 hb;obtain⟨q,hq⟩:=hcr.p.inn;obtain⟨r,h1,h2⟩:=pc L hL hq;obtain⟨N,hN⟩:=Ao (d:=d) h2
  obtain⟨c,hc,hco⟩:=Ji (L:=kL (inR rs fill) n ((rs.map dk).flatten) []) (P:=fun c k=>Inn c (bO r (k:Rat) d)) (fun M=>by
   have hoff:=hN (max N M) (Nat.le_max_left _ _);have hin:=xg h1 ho (t:=((max N M:Nat):Rat)) (by exact_mod_cast Nat.zero_le _);have ha:=IS hTl hT.2 hj hin;rw [hx2,C0 hL hg hoff]at ha;obtain⟨c,hc,hi⟩:=yM (inR rs fill) hoff n _ [] hl (lO _) ha;exact⟨max N M,Nat.le_max_right _ _,c,hc,hi⟩)
  obtain⟨k,_,hk⟩:=hco 0;exact Fj hr hl hc ⟨_,hk⟩ hd (E8 hco)
def yi (t:Tr):Prop:=∃L:List Li,L.length≤12∧(∀l∈L,l.sm)∧Gd L t∧(inC t).all bndP=true
abbrev bddR:SV:=ex fun t:{t:Tr // yi t}=>rt t.1
theorem H5 {r:List Pq}(h:iu r):sQ r:=fun i hi=>(yJ h hi).2.2
theorem D9 {rs:List (List Pq)}{fill:Int}(hrl:rs.length≤2) (hrs:∀r∈rs,iu r):yi (cG (gg (inR rs fill) 20000 ((rs.map dk).flatten) []) []):=by
 have hLl:=iE rs hrs;have hL:=vw hrs;have hlen:((rs.map dk).flatten).length≤12:=by have:=hLl;unfold gL at this;rw [List.length_map]at this;omega
 have hfw:∀f∈(rs.map dk).flatten,FgG (gL rs) f:=fun f hf=>by
  obtain⟨e,he,hfe⟩:=List.mem_flatten.1 hf;obtain⟨r,hr,rfl⟩:=List.mem_map.1 he;exact(vQ (hrs r hr) f hfe).2.2 _ (List.mem_map.2 ⟨f,hf,rfl⟩)
 have hphi:fM (gL rs) (rs.map dk).flatten≤12*13:=Nat.le_trans (uX _ _) (Nat.mul_le_mul hlen om);obtain⟨_,_,z3⟩:=lG (inR rs fill) 20000 ((rs.map dk).flatten) [] hfw om;refine⟨gL rs,om,hL,Gd.restr (yt hL) z3,?_⟩;rw [List.all_eq_true];intro c hc;obtain⟨x,hx,rfl⟩:=List.mem_map.1 hc;obtain⟨h1,h2⟩:=List.mem_filter.1 hx;exact BZ (yt hL) (fun r hr=>H5 (hrs r hr)) hfw z3 x h1 h2
theorem GM (zs:List Int) (hz:zs.length≤400):PuT 37 zs [] bddR:=by
 have key:∀(rs:List (List Pq)) (fill:Int),rs≠[]→rs.length≤2→(∀r∈rs,iu r)→(fill=1∨fill=2)→Pu Tryz.prog 87 [sL rs] (Dg rs)∧Pu Tryz.prog 86 [Dg rs,lit (.int .i64 fill)] (rgR rs fill (pu (gL rs)))∧Pu Tryz.prog 85 [rgR rs fill (pu (gL rs))] (rt (cG (gg (inR rs fill) 20000 ((rs.map dk).flatten) []) [])):=fun rs fill h0 hl hr hf =>
  ⟨uS rs om hr,GZ fill h0 om hr,C6 hf om hr⟩
 have fin:∀(rs:List (List Pq)) (fill:Int),rs.length≤2→(∀r∈rs,iu r)→Le (rt (cG (gg (inR rs fill) 20000 ((rs.map dk).flatten) []) [])) bddR:=fun rs fill hl hr=>by
  exact Le.ex (f:=fun t:{t:Tr // yi t}=>rt t.1) ⟨_,D9 hl hr⟩ Lr
 refine PuM.intro Tryz.func37 rfl kr fun C b=>?_
 repeat(refine A1 ⟨?_⟩;intros)
 refine Wtx (wn zs hz) mmA fun r=>?_
 obtain⟨r,hr⟩:=r;simp only [];refine Wo (iB (s:=rps r) (ds:=[rps r]) rfl inferInstance) ?_;repeat(refine A1 ⟨?_⟩;intros)
 refine Wtx (eF zs hz 3 om om) mmA fun k=>?_
 obtain⟨k,hk⟩:=k;simp only [];by_cases hk0:k=0
 ·subst hk0;repeat(refine A1 ⟨?_⟩;intros)
  refine Wtx (wn zs hz) mmA fun q=>?_
  obtain⟨q,hq⟩:=q;simp only [];refine Wo (cg (r:=[(0,[rps q])]) (cs:=[rps q]) (.cons (sv:=rps q) rfl inferInstance .nil)) ?_;refine Wo (aG (k:=1) (k0:=1) (ds:=[rps q]) rfl rfl rfl rfl om) ?_
  have hrs:∀x∈[r,q],iu x:=fun x hx=>by
   rcases List.mem_cons.1 hx with h|h
   ·rw [h];exact hr
   ·rw [List.mem_singleton.1 h];exact hq
  have ca:=uS [r,q] (by simp) hrs;repeat(first|(refine A1 ⟨?_⟩;intros)|refine W4 ca ⟨?_⟩)
  refine Wtx (eF zs hz 2 om om) mmA fun k=>?_
  obtain⟨k,hk⟩:=k;simp only [];have hf:(1+(k:Int))=1∨(1+(k:Int))=2:=by omega
  obtain⟨_,c1,c2⟩:=key [r,q] (1+(k:Int)) (by simp) (by simp) hrs hf;have hfin:=fin [r,q] (1+(k:Int)) (by simp) hrs;repeat(first|(refine A1 ⟨?_⟩;intros)|refine W4 c1 ⟨?_⟩|refine W4 c2 ⟨?_⟩)
  exact fh () _ (aJ (RV.tmp rfl) hfin) mmA (LeL.refl _)
 ·repeat(refine A1 ⟨?_⟩;intros)
  have hrs:∀x∈[r],iu x:=fun x hx=>by rw [List.mem_singleton.1 hx];exact hr
  have ca:=(uS [r] (by simp) hrs).arg (l':=[xsl [rps r] 1]) ⟨rO,trivial⟩;repeat(first|(refine A1 ⟨?_⟩;intros)|refine W4 ca ⟨?_⟩)
  refine Wtx (eF zs hz 2 om om) mmA fun k=>?_
  obtain⟨k,hk⟩:=k;simp only [];have hf:(1+(k:Int))=1∨(1+(k:Int))=2:=by omega
  obtain⟨_,c1,c2⟩:=key [r] (1+(k:Int)) (by simp) (by simp) hrs hf;have hfin:=fin [r] (1+(k:Int)) (by simp) hrs;repeat(first|(refine A1 ⟨?_⟩;intros)|refine W4 c1 ⟨?_⟩|refine W4 c2 ⟨?_⟩)
  exact fh () _ (aJ (RV.tmp rfl) hfin) mmA (LeL.refl _)
theorem kI:∀t:Tr,t.size=iO t
 | .leaf _=>rfl
 | .node l a b=>by rw [Tr.size_node,kI a,kI b];rfl
theorem DD (zs:List Int) (hz:zs.length≤400):PuT 12 zs [lit (.int .i64 0)] bddR:=by
 have c:=GM zs hz;refine PuM.intro Tryz.func12 rfl kr fun C b=>?_
 repeat(refine A1 ⟨?_⟩;intros)
 refine Wtx c mmA fun t=>?_
 repeat(refine A1 ⟨?_⟩;intros)
 exact fh () _ (aJ (RV.tmp rfl) (Le.ex (f:=fun t:{t:Tr // yi t}=>rt t.1) t Lr)) mmA (LeL.refl _)
theorem JE {E:List (Pq×Pq)}{h:Nat}(hl:E.length≤1884) (hh:∀e∈E,hp e.1 h∧hp e.2 h) (i:Nat):ht (fC (fun e=>a9 e.1 e.2) E i)≤1+1884*(4*h+4)∧ht (fC (fun e=>(e.1.1+e.2.1)*a9 e.1 e.2) E i)≤1+1884*(6*h+6)∧ht (fC (fun e=>(e.1.2+e.2.2)*a9 e.1 e.2) E i)≤1+1884*(6*h+6):=by
 have hg:∀e∈E,ht (a9 e.1 e.2)≤4*h+3∧ht ((e.1.1+e.2.1)*a9 e.1 e.2)≤6*h+5∧ht ((e.1.2+e.2.2)*a9 e.1 e.2)≤6*h+5:=fun e he=>by
  obtain⟨⟨a,b⟩,c,d⟩:=hh e he;have h1:=kX (hh e he).1 (hh e he).2;have h2:=aI e.1.1 e.2.1;have h3:=aI e.1.2 e.2.2;have h4:=ae (e.1.1+e.2.1) (a9 e.1 e.2);have h5:=ae (e.1.2+e.2.2) (a9 e.1 e.2);omega
 have hS:=i7 (f:=fun e=>a9 e.1 e.2) (fun e he=>(hg e he).1) i;have hT:=i7 (f:=fun e=>(e.1.1+e.2.1)*a9 e.1 e.2) (fun e he=>(hg e he).2.1) i;have hU:=i7 (f:=fun e=>(e.1.2+e.2.2)*a9 e.1 e.2) (fun e he=>(hg e he).2.2) i;have m1:E.length*(4*h+3+1)≤1884*(4*h+4):=Nat.mul_le_mul_right _ hl;have m2:E.length*(6*h+5+1)≤1884*(6*h+6):=Nat.mul_le_mul_right _ hl;omega
theorem KB {t:Tr}(h:ArT t) (h1:t.all fun l=>l.le 1):ht (bw t)≤100000∧ht (eW t).1≤100000∧ht (eW t).2≤100000:=by
 obtain⟨hl,_⟩:=h.edges
 have hh:∀e∈aj (inC t),hp e.1 3∧hp e.2 3:=uh (L:=1) fun c hc s hs=>by
  obtain⟨x,hx,rfl⟩:=List.mem_map.1 hc;exact((lJ (L:=1) om t [] h1 (fun s hs=>by cases hs) x (List.mem_filter.1 hx).1).1 s hs).1
 obtain⟨a,b,c⟩:=JE hl hh (aj (inC t)).length;have e0:fC (fun e=>a9 e.1 e.2) (aj (inC t)) (aj (inC t)).length=cw ar2 (inC t):=by unfold fC;rw [List.take_length];exact h.area
 have e1:fC (fun e=>(e.1.1+e.2.1)*a9 e.1 e.2) (aj (inC t)) (aj (inC t)).length=cw mx6 (inC t):=by unfold fC;rw [List.take_length];exact vj (jq h.lok) h.bnd
 have e2:fC (fun e=>(e.1.2+e.2.2)*a9 e.1 e.2) (aj (inC t)) (aj (inC t)).length=cw my6 (inC t):=by unfold fC;rw [List.take_length];exact vi (jq h.lok) h.bnd
 rw [e0]at a;rw [e1]at b;rw [e2]at c;have h6:=Kt;have k1:=iJ (cw ar2 (inC t)) 2;have k2:ht (2:Rat)≤1:=eM 2 om;have k3:=ae (cw mx6 (inC t)) (1/6);have k4:=ae (cw my6 (inC t)) (1/6);have k5:=kh (bw t);have k6:=ae (gI t).1 (bw t)⁻¹;have k7:=ae (gI t).2 (bw t)⁻¹;have g1:ht (bw t)≤1+1884*16+3:=by show ht (cw ar2 (inC t)/2)≤_;omega
 have g2:ht (gI t).1≤1+1884*24+2:=by show ht (cw mx6 (inC t)*(1/6))≤_;omega
 have g3:ht (gI t).2≤1+1884*24+2:=by show ht (cw my6 (inC t)*(1/6))≤_;omega
 refine⟨om,?_,?_⟩
 ·show ht ((gI t).1*(bw t)⁻¹)≤_;omega
 ·show ht ((gI t).2*(bw t)⁻¹)≤_;omega
theorem qo {p q:Li→Prop}(hpq:∀l,p l→q l):∀{t:Tr},t.all p→t.all q
 | .leaf _,_=>trivial
 | .node _ _ _,h=>⟨hpq _ h.1,qo hpq h.2.1,qo hpq h.2.2⟩
theorem zq:∀{t:Tr},t.lok→(t.all fun l=>l.le 16)→t.all fun l=>l.ok∧l.le 100000
 | .leaf _,_,_=>trivial
 | .node _ _ _,h,k=>⟨⟨h.1,k.1.to om⟩,zq h.2.1 k.2.1,zq h.2.2 k.2.2⟩
theorem yi.ar {t:Tr}(h:yi t):ArT t∧t.all (fun l=>l.le 1)∧Prp t (Inn [])∧t.all fun l=>l.ok∧l.le 1:=by
 obtain⟨L,x1,x2,x3,x4⟩:=h;have ho:=yt x2;have hs:=x3.size ho;have hm:L.length*(1+L.length)≤12*13:=Nat.mul_le_mul x1 om;refine⟨⟨ke ho x3.1,Tr.lin.all (fun l hl=>(x2 l hl).2.to om) x3.1,Nat.le_trans x3.dep x1,om,x4⟩,Tr.lin.all (fun l hl=>(x2 l hl).2) x3.1,x3.2,Tr.lin.all (fun l hl=>x2 l hl) x3.1⟩
theorem zX {m:M6 Rat}(hd:m.det≠0) (hm:m.le 1):∀{t:Tr},(t.all fun l=>l.ok∧l.le 1)→((t.im m).all fun l=>l.le 16)
 | .leaf _,_=>trivial
 | .node _ _ _,h=>⟨Li.im_le16 hd h.1.1 hm h.1.2,zX hd hm h.2.1,zX hd hm h.2.2⟩
theorem yi.im {m:M6 Rat}{t:Tr}(hd:m.det≠0) (hm:m.le 1) (h:yi t):ArT (t.im m)∧F2 (ImP m) (inC t) (inC (t.im m)):=by
 obtain⟨a,b,c,d⟩:=h.ar;have f:=Kr hd a.lok c;have sx:iO (t.im m)=iO t:=by rw [←kI,←kI,Tr.im_size]
 exact⟨⟨rM hd a.lok,zX hd hm d,by rw [zz];exact a.dep,by rw [sx];exact a.size,by rw [KD f];exact a.bnd⟩,f⟩
theorem FJ {m:M6 Rat}{l l':List PC}(h:F2 (ImP m) l l'):l=[]↔l'=[]:=by
 cases h with
 |nil=>exact Iff.rfl
 |cons _ _=>simp
theorem J2 {m:M6 Rat}(h:m.det≠0):ic m≠0:=by
 unfold ic;split
 ·intro e;exact h (by grind)
 ·exact h
theorem Bu {m:M6 Rat}{t:Tr}(h:ArT t) (f:F2 (ImP m) (inC t) (inC (t.im m))):bw (t.im m)=ic m*bw t:=by
 obtain⟨s1,_,_⟩:=A8 f (fun c hc=>(jq h.lok c hc).2) h.bnd;show cw ar2 (inC (t.im m))/2=ic m*(cw ar2 (inC t)/2)
 rw [s1];grind
theorem KA {m:M6 Rat}{t:Tr}(hd:m.det≠0) (h:ArT t) (hn:inC t≠[]) (f:F2 (ImP m) (inC t) (inC (t.im m))):eW (t.im m)=(m.a*(eW t).1+m.b*(eW t).2+m.c,m.d*(eW t).1+m.e*(eW t).2+m.f):=by
 obtain⟨s1,s2,s3⟩:=A8 f (fun c hc=>(jq h.lok c hc).2) h.bnd;have hA:=h.pos hn;have hD:=J2 hd;have ea:=Bu h f;unfold eW;rw [ea];show(cw mx6 (inC (t.im m))*(1/6)*(ic m*bw t)⁻¹,cw my6 (inC (t.im m))*(1/6)*(ic m*bw t)⁻¹)=(m.a*(cw mx6 (inC t)*(1/6)*(bw t)⁻¹)+m.b*(cw my6 (inC t)*(1/6)*(bw t)⁻¹)+m.c,m.d*(cw mx6 (inC t)*(1/6)*(bw t)⁻¹)+m.e*(cw my6 (inC t)*(1/6)*(bw t)⁻¹)+m.f)
 rw [s2,s3,Rat.inv_mul_rev];have e1:bw t*(bw t)⁻¹=1:=Rat.mul_inv_cancel _ (by show cw ar2 (inC t)/2≠0;grind);have e2:ic m*(ic m)⁻¹=1:=Rat.mul_inv_cancel _ hD;have e3:cw ar2 (inC t)=2*bw t:=by show _=2*(cw ar2 (inC t)/2);grind
 rw [e3];generalize bw t=a at *;generalize(ic m)⁻¹=j at *;generalize ic m=d at *;generalize a⁻¹=i at *;generalize cw mx6 (inC t)=x at *;generalize cw my6 (inC t)=y at *
 have key:∀u v w:Rat,d*(u*x+v*y+3*w*(2*a))*(1/6)*(i*j)=u*(x*(1/6)*i)+v*(y*(1/6)*i)+w:=fun u v w=>by
  have:d*(u*x+v*y+3*w*(2*a))*(1/6)*(i*j)=(d*j)*(u*(x*(1/6)*i)+v*(y*(1/6)*i)+w*(a*i)):=by grind
  rw [this,e1,e2];grind
 rw [key,key]
theorem Gt {m:M6 Rat}(h:m.le 100000){x y:Rat}(hx:ht x≤100000) (hy:ht y≤100000):Pu Tryz.prog 21 [mq m,pq x y] (pq (m.a*x+m.b*y+m.c) (m.d*x+m.e*y+m.f)):=by
 have c1:=Ju h;have c2:=Ei x y hx hy;have c3:=ur h om x y hx hy;obtain⟨ha,hb,hc,hd,he,hf⟩:=h;have h1:=ae m.a x;have h2:=ae m.b y;have h3:=ae m.d x;have h4:=ae m.e y;have h5:=aI (m.a*x) (m.b*y);have h6:=aI (m.d*x) (m.e*y);have h7:=aI (m.a*x+m.b*y) m.c;have h8:=aI (m.d*x+m.e*y) m.f;have c4:=uY (m.a*x+m.b*y+m.c) (m.d*x+m.e*y+m.f) om om;clear h1 h2 h3 h4 h5 h6 h7 h8 ha hb hc hd he hf hx hy;generalize m.a*x+m.b*y+m.c=u at *;generalize m.d*x+m.e*y+m.f=v at *;refine Pi Tryz.func21 fun C=>?_
 repeat(first|(refine A1 ⟨?_⟩;intros)|refine W4 c1 ⟨?_⟩|refine W4 c2 ⟨?_⟩|refine W4 c3 ⟨?_⟩|refine W4 c4 ⟨?_⟩)
 exact G1
theorem Jh (x:Rat) (h:ht x≤900000):Pu Tryz.prog 18 [q x] (rq x):=by
 have:=H9 (RQ.of_ok h) om;rwa [RQ.of_v]at this
set_option maxRecDepth 20000 in
theorem Gi [J6 1] (zs:List Int) (hz:zs.length≤9223372036854775807):Pu Tryz.prog 3 [nsl .i64 zs] (lit (.bool true)):=by
 have hk:(zs.take (min zs.length 400)).length≤400:=by simp;omega
 have hnew:=Kh zs hz;generalize zs.take (min zs.length 400)=ys at *;have hmap:=GK ys hk;have hreg:=DD ys hk;clear hz;refine Pi Tryz.func3 fun C=>?_
 repeat(refine A1 ⟨?_⟩;intros)
 refine WPL.callN hnew rfl rfl fun bb=>?_
 repeat(refine A1 ⟨?_⟩;intros)
 refine Wtx hmap mmA fun ma=>?_
 obtain⟨m,hm⟩:=ma;simp only [];have c5:=Ig (hm.le_mono (L':=30) om) om;rw [show m.a*m.e-m.b*m.d=m.det by unfold M6.det;grind]at c5;have hd:=M6.det_ht hm;have c6:=kD m.det om;by_cases hz:m.det=0
 ·have hs:m.det.num.sign=0:=by rw [hz];rfl
  rw [hs]at c6;clear hd;exact Y3 c5 c6 vD
 ·have c1:=BA hm om;have c7:=iP m.det om
  have hsg:(m.det.num.sign = -1∧ic m = -m.det)∨(m.det.num.sign=1∧ic m=m.det):=by
   unfold ic;by_cases hn:m.det<0
   ·refine .inl ⟨Int.sign_eq_neg_one_of_neg ?_,if_pos hn⟩;have:=(Rat.num_nonneg (q:=m.det)).1;apply Classical.byContradiction;intro h;have:=this om;grind
   ·refine .inr ⟨Int.sign_eq_one_of_pos ?_,if_neg hn⟩;have h1:=Rat.num_eq_zero (q:=m.det);have h2:=(Rat.num_nonneg (q:=m.det)).2 (by grind);have:m.det.num≠0:=fun e=>hz (h1.1 e)
    omega
  have hda:ht (ic m)≤7:=by
   rcases hsg with⟨_,e⟩|⟨_,e⟩ <;> rw [e]
   ·rw [ck];omega
   ·omega
  rcases hsg with⟨hs,ha⟩|⟨hs,ha⟩
  all_goals
   rw [hs]at c6;rw [ha]at hda;repeat(first|(refine A1 ⟨?_⟩;intros)|refine W4 c5 ⟨?_⟩|refine W4 c6 ⟨?_⟩|refine W4 c1 ⟨?_⟩)
   refine Wtx hreg mmA fun x=>?_
   obtain⟨t,hb⟩:=x;simp only [];obtain⟨h1,g1,g2,g3⟩:=hb.ar;obtain⟨h2,f⟩:=hb.im hz hm;obtain⟨k1,k2,k3⟩:=KB h1 g1;have hsz:=h1.size;have w1:=BR t (qo (fun l h=>h.to om) g1) (by rw [kI];omega);have d2:=J3 hm om om hz g3 (by rw [kI];omega);have o1:=zU t (qo (fun l h=>⟨h.1,h.2.to om⟩) g3) (by rw [kI];omega);have o2:=zU (t.im m) (zq (rM hz h1.lok) h2.le) (by rw [kI];have:=h2.size;omega);have a1:=xx h1 o1;have a2:=xx h2 o2;have k4:=h2.area_ht;rw [Bu h1 f]at a2 k4;have q1:=Jh (bw t) om;have q2:=Jh _ (Nat.le_trans k4 (show 260000≤900000 by omega));have t1:=aX _ (bw t) (Nat.le_trans hda (show 7≤3000000 by omega)) om;have e9:=congrArg (fun x:Rat=>x*bw t) ha.symm;rw [e9]at t1;clear e9;have r1:=gT _ _ (Nat.le_trans k4 (show 260000≤3000000 by omega)) (Nat.le_trans k4 (show 260000≤3000000 by omega));rw [Rat.sub_self,show((0:Rat).num.sign:Int)=0 from rfl]at r1;by_cases hn:inC t=[]
   ·have e1:=F7 h1 hn o1;have e2:=F7 h2 ((FJ f).1 hn) o2;clear h1 h2 hb g1 g2 g3 f k1 k2 k3 k4 hsz hn o1 o2 hd hda ha hs hz;generalize ic m*bw t=B at *;generalize bw t=A at *;generalize t.im m=t' at *;clear hreg hnew hmap;repeat(first|(refine A1 ⟨?_⟩;intros)|refine W4 w1 ⟨?_⟩|refine W4 d2 ⟨?_⟩|refine W4 a1 ⟨?_⟩|refine W4 a2 ⟨?_⟩|refine W4 c5 ⟨?_⟩|refine W4 c6 ⟨?_⟩|refine W4 c7 ⟨?_⟩)
    refine cZ (q1) ?_;repeat(refine A1 ⟨?_⟩;intros)
    refine cZ (t1) ?_;repeat(refine A1 ⟨?_⟩;intros)
    refine cZ (q2) ?_;repeat(refine A1 ⟨?_⟩;intros)
    refine cZ (r1) ?_;repeat(refine A1 ⟨?_⟩;intros)
    refine Wcx (e1) ?_;repeat(refine A1 ⟨?_⟩;intros)
    refine Wcx (e2) ?_;repeat(first|(refine AS ⟨?_⟩;intros)|(refine O1 ⟨?_⟩;intros))
    refine WdN 19 ?_;exact Y1 vD
   ·have e1:=AT h1 hn o1;have e2:=AT h2 (fun e=>hn ((FJ f).2 e)) o2;rw [KA hz h1 hn f]at e2;have ap:=Gt (hm.le_mono (L':=100000) om) k2 k3;obtain⟨ma,mb,mc,md,me,mf'⟩:=hm;have m1:=ae m.a (eW t).1;have m2:=ae m.b (eW t).2;have m3:=ae m.d (eW t).1;have m4:=ae m.e (eW t).2;have m5:=aI (m.a*(eW t).1) (m.b*(eW t).2);have m6:=aI (m.d*(eW t).1) (m.e*(eW t).2);have m7:=aI (m.a*(eW t).1+m.b*(eW t).2) m.c;have m8:=aI (m.d*(eW t).1+m.e*(eW t).2) m.f;have sp:=wA (m.a*(eW t).1+m.b*(eW t).2+m.c) (m.d*(eW t).1+m.e*(eW t).2+m.f) om om;clear h1 h2 hb g1 g2 g3 f k1 k2 k3 k4 hsz hn o1 o2 hd hda ha hs hz ma mb mc md me mf' m1 m2 m3 m4 m5 m6 m7 m8;simp only at e2;generalize m.a*(eW t).1+m.b*(eW t).2+m.c=u at *;generalize m.d*(eW t).1+m.e*(eW t).2+m.f=v at *;generalize(eW t).1=x1 at *;generalize(eW t).2=x2 at *;generalize ic m*bw t=B at *;generalize bw t=A at *;generalize t.im m=t' at *;clear hreg hnew hmap;repeat(first|(refine A1 ⟨?_⟩;intros)|refine W4 w1 ⟨?_⟩|refine W4 d2 ⟨?_⟩|refine W4 a1 ⟨?_⟩|refine W4 a2 ⟨?_⟩|refine W4 c5 ⟨?_⟩|refine W4 c6 ⟨?_⟩|refine W4 c7 ⟨?_⟩)
    refine cZ (q1) ?_;repeat(refine A1 ⟨?_⟩;intros)
    refine cZ (t1) ?_;repeat(refine A1 ⟨?_⟩;intros)
    refine cZ (q2) ?_;repeat(refine A1 ⟨?_⟩;intros)
    refine cZ (r1) ?_;repeat(refine A1 ⟨?_⟩;intros)
    refine Wcx (e1) ?_;repeat(refine A1 ⟨?_⟩;intros)
    refine Wcx (e2) ?_;repeat(first|(refine AS ⟨?_⟩;intros)|(refine O1 ⟨?_⟩;intros))
    refine WdN 19 ?_;exact Y3 vD ap sp
open Go.ChangeShapes Go.WideShapes Go.ChangeAt Go.RowKit
section
variable {H:Type}{enc:TypeId×Value→H}{P:Program}{w:World}{sp:Nat→Bool}{held:Bool}
def pR (w:World):Mem:=fun b=>w.heap[b]?
theorem F4 (w:World) (h:Base.mem.le (pR w)):aU (pR w) w:=⟨fun _ _ h=>h,h⟩
def Opn (enc:TypeId×Value→H) (P:Program) (w:World) (sp:Nat→Bool) (held:Bool) (T:TypeId) (G:List SV→Prop):Prop :=
 ∀fuel cs x,DataW.trod enc P w 0 sp held fuel T cs=some x→∃svs,G svs∧az (pR w) svs cs
def GInt (k:IntKind):List SV→Prop:=fun l=>∃n,(Lit.int k n).wf=true∧l=[lit (.int k n)]
def LF (k:IntKind):List SV→Prop:=fun l=>∃zs:List Int,(∀z∈zs,(Lit.int k z).wf=true)∧zs.length≤maxLen∧l=[nsl k zs]
def GSl (k:Nat) (G:List SV→Prop):List SV→Prop:=fun l=>∃es:List (List SV),(∀e∈es,G e∧e.length=k)∧es.length≤maxLen∧l=[sl es.flatten es.length]
theorem sH {m:Mem}{s:SV}{v:Value}(h:s.p m v) (f:v.oneCell'=true):az m [s] [v]:=⟨⟨h,f⟩,trivial⟩
theorem HZ {T:TypeId}{k:IntKind} [hT:TIn P T k]:Opn enc P w sp held T (GInt k):=fun fuel cs x h=>by
 obtain⟨n,rfl,_,hw⟩:=DataW.trod_int hT.h h;exact⟨_,⟨n,hw,rfl⟩,sH (aq.2 rfl) rfl⟩
theorem m9 {a:Addr}{n:Nat}{cs:List Value}(h:w.cells? 0 a n=some cs):cs.length=n∧∀j,j<n→w.cell? (a.add j)=cs[j]?:=by
 unfold World.cells? at h;rw [if_pos (Nat.zero_le _)]at h;have hl:=mapM_some_length h;refine⟨by simpa using hl,fun j hj=>?_⟩;have:=mapM_some_get h j j (by simp [hj]);simpa using this
theorem s7 {m:Mem}{f:Nat→List SV}{k:Nat}{vs:List Value}:∀{n:Nat},(∀i,i<n→(f i).length=k∧az m (f i) ((vs.drop (i*k)).take k))→az m ((List.range n).map f).flatten (vs.take (n*k))
 |0,_=>by simp [az]
 |n+1,h=>by
  have h1:=s7 (n:=n) fun i hi=>h i om
  have h2:=(h n om).2;have:=h1.append h2;rw [List.range_succ,List.map_append,List.flatten_append,show(n+1)*k=n*k+k from by rw [Nat.add_mul,Nat.one_mul],List.take_add];simpa using this
theorem Co {T e:TypeId}{k:Nat}{G:List SV→Prop} [hT:TSl P T e] (hk:P.cellsOf e=k) (hk0:0<k) (hG:Opn enc P w sp held e G):Opn enc P w sp held T (GSl k G):=fun fuel cs x h=>by
 rcases Deep.open_slice hT.h h with⟨rfl,_⟩|⟨a,len,cap,m,n,Dd,Pl,rfl,_,hlc,hcm,hm,_,hx⟩
 ·exact⟨_,⟨[],by simp,by simp,rfl⟩,sH (f4 (by simp) (by simp [maxLen]) (.inl rfl)) rfl⟩
 ·have hlm:len≤m:=by rw [hm];split <;> omega
  have hcell:∀i,i<len→∃l,G l∧l.length=k∧∃cs',w.cells? 0 (a.add (i*k)) k=some cs'∧az (pR w) l cs':=fun i hi=>by
   obtain⟨cs',h1,h2⟩:=hx i om;rw [hk]at h1;obtain⟨l,g1,g2⟩:=hG _ _ _ h2;exact⟨l,g1,by rw [←g2.length,(m9 h1).1],cs',h1,g2⟩
  have hch:∀i:Nat,∃l,i<len→G l∧l.length=k∧∃cs',w.cells? 0 (a.add (i*k)) k=some cs'∧az (pR w) l cs':=fun i=>by
   by_cases hi:i<len
   ·obtain⟨l,hl⟩:=hcell i hi;exact⟨l,fun _=>hl⟩
   ·exact⟨[],fun h=>absurd h hi⟩
  obtain⟨f,hf⟩:=Classical.axiomOfChoice hch;refine⟨_,⟨(List.range len).map f,fun l hl=>?_,by simp;omega,rfl⟩,sH (v := .slice (some a) len cap) ?_ rfl⟩
  ·obtain⟨i,hi,rfl⟩:=List.mem_map.1 hl;have:=hf i (by simpa using hi);exact⟨this.1,this.2.1⟩
  ·rw [List.length_map,List.length_range];refine f4 hlc hcm ?_;rcases Nat.eq_zero_or_pos len with h0|h0
   ·left;subst h0;rfl
   ·right;obtain⟨_,hl0,cs0,hc0,_⟩:=hf 0 h0;have hcc:=(m9 hc0).2 0 hk0;rw [Nat.zero_mul]at hcc;have hcl:=(m9 hc0).1;rw [List.getElem?_eq_getElem om]at hcc;obtain⟨b,off,spot⟩:=a;have hs:spot=none:=by simpa [Addr.add] using World.cell?_spot hcc
    subst hs;simp only [aO,Nat.add_zero]at hcc
    have hb:∃arr T fz,w.heap[b]? = some (.cells arr T fz):=by
     unfold World.cell? at hcc;cases hbb:w.heap[b]? with
     |none=>simp [hbb]at hcc
     |some o=>cases o with
      |cells arr T fz=>exact⟨arr,T,fz,rfl⟩
      |_=>simp [hbb]at hcc
    obtain⟨arr,T',fz,hb⟩:=hb;refine⟨b,off,rfl,arr,T',fz,hb,?_⟩
    have hfl:((List.range len).map f).flatten.length=len*k:=by
     have:∀n,n≤len→((List.range n).map f).flatten.length=n*k:=by
      intro n;induction n with
      |zero=>intro _;simp
      |succ n ih=>intro hn;rw [List.range_succ,List.map_append,List.flatten_append,List.length_append,ih om];simp [(hf n om).2.1,Nat.add_mul]
     exact this len (Nat.le_refl _)
    rw [hfl];refine s7 fun i hi=>?_
    obtain⟨_,hl,cs',hc,ha⟩:=hf i hi;refine⟨hl,?_⟩
    have hcs:cs'=((arr.toList.drop off).drop (i*k)).take k:=by
     obtain⟨g1,g2⟩:=m9 hc;apply List.ext_getElem?;intro j;by_cases hj:j<k
     ·have h1:=g2 j hj;simp only [aO]at h1;rw [cu w b _ arr _ _ hb]at h1;rw [List.getElem?_take_of_lt hj,List.getElem?_drop,List.getElem?_drop,←h1];simp [Nat.add_assoc]
     ·rw [List.getElem?_eq_none om,List.getElem?_eq_none (by rw [List.length_take];omega)]
    rw [←hcs];exact ha
theorem EJ {T e:TypeId}{k:IntKind} [hT:TSl P T e] [hE:TIn P e k] (hk:P.cellsOf e=1):Opn enc P w sp held T (LF k):=fun fuel cs x h=>by
 obtain⟨svs,⟨es,hes,hl,rfl⟩,ha⟩:=Co (k:=1) hk om (HZ (k:=k)) fuel cs x h;refine⟨_,?_,ha⟩
 have:∃zs:List Int,(∀z∈zs,(Lit.int k z).wf=true)∧es=zs.map fun z=>[lit (.int k z)]:=by
  clear ha hl;induction es with
  |nil=>exact⟨[],by simp,rfl⟩
  |cons e es ih =>
   obtain⟨zs,h1,h2⟩:=ih fun x hx=>hes x (by simp [hx])
   obtain⟨⟨z,hz,rfl⟩,_⟩:=hes e (by simp);exact⟨z::zs,by simpa using ⟨hz,h1⟩,by rw [h2];rfl⟩
 obtain⟨zs,h1,rfl⟩:=this;refine⟨zs,h1,by simpa using hl,?_⟩
 have hfl:(zs.map fun z=>[lit (.int k z)]).flatten=zs.map fun z=>lit (.int k z):=by
  clear hl hes ha h1;induction zs with
  |nil=>rfl
  |cons z zs ih=>simp [ih]
 rw [hfl,List.length_map];unfold nsl;rfl
end
end Go.Ab
namespace Go.Ab
open Go.Proofs
variable [Base]
open Go.ChangeShapes Go.WideShapes Go.ChangeAt Go.RowKit
theorem G7 {P:Program}{f:FuncId}{args:List SV}{W:World}{vs:List Value}(hB:Base.mem.le (pR W)) (h:Pu P f args (lit (.bool true))) (ha:bn (pR W) args vs) :
  Calls P f vs.toArray W fun e w'=>e = .returned (.bool true)∧Below W.heap.size W w':=by
 unfold Pu at h;refine(h.2 _ W vs (F4 W hB) ha).mono ?_;rintro e w' ⟨v,m',rfl,hv,_,hr⟩;rw [aq]at hv;subst hv;exact⟨rfl,hr.os,hr.tape,hr.output.1,hr.size,fun k hk=>hr.block k hk (by simp)⟩
theorem LQ:ownKnob Tryz.prog.godebug=none:=by kernel_rfl
theorem Fo:laidOutB Tryz.prog=true:=by kernel_rfl
section
variable {H:Type}{enc:TypeId×Value→H}{W:World}{sp:Nat→Bool}{held:Bool}
end
end Go.Ab
namespace Go.Ab
open Go.Proofs
variable [Base]
open Go.ChangeShapes Go.WideShapes Go.ChangeAt Go.RowKit
theorem Jd : "*" ++ "errors.errorString" = "*errors.errorString" := by decide
theorem LJ (u:TypeId) (h:(Tryz.prog).typeName? 3 u=some "*errors.errorString"):u=369 :=
 typeName_ptr_named (nm := "errors.errorString") (by rw [Jd];kernel_rfl) kr (by decide) u (by rw [Jd];exact h)
theorem BP {n:String}{text:List UInt8}{r:List (String×DataW Unit)}{W:World}{g:Nat}(h:laidMet Tryz.prog ((n, .iface "*errors.errorString" (.ptr (.agg [.lit (.string text)])))::r) W)
  (hg:(Tryz.prog).globalNamed n=some g) (ht:((Tryz.prog).globals[g]?).map (·.type)=some 52):∃(a:Addr) (T:TypeId) (fz:Nat×Nat),W.heap[g]? = some (.cells #[.iface 369 (.pointer (some a))] T fz):=by
 obtain⟨a,s,hv,_⟩:=laid_sentinel (tp:=369) h hg ht Tryz.underlying52 LJ Tryz.underlying369 Tryz.underlying386 rfl rfl Tryz.underlying9 kr kr;unfold World.var? at hv;rw [hg]at hv;simp only [Option.bind_some]at hv;cases hh:W.heap[g]? with
 |none=>rw [hh]at hv;cases hv
 |some o =>
  rw [hh]at hv;cases o with
  |cells cs T fz =>
   simp only [Option.some.injEq]at hv;subst hv;exact⟨a,T,fz,rfl⟩
  |_=>cases hv
abbrev KE (W:World):Base:=⟨pR W⟩
end Go.Ab
namespace Go.Ab
open Go.Proofs
variable [Base]
open Go.ChangeShapes Go.WideShapes Go.ChangeAt Go.RowKit
end Go.Ab
