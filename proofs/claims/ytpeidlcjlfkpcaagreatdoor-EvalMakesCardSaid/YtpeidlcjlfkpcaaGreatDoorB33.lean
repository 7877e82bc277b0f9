/- Texts laid one behind the other: GwM, ScR, PEach, Chr, Res, Name, RName. -/
import Derived.Test.YtpeidlcjlfkpcaaGreatDoorB32
set_option linter.all false
set_option maxHeartbeats 16000000
namespace Go.Ab
open Go.Proofs
variable [Base]
theorem Ja {p:Li→Prop}{l:Li}(h:p l):∀{a b:Tr},a.all p→b.all p→(o9 l a b).all p
 | .leaf i, .leaf j,_,_=>by
  show(if i=j then Tr.leaf i else .node l (.leaf i) (.leaf j)).all p
  split
  ·trivial
  ·exact⟨h,trivial,trivial⟩
 | .leaf _, .node _ _ _,h1,h2=>⟨h,h1,h2⟩
 | .node _ _ _, .leaf _,h1,h2=>⟨h,h1,h2⟩
 | .node _ _ _, .node _ _ _,h1,h2=>⟨h,h1,h2⟩
theorem nU {p:Li→Prop}:∀{t:Tr}{c:List Li},t.all p→(dI t c).all p
 | .leaf _,_,_=>trivial
 | .node l a b,c,h=>by
  unfold dI;split
  ·exact nU h.2.1
  ·split
   ·exact nU h.2.2
   ·exact Ja h.1 (nU h.2.1) (nU h.2.2)
theorem lO (op:Int) (hop:1≤op∧op≤4) (b:Tr) (hb:b.all fun l=>l.sm):∀(t:Tr) (c:List Li),(t.all fun l=>l.sm)→(∀m∈c,m.sm)→c.length+j6 t+j6 b≤90000→Pu Tryz.prog 28 [lit (.int .i64 op),rt t,rt b,lqs c] (rt (fk op t b c))
 | .leaf i,c,_,hc,hd=>by
  have d1:=nj b c hb hc (by simp only [j6]at hd;omega);have d2:=s8 (dI b c) (nU hb);have d3:=eS true;have d4:=eS false;show Pu _ _ _ (rt (xq op i b c))
  unfold xq;generalize ml (dI b c)=nb at *;generalize dI b c=rb at *;clear hb hc hd;have ho:op=1∨op=2∨op=3∨op=4:=by omega
  have en:rt (.leaf i)=pt (rc (.leaf i)):=rfl;rw [en,mL];rcases ho with rfl|rfl|rfl|rfl <;> cases i
  all_goals
   simp only [Int.reduceEq,gH,false_and,gJ,and_false,eP,jw,or_true,kC,or_self,aV,aO,bE,Bool.true_eq_false,reduceCtorEq];refine Pi Tryz.func28 fun C=>?_
   refine D4 d1 d2 d3 d4 ⟨?_⟩;intros;exact E1
 | .node l x y,c,hall,hc,hd=>by
  have hd':c.length+(1+max (j6 x) (j6 y))+j6 b≤90000:=hd;have p0:=A7 hc hall.1 om;have d3:=lO op hop b hb x c hall.2.1 hc om;have d4:=lO op hop b hb y c hall.2.2 hc om;have n1:=rV c l;have n2:=rV c l.neg;have w1:=uj hc hall.1 om;have w2:=uj hc hall.1.neg om;have d0:=uq l hall.1.ile;have d5:=lO op hop b hb x (iL c l) hall.2.1 (u9 hc hall.1) om;have d6:=lO op hop b hb y (iL c l.neg) hall.2.2 (u9 hc hall.1.neg) om;have d7:=CR l (fk op x b (iL c l)) (fk op y b (iL c l.neg)) hall.1.ile;unfold fk;clear hd hd' n1 n2 hc hall hb;generalize fk op x b c=ra at *;generalize fk op y b c=rb at *;generalize fk op x b (iL c l)=ra' at *;generalize fk op y b (iL c l.neg)=rb' at *;generalize o9 l ra' rb'=rj at *;generalize iL c l=c1 at *;generalize iL c l.neg=c2 at *;have en:rt (.node l x y)=pt (rc (.node l x y)):=rfl;rw [en,ko];clear en;generalize mv c l=z at *;by_cases h1:z=1
  ·rw [if_pos h1];refine Pi Tryz.func28 fun C=>?_
   exact Y2 p0 d3
  ·rw [if_neg h1];by_cases h2:z = -1
   ·rw [if_pos h2];refine Pi Tryz.func28 fun C=>?_
    exact Y2 p0 d4
   ·rw [if_neg h2];refine Pi Tryz.func28 fun C=>?_
    repeat(first|(refine A1 ⟨?_⟩;intros)|refine W4 p0 ⟨?_⟩|refine W4 w1 ⟨?_⟩|refine W4 d0 ⟨?_⟩|refine W4 w2 ⟨?_⟩|refine W4 d5 ⟨?_⟩|refine W4 d6 ⟨?_⟩|refine W4 d7 ⟨?_⟩)
    exact E1
abbrev NZ (n:Nat):SV:=ex fun t:{t:Tr //∃L:List Li,L.length≤n∧(∀l∈L,l.sm)∧Gd L t}=>rt t.1
theorem nW {n:Nat}{t:Tr}(L:List Li) (h1:L.length≤n) (h2:∀l∈L,l.sm) (h3:Gd L t):Le (rt t) (NZ n):=Le.ex (f:=fun t:{t:Tr //∃L:List Li,L.length≤n∧(∀l∈L,l.sm)∧Gd L t}=>rt t.1) ⟨t,L,h1,h2,h3⟩ Lr
theorem tP:∀t:Tr,t.lin (oT t)
 | .leaf _=>trivial
 | .node l a b=>⟨Ms,Tr.lin.mono (fun x hx=>Mc (cG _ hx)) (tP a),Tr.lin.mono (fun x hx=>Mc (cN _ hx)) (tP b)⟩
theorem qA:∀t:Tr,(oT t).length=t.size
 | .leaf _=>rfl
 | .node l a b=>by
  rw [Tr.size_node,←qA a,←qA b];show(l::(oT a++oT b)).length=_
  rw [aF,ac];omega
theorem o8 {p:Li→Prop}:∀{t:Tr},t.all p→∀l∈oT t,p l
 | .leaf _,_,l,h=>by cases h
 | .node m a b,k,l,h=>by
  rcases ak.1 h with h|h
  ·rw [h];exact k.1
  ·rcases az.1 h with h|h
   ·exact o8 k.2.1 l h
   ·exact o8 k.2.2 l h
theorem v6:∀t:Tr,j6 t≤t.size
 | .leaf _=>au _
 | .node l a b=>by
  have:=v6 a;have:=v6 b;rw [Tr.size_node];simp only [j6];omega
theorem Gd.mono {L M:List Li}(hs:∀l∈L,l∈M){t:Tr}(h:Gd L t):Gd M t:=⟨Tr.lin.mono hs h.1,h.2⟩
theorem Bl {L:List Li}(h:∀l∈L,l.sm):∀l∈L,l.ok:=fun l hl=>(h l hl).1
theorem C2 {L:List Li}(h:∀l∈L,l.sm){t:Tr}(k:Gd L t):t.all fun l=>l.sm:=Tr.lin.all h k.1
theorem Mv {rs:List (List Pq)}{fill:Int}(hrl:rs.length≤2) (hrs:∀r∈rs,oo r):∃L:List Li,L.length≤12∧(∀l∈L,l.sm)∧Gd L (dI (qS (inR rs fill) 20000 ((rs.map jo).flatten) []) []):=by
 have hLl:=o7 rs hrs;have hL:=BS hrs;have hlen:((rs.map jo).flatten).length≤12:=by have:=hLl;unfold mn at this;rw [cK]at this;omega
 have hfw:∀f∈(rs.map jo).flatten,FgG (mn rs) f:=fun f hf=>by
  obtain⟨e,he,hfe⟩:=ky.1 hf;obtain⟨r,hr,rfl⟩:=aj.1 he;exact(C9 (hrs r hr) f hfe).2.2 _ (aj.2 ⟨f,hf,rfl⟩)
 have hphi:lc (mn rs) (rs.map jo).flatten≤12*13:=aU (Bz _ _) (db hlen om);obtain⟨_,_,z3⟩:=sc (inR rs fill) 20000 ((rs.map jo).flatten) [] hfw om;exact⟨mn rs,om,hL,Gd.restr (Bl hL) z3⟩
theorem mg (zs:List Int) (hz:zs.length≤400):PuT 37 zs [] (NZ 12):=by
 have key:∀(rs:List (List Pq)) (fill:Int),rs≠[]→rs.length≤2→(∀r∈rs,oo r)→(fill=1∨fill=2)→Pu Tryz.prog 78 [zD rs] (JG rs)∧Pu Tryz.prog 77 [JG rs,lit (.int .i64 fill)] (rgR rs fill (wd (mn rs)))∧Pu Tryz.prog 76 [rgR rs fill (wd (mn rs))] (rt (dI (qS (inR rs fill) 20000 ((rs.map jo).flatten) []) [])):=fun rs fill h0 hl hr hf =>
  ⟨Bu rs om hr,NV fill h0 om hr,Ix hf om hr⟩
 have fin:∀(rs:List (List Pq)) (fill:Int),rs.length≤2→(∀r∈rs,oo r)→Le (rt (dI (qS (inR rs fill) 20000 ((rs.map jo).flatten) []) [])) (NZ 12):=fun rs fill hl hr=>by
  obtain⟨L,h1,h2,h3⟩:=Mv (fill:=fill) hl hr;exact nW L h1 h2 h3
 refine PuM.intro Tryz.func37 rfl kr fun C b=>?_
 refine A2 ⟨?_⟩;intros;refine Wtx (Cv zs hz) mmA fun r=>?_
 obtain⟨r,hr⟩:=r;simp only [];refine Wo (nX (s:=rps r) (ds:=[rps r]) rfl inferInstance) ?_;refine A2 ⟨?_⟩;intros;refine Wtx (fj zs hz 3 om om) mmA fun k=>?_
 obtain⟨k,hk⟩:=k;simp only [];by_cases hk0:k=0
 ·subst hk0;refine A2 ⟨?_⟩;intros;refine Wtx (Cv zs hz) mmA fun q=>?_
  obtain⟨q,hq⟩:=q;simp only [];refine Wo (e9 (r:=[(0,[rps q])]) (cs:=[rps q]) (.cons (sv:=rps q) rfl inferInstance .nil)) ?_;refine Wo (bU (k:=1) (k0:=1) (ds:=[rps q]) rfl rfl rfl rfl om) ?_
  have hrs:∀x∈[r,q],oo x:=fun x hx=>by
   rcases ak.1 hx with h|h
   ·rw [h];exact hr
   ·rw [ar.1 h];exact hq
  have ca:=Bu [r,q] (by simp) hrs;refine D1 ca ⟨?_⟩;intros;refine Wtx (fj zs hz 2 om om) mmA fun k=>?_
  obtain⟨k,hk⟩:=k;simp only [];have hf:(1+(k:Int))=1∨(1+(k:Int))=2:=by omega
  obtain⟨_,c1,c2⟩:=key [r,q] (1+(k:Int)) (by simp) (by simp) hrs hf;have hfin:=fin [r,q] (1+(k:Int)) (by simp) hrs;refine D2 c1 c2 ⟨?_⟩;intros;exact fK () _ (bJ (RV.tmp rfl) hfin) mmA (LeL.refl _)
 ·refine A2 ⟨?_⟩;intros;have hrs:∀x∈[r],oo x:=fun x hx=>by rw [ar.1 hx];exact hr
  have ca:=(Bu [r] (by simp) hrs).arg (l':=[xsl [rps r] 1]) ⟨yC,trivial⟩;refine D1 ca ⟨?_⟩;intros;refine Wtx (fj zs hz 2 om om) mmA fun k=>?_
  obtain⟨k,hk⟩:=k;simp only [];have hf:(1+(k:Int))=1∨(1+(k:Int))=2:=by omega
  obtain⟨_,c1,c2⟩:=key [r] (1+(k:Int)) (by simp) (by simp) hrs hf;have hfin:=fin [r] (1+(k:Int)) (by simp) hrs;refine D2 c1 c2 ⟨?_⟩;intros;exact fK () _ (bJ (RV.tmp rfl) hfin) mmA (LeL.refl _)
theorem pow_one (d:Nat):12≤12*2^d:=by have:0<2^d:=dc om;omega
theorem Hq {l:Li}(hl:l.sm):Pu Tryz.prog 23 [rt (.node l (.leaf true) (.leaf false))] (rt (dI (.node l (.leaf true) (.leaf false)) [])):=nS _ ⟨hl,trivial,trivial⟩ (by simp [j6])
theorem Hr {l:Li}(hl:l.sm):Gd [l] (dI (.node l (.leaf true) (.leaf false)) []):=Gd.restr (fun x hx=>by rw [ar.1 hx];exact hl.1) ⟨ar.2 rfl,trivial,trivial⟩
theorem Gg {t:Tr}(h:t.all fun l=>l.ok∧l.le 1):Gd (oT t) (dI t []):=Gd.restr (fun l hl=>(o8 h l hl).1) (tP t)
theorem Et (zs:List Int) (hz:zs.length≤400):∀d:Nat,d≤3→PuT 17 zs [lit (.int .i64 (d:Int))] (NZ (12*2^d)):=by
 intro d;induction d with
 |zero =>
  intro _;refine PuM.intro Tryz.func17 rfl kr fun C b=>?_
  refine A2 ⟨?_⟩;intros;refine Wtx (fj zs hz 6 om om) mmA fun k=>?_
  obtain⟨k,hk⟩:=k;simp only [];rcases(by omega:k=1∨k=2∨k=3∨k=0∨(k≠0∧k≠1∧k≠2∧k≠3))with rfl|rfl|rfl|rfl|⟨k0,k1,k2,k3⟩
  ·refine A2 ⟨?_⟩;intros;refine Wtx (K4 zs hz) mmA fun l=>?_
   obtain⟨l,hok,hle⟩:=l;simp only [];have c:=Hq (l:=l) ⟨hok,hle⟩;rw [show rt (.node l (.leaf true) (.leaf false))=pt (rc (.node l (.leaf true) (.leaf false)))from rfl,ko]at c;repeat(first|(refine Wo (cF (sv:=ag _) rfl) ?_)|(refine Wdo (cF (sv:=ag _) rfl) ?_)|(refine A1 ⟨?_⟩;intros)|refine W4 (eS true) ⟨?_⟩|refine W4 (eS false) ⟨?_⟩|refine W4 c ⟨?_⟩)
   exact fK () _ (bJ (RV.tmp rfl) (nW [l] (by simp) (fun x hx=>by rw [ar.1 hx];exact⟨hok,hle⟩) (Hr ⟨hok,hle⟩))) mmA (LeL.refl _)
  ·refine A2 ⟨?_⟩;intros;refine Wtx (xU zs hz 3 om) mmA fun t=>?_
   obtain⟨t,ht,hs⟩:=t;simp only [];have h8:t.size<8:=hs;have hd:=v6 t;have c:=nS t ht om;have hln:=qA t;refine D1 c ⟨?_⟩;intros;exact fK () _ (bJ (RV.tmp rfl) (nW (oT t) (by simp only [jH];omega) (fun x hx=>o8 ht x hx) (Gg ht))) mmA (LeL.refl _)
  ·refine A2 ⟨?_⟩;intros;refine Wtx (mg zs hz) mmA fun t=>?_
   obtain⟨t,L,h1,h2,h3⟩:=t;simp only [];have c:=s8 t (C2 h2 h3);refine D1 c ⟨?_⟩;intros;exact fK () _ (bJ (RV.tmp rfl) (nW L (by simpa using h1) h2 h3.not)) mmA (LeL.refl _)
  ·refine A2 ⟨?_⟩;intros;refine Wtx (mg zs hz) mmA fun t=>?_
   obtain⟨t,L,h1,h2,h3⟩:=t;simp only [];refine A2 ⟨?_⟩;intros;exact fK () _ (bJ (RV.tmp rfl) (nW L (by simpa using h1) h2 h3)) mmA (LeL.refl _)
  ·refine A2 ⟨?_⟩;intros;refine Wtx (mg zs hz) mmA fun t=>?_
   obtain⟨t,L,h1,h2,h3⟩:=t;simp only [];refine A2 ⟨?_⟩;intros;exact fK () _ (bJ (RV.tmp rfl) (nW L (by simpa using h1) h2 h3)) mmA (LeL.refl _)
 |succ d ih =>
  intro hd;have hr:=ih om;rw [show(d:Int)=((d+1:Nat):Int)-1 from by omega]at hr;have hp:=pow_one (d+1);have hp8:12*2^(d+1)=12*2^d+12*2^d:=by rw [bR];omega
  have hp3:2^d≤2^3:=gN om om;clear ih;refine PuM.intro Tryz.func17 rfl kr fun C b=>?_
  refine A2 ⟨?_⟩;intros;refine Wtx (fj zs hz 6 om om) mmA fun k=>?_
  obtain⟨k,hk⟩:=k;simp only [];rcases(by omega:k=0∨k=1∨k=2∨k=3∨(k≠0∧k≠1∧k≠2∧k≠3))with rfl|rfl|rfl|rfl|⟨k0,k1,k2,k3⟩
  ·refine A2 ⟨?_⟩;intros;refine Wtx hr mmA fun t=>?_
   obtain⟨t,L,h1,h2,h3⟩:=t;simp only [];refine A2 ⟨?_⟩;intros;refine Wtx (fj zs hz 4 om om) mmA fun o=>?_
   obtain⟨o,ho⟩:=o;simp only [];refine A2 ⟨?_⟩;intros;refine Wtx hr mmA fun u=>?_
   obtain⟨u,M,m1,m2,m3⟩:=u;simp only [];have q1:=h3.dep;have q2:=m3.dep;have hLM:∀l∈L++M,l.sm:=fun l hl=>(az.1 hl).elim (h2 l) (m2 l)
   have g1:=Gd.mono (M:=L++M) (fun l hl=>cG _ hl) h3;have g2:=Gd.mono (M:=L++M) (fun l hl=>cN _ hl) m3;have c:=lO (1+(o:Int)) om u (C2 m2 m3) t [] (C2 h2 h3) (fun m h=>by cases h) (by simp only [bq];omega);have c':=c.arg (l':=[lit (.int .i64 (1+(o:Int))),rt t,rt u,lit (.slice none 0 0)]) ⟨Le.refl _,Le.refl _,Le.refl _,i5,trivial⟩;have hg:Gd (L++M) (fk (1+(o:Int)) t u []):=Gd.merge (Bl hLM) g1.1 g2.1;have hlen:(L++M).length≤12*2^(d+1):=by rw [ac];omega
   generalize fk (1+(o:Int)) t u []=r at *;clear c h3 m3 g1 g2 h2 m2;refine D1 c' ⟨?_⟩;intros;exact fK () _ (bJ (RV.tmp rfl) (nW (L++M) hlen hLM hg)) mmA (LeL.refl _)
  ·refine A2 ⟨?_⟩;intros;refine Wtx (K4 zs hz) mmA fun l=>?_
   obtain⟨l,hok,hle⟩:=l;simp only [];have c:=Hq (l:=l) ⟨hok,hle⟩;rw [show rt (.node l (.leaf true) (.leaf false))=pt (rc (.node l (.leaf true) (.leaf false)))from rfl,ko]at c;repeat(first|(refine Wo (cF (sv:=ag _) rfl) ?_)|(refine Wdo (cF (sv:=ag _) rfl) ?_)|(refine A1 ⟨?_⟩;intros)|refine W4 (eS true) ⟨?_⟩|refine W4 (eS false) ⟨?_⟩|refine W4 c ⟨?_⟩)
   exact fK () _ (bJ (RV.tmp rfl) (nW [l] (by simp only [bH];omega) (fun x hx=>by rw [ar.1 hx];exact⟨hok,hle⟩) (Hr ⟨hok,hle⟩))) mmA (LeL.refl _)
  ·refine A2 ⟨?_⟩;intros;refine Wtx (xU zs hz 3 om) mmA fun t=>?_
   obtain⟨t,ht,hs⟩:=t;simp only [];have h8:t.size<8:=hs;have hd:=v6 t;have c:=nS t ht om;have hln:=qA t;refine D1 c ⟨?_⟩;intros;exact fK () _ (bJ (RV.tmp rfl) (nW (oT t) om (fun x hx=>o8 ht x hx) (Gg ht))) mmA (LeL.refl _)
  ·refine A2 ⟨?_⟩;intros;refine Wtx (mg zs hz) mmA fun t=>?_
   obtain⟨t,L,h1,h2,h3⟩:=t;simp only [];have c:=s8 t (C2 h2 h3);refine D1 c ⟨?_⟩;intros;exact fK () _ (bJ (RV.tmp rfl) (nW L om h2 h3.not)) mmA (LeL.refl _)
  ·refine A2 ⟨?_⟩;intros;refine Wtx (mg zs hz) mmA fun t=>?_
   obtain⟨t,L,h1,h2,h3⟩:=t;simp only [];refine A2 ⟨?_⟩;intros;exact fK () _ (bJ (RV.tmp rfl) (nW L om h2 h3)) mmA (LeL.refl _)
structure TX where
 st:List Tr
 cnt:Nat
 s:SV
 Hs:LH
def szL (l:List Tr):Nat:=(l.map dG).sum
def msL (l:List Tr):Nat:=(l.map fun t=>2*dG t+1).sum
theorem Cz (l:List Tr) (x:Tr):szL (l++[x])=szL l+dG x:=by unfold szL;simp
theorem rm (l:List Tr) (x:Tr):msL (l++[x])=msL l+(2*dG x+1):=by unfold msL;simp
theorem Hh:∀l:List Tr,l.length≤msL l
 | []=>au _
 |x::l=>by
  have:=Hh l;unfold msL at *;simp only [aD,lx,aF];omega
theorem PQ (b:Nat) (m:Nat) (t:Tr) (hm:m+dG t≤100000000):PuH Tryz.prog 49 [bt t,fnv 50 [] [lit (.pointer (some ⟨b,0,none⟩))]] [(b,iT,[lit (.int .i64 (m:Nat))])] (fun r H'=>r=Ab.tup []∧H'=[(b,iT,[lit (.int .i64 ((m+dG t:Nat):Int))])]) noX:=by
 refine PuH.intro Tryz.func49 rfl kr fun C hC=>?_
 refine A2 ⟨?_⟩;intros;rename_i b8
 refine WP.loopS (ι:=TX) (fun y=>Own ptT 1 y.st.length (y.st.map bt) y.s y.Hs∧y.cnt+szL y.st=m+dG t∧msL y.st≤2*dG t+1) (fun y=>msL y.st)
  (fun y=>fm [(1,fnv 50 [] [lit (.pointer (some ⟨b,0,none⟩))]),(4,y.s)]) (fun y=>y.Hs++[(b,iT,[lit (.int .i64 (y.cnt:Nat))])]) ⟨[t],m,lit (.slice (some ⟨b8,0,none⟩) 1 1),[(b8,ptT,[bt t])]⟩
  ⟨⟨rfl, .inr ⟨b8,1,au _,by decide,rfl,rfl⟩⟩,by simp [szL],by simp [msL]⟩ lfA Sr ?_
 rintro ⟨st,cnt,s,Hs⟩ ⟨hown,hsz,hms⟩ K hK;simp only at hown hsz hms⊢;have hco:=hown.co;have hlen:=Hh st;rcases List.eq_nil_or_concat st with rfl|⟨st',x,rfl⟩
 ·have hown0:=hown;simp only [szL,iz,List.sum_nil,cj]at hsz;subst hsz;simp only [bq]at hown0;clear hK;repeat(first|(refine A1 ⟨?_⟩;intros)|(refine Wo (bh hown0 rfl) ?_)|(refine Wdo (bh hown0 rfl) ?_)|(refine Wog (bh hown0 rfl) ?_)|(refine fJ (bh hown0 rfl) ?_))
  exact gB _ _ jv (List.sublist_append_right _ _) ⟨rfl,rfl⟩
 ·rw [List.concat_eq_append]at *;rw [Cz]at hsz;rw [rm]at hms;have hl1:(st'++[x]).length=st'.length+1:=by simp
  rw [hl1]at hlen;have hlb:st'.length+1≤300000000:=by have e:=rm st' x;rw [e]at hlen;omega
  obtain⟨b1,c1,hnc,hcm,rfl,rfl⟩:=hown.blk (by rw [hl1];omega);have hil:((st'++[x]).map bt).length=(st'++[x]).length*1:=by rw [cK,cB]
  obtain⟨hownr,hle⟩:=Own.cut (T:=ptT) (j:=st'.length) (b:=b1) hil hnc hcm (by rw [hl1];omega);have htk:((st'++[x]).map bt).take (st'.length*1)=st'.map bt:=by rw [cB,aH,sZ (by simp)]
  have hgt:((st'++[x]).map bt++List.replicate (c1*1-(st'++[x]).length*1) top)[st'.length]? = some (bt x):=by
   rw [fD (by simp),aH,lI (by simp)];simp
  rw [htk]at hownr hle;have cf:=Kq b cnt om x;rw [hl1]at hnc hle hgt⊢;clear hown htk hil hlen;simp only [ab,a8];cases x with
  |leaf i =>
   have d1:=i8 i;have hgo:=fun F' H'=>hK F' H' ⟨st',cnt,lit (.slice (some ⟨b1,0,none⟩) st'.length c1),_⟩ ⟨hownr,by simp only [dG]at hsz⊢;omega,by simp only;omega⟩ (by simp only;rw [rm];omega)
   rw [show(if dG (.leaf i)=0 then 0 else 1)=0 from rfl,cj]at cf;clear hK;refine A2 ⟨?_⟩;intros;rw [show(((st'.length+1:Nat):Int)-1)=((st'.length:Nat):Int) by omega];refine Wo (eG rfl mmA hgt) ?_;refine A2 ⟨?_⟩;intros;refine Wo (BF st'.length rfl rfl rfl om) ?_;refine WPL.lowB (.here _) hle ?_;refine A2 ⟨?_⟩;intros;refine WvT cf ?_;rintro _ _ ⟨rfl,rfl⟩;simp only [ab,a8];refine D1 d1 ⟨?_⟩;intros;exact hgo _ _ lfA Sr
  |node l u v =>
   have d1:=i7 l u v
   have hadd:∀s' H',Own ptT 1 (st'.length+2) (st'.map bt++[bt v,bt u]) s' H'→Own ptT 1 (st'++[v]++[u]).length ((st'++[v]++[u]).map bt) s' H':=fun s' H' h=>by
    rw [aH,aH,ax];simpa using h
   have hgo:=fun s' H1 (h:Own ptT 1 (st'.length+2) (st'.map bt++[bt v,bt u]) s' H1) F' H'=>hK F' H' ⟨st'++[v]++[u],cnt+1,s',H1⟩ ⟨hadd s' H1 h,by simp only [dG,Cz]at hsz⊢;omega,by simp only [dG,rm]at hms⊢;omega⟩ (by simp only [dG,rm];omega)
   rw [show(if dG (.node l u v)=0 then 0 else 1)=1 from if_neg (by simp only [dG];omega)]at cf;have en:bt (.node l u v)=pt (bc (.node l u v)):=rfl;rw [en,oJ]at d1 cf hgt;clear hK hadd en;refine A2 ⟨?_⟩;intros;rw [show(((st'.length+1:Nat):Int)-1)=((st'.length:Nat):Int) by omega];refine Wo (eG rfl mmA hgt) ?_;refine A2 ⟨?_⟩;intros;refine Wo (BF st'.length rfl rfl rfl om) ?_;refine WPL.lowB (.here _) hle ?_;refine A2 ⟨?_⟩;intros;refine WvT cf ?_;rintro _ _ ⟨rfl,rfl⟩;simp only [ab,a8];repeat(first|(refine AS ⟨?_⟩;intros)|(refine O1 ⟨?_⟩;intros)|(refine Wcx (d1) ?_)|(refine iE (d1) ?_))
   refine WdZ 11 [0,1,2,3,4,5,6,7,8,9,10] [10] [(b1,ptT,st'.map bt++List.replicate (c1*1-st'.length*1) top)] [(b,iT,[lit (.int .i64 ((cnt+1:Nat):Int))])] ?_;refine ZkD 10 ?_;repeat(first|(refine Wo (e9 (r:=[(0,[bt v]),(1,[bt u])]) (cs:=[bt v,bt u]) (.cons (sv:=bt v) rfl inferInstance (.cons (sv:=bt u) rfl inferInstance .nil))) ?_)|(refine Wdo (e9 (r:=[(0,[bt v]),(1,[bt u])]) (cs:=[bt v,bt u]) (.cons (sv:=bt v) rfl inferInstance (.cons (sv:=bt u) rfl inferInstance .nil))) ?_)|(refine A1 ⟨?_⟩;intros))
   refine yu ?_;refine TM (k0:=2) (ds:=[bt v,bt u]) hownr (Tk.same _) om (fun s' H' hown'=>?_);refine ZkN ?_;have hco':=hown'.co;replace hgo:=hgo s' H' hown';clear hown';rw [bd];refine A2 ⟨?_⟩;intros;exact hgo _ _ lfA Sr
theorem zv (t:Tr) (h:dG t≤100000000):Pu Tryz.prog 21 [bt t] (lit (.int .i64 (dG t:Nat))):=by
 refine PuH.toPu ?_;refine PuH.intro Tryz.func21 rfl kr fun C hC=>?_
 refine A2 ⟨?_⟩;intros;rename_i b3;have c:=PQ b3 0 t om;rw [aB]at c;refine A2 ⟨?_⟩;intros;refine WfT c ?_;rintro _ _ ⟨rfl,rfl⟩;simp only [ab,a8];refine A2 ⟨?_⟩;intros;exact ct _ _ (bJ (RV.tmp rfl) Lr) (av _) rfl
def mR (b:Nat):Bool:=decide (97≤b∧b≤122∨65≤b∧b≤90∨b=95)
abbrev u8 (b:Nat):SV:=lit (.int .u8 (b:Int))
def FD (l:List UInt8) (b:Nat):Int:=match (List.range (⟨l.toArray⟩:ByteArray).size).find? fun i=>(⟨l.toArray⟩:ByteArray)[i]! == (b:Int).toNat.toUInt8 with
 |some i=>(i:Int)
 |none => -1
theorem KA (l:List UInt8){b:Nat}(hb:b<256) (w:World):(Extern.BytealgIndexByte.indexByte #[.string ⟨l.toArray⟩, .int .u8 (b:Int)]).run Tryz.prog w = .ok (.int .i64 (FD l b)) w:=by
 have hdef:Extern.BytealgIndexByte.indexByte #[.string ⟨l.toArray⟩, .int .u8 (b:Int)]=(match (List.range (⟨l.toArray⟩:ByteArray).size).find? fun i=>(⟨l.toArray⟩:ByteArray)[i]! == (b:Int).toNat.toUInt8 with
  |some i=>pure (goInt i)
  |none=>pure (goInt (-1))):=rfl
 rw [hdef];unfold FD;split <;> rfl
section
variable {F:Fr}{H:LH}{ty:TypeId}
theorem Oz {x y:Operand}{l:List UInt8}{b:Nat}{tys:Array TypeId}(hx:ev F x=str l) (hy:ev F y=u8 b) (hb:b<256):OpV Tryz.prog (.call ⟨.value (.func 317),[x,y].toArray,tys⟩) ty F H (lit (.int .i64 (FD l b))) :=
 OpV.pure fun m w o a ho _ _ _ h=>by
  have h0:=h x (by simp [Op.operands,Call.operands]);rw [hx,ap]at h0;have h1:=h y (by simp [Op.operands,Call.operands]);rw [hy,ap]at h1;have h8:=@run_callFunc_extern Tryz.prog 317 _ Extern.BytealgIndexByte.indexByte Tryz.func317 kr kr kr kr;refine⟨_,?_,ap.2 rfl⟩;have:=h8 #[a.eval x,a.eval y] w;rw [h0,h1,KA l hb]at this;simp only [execOp,ho,resolve,Sem.run_bind,Sem.run_pure,Result.andThen_ok];have e1:a.eval (.func 317) = .func (.func 317) #[] #[]:=rfl;simp only [e1,Deferred.ofValue,Sem.run_pure,Result.andThen_ok,invoke,iH,aD,iz,lF,nN,h0,h1,this]
end
theorem CD (l:List UInt8){b:Nat}(hb:b<256):Pu Tryz.prog 293 [str l,u8 b] (lit (.int .i64 (FD l b))):=by
 refine Pi Tryz.func293 fun C=>?_
 refine A2 ⟨?_⟩;intros;refine Wo (Oz rfl rfl hb) ?_;exact Z1
theorem NR (l:List UInt8){b:Nat}(hb:b<256):Pu Tryz.prog 268 [str l,u8 b] (lit (.int .i64 (FD l b))):=by
 refine Pi Tryz.func268 fun C=>?_
 exact Y1 (CD l hb)
def Kt:List UInt8:=[40,41,123,125,44,59,61,43,45,42,47,94,126]
def zm (b:Nat):Int :=
 if b=32∨b=9∨b=13∨b=10 then 1 else if b=35 then 2 else if 48≤b∧b≤57 then 4 else if 97≤b∧b≤122∨65≤b∧b≤90∨b=95 then 3 else if 0≤FD Kt b then 5 else 0
theorem zr {b:Nat}(hb:b<256):Pu Tryz.prog 237 [u8 b] (lit (.int .i64 (zm b))):=by
 unfold zm;by_cases h1:b=32∨b=9∨b=13∨b=10
 ·rw [if_pos h1];rcases h1 with rfl|rfl|rfl|rfl <;>
  ·refine Pi Tryz.func237 fun C=>?_
   exact Z1
 ·rw [if_neg h1];by_cases h2:b=35
  ·rw [if_pos h2];subst h2;refine Pi Tryz.func237 fun C=>?_
   exact Z1
  ·rw [if_neg h2];have ha:b≠32:=by omega
   have hc:b≠9:=by omega
   have hd:b≠13:=by omega
   have he:b≠10:=by omega
   clear h1;by_cases h3:48≤b∧b≤57
   ·rw [if_pos h3];obtain⟨h3,h4⟩:=h3;refine Pi Tryz.func237 fun C=>?_
    exact Z1
   ·rw [if_neg h3];by_cases h4:97≤b∧b≤122
    ·rw [if_pos (.inl h4)];obtain⟨h4,h5⟩:=h4;clear h3;refine Pi Tryz.func237 fun C=>?_
     exact Z1
    ·by_cases h5:65≤b∧b≤90
     ·rw [if_pos (.inr (.inl h5))];obtain⟨h5,h6⟩:=h5;clear h3 h4;refine Pi Tryz.func237 fun C=>?_
      exact Z1
     ·by_cases h6:b=95
      ·rw [if_pos (.inr (.inr h6))];subst h6;clear h3 h4 h5;refine Pi Tryz.func237 fun C=>?_
       exact Z1
      ·rw [if_neg om];have key:b<48∨(57<b∧b<65)∨(90<b∧b<97)∨122<b:=by omega
       have c:=NR Kt hb;clear h3 h4 h5;generalize FD Kt b=z at *;by_cases hz:0≤z
       ·rw [if_pos hz];rcases key with P1|⟨P1,P2⟩|⟨P1,P2⟩|P1
        all_goals
         refine Pi Tryz.func237 fun C=>?_
         exact Y1 c
       ·rw [if_neg hz];rcases key with P1|⟨P1,P2⟩|⟨P1,P2⟩|P1
        all_goals
         refine Pi Tryz.func237 fun C=>?_
         exact Y1 c
theorem RZ (b:Nat):decide (zm b=3)=mR b:=by
 unfold zm mR;by_cases h1:b=32∨b=9∨b=13∨b=10
 ·rw [if_pos h1,aa om,aa om]
 ·rw [if_neg h1];by_cases h2:b=35
  ·rw [if_pos h2,aa om,aa om]
  ·rw [if_neg h2];by_cases h3:48≤b∧b≤57
   ·rw [if_pos h3,aa om,aa om]
   ·rw [if_neg h3];by_cases h4:97≤b∧b≤122∨65≤b∧b≤90∨b=95
    ·rw [if_pos h4,a9 rfl,a9 h4]
    ·rw [if_neg h4,aa h4];split <;> rfl
theorem AD {b:Nat}(hb:b<256):Pu Tryz.prog 256 [u8 b] (lit (.bool (mR b))):=by
 rw [←RZ];have c:=zr hb;generalize zm b=z at *;refine Pi Tryz.func256 fun C=>?_
 exact Y1 c
def JQ:List (List UInt8):=[[98,117,100,103,101,116],[114,105,110,103],[114,101,103,105,111,110],[101,118,101,110,111,100,100],[110,111,110,122,101,114,111],[111,117,116,108,105,110,101],[102,97,114],[99,104,97,105,110],[108,101,116],[97,114,101,97],[99,101,110,116,114,111,105,100],[99,108,97,115,115,105,102,121],[101,109,112,116,121],[101,113,117,97,108],[115,117,98,115,101,116],[99,101,108,108,115],[110,111,100,101,115],[112,97,114,116,115],[101,120,112,111,114,116],[97,108,108],[110,111,110,101],[104,97,108,102]]
def yc (s:List UInt8):Bool:=decide (s∈JQ)
theorem gV {s w:List UInt8}(h:s=w) (hw:decide (w∈JQ)=true:=by decide +kernel):lit (.bool true)=lit (.bool (yc s)):=by subst h;unfold yc;rw [hw]
theorem QP {s:List UInt8}(h0:¬s=[98,117,100,103,101,116]) (h1:¬s=[114,105,110,103]) (h2:¬s=[114,101,103,105,111,110]) (h3:¬s=[101,118,101,110,111,100,100]) (h4:¬s=[110,111,110,122,101,114,111]) (h5:¬s=[111,117,116,108,105,110,101]) (h6:¬s=[102,97,114]) (h7:¬s=[99,104,97,105,110]) (h8:¬s=[108,101,116]) (h9:¬s=[97,114,101,97]) (h10:¬s=[99,101,110,116,114,111,105,100]) (h11:¬s=[99,108,97,115,115,105,102,121]) (h12:¬s=[101,109,112,116,121]) (h13:¬s=[101,113,117,97,108]) (h14:¬s=[115,117,98,115,101,116]) (h15:¬s=[99,101,108,108,115]) (h16:¬s=[110,111,100,101,115]) (h17:¬s=[112,97,114,116,115]) (h18:¬s=[101,120,112,111,114,116]) (h19:¬s=[97,108,108]) (h20:¬s=[110,111,110,101]) (h21:¬s=[104,97,108,102]):lit (.bool false)=lit (.bool (yc s)):=by
 unfold yc JQ;rw [aa (by simp only [ak,fG,eP,not_or];exact⟨h0,h1,h2,h3,h4,h5,h6,h7,h8,h9,h10,h11,h12,h13,h14,h15,h16,h17,h18,h19,h20,h21⟩)]
theorem ww (s:List UInt8):Pu Tryz.prog 257 [str s] (lit (.bool (yc s))):=by
 refine Pi Tryz.func257 fun C=>?_
 refine A2 ⟨?_⟩;intros;by_cases h0:s=[98,117,100,103,101,116]
 ·refine Wo (bN (b:=[98,117,100,103,101,116]) rfl rfl (a9 h0)) ?_;refine A2 ⟨?_⟩;intros;refine E1 (h:=Le.of_eq ?_);exact gV h0
 refine Wo (bN (b:=[98,117,100,103,101,116]) rfl rfl (aa h0)) ?_;refine A2 ⟨?_⟩;intros;by_cases h1:s=[114,105,110,103]
 ·refine Wo (bN (b:=[114,105,110,103]) rfl rfl (a9 h1)) ?_;refine A2 ⟨?_⟩;intros;refine E1 (h:=Le.of_eq ?_);exact gV h1
 refine Wo (bN (b:=[114,105,110,103]) rfl rfl (aa h1)) ?_;refine A2 ⟨?_⟩;intros;by_cases h2:s=[114,101,103,105,111,110]
 ·refine Wo (bN (b:=[114,101,103,105,111,110]) rfl rfl (a9 h2)) ?_;refine A2 ⟨?_⟩;intros;refine E1 (h:=Le.of_eq ?_);exact gV h2
 refine Wo (bN (b:=[114,101,103,105,111,110]) rfl rfl (aa h2)) ?_;refine A2 ⟨?_⟩;intros;by_cases h3:s=[101,118,101,110,111,100,100]
 ·refine Wo (bN (b:=[101,118,101,110,111,100,100]) rfl rfl (a9 h3)) ?_;refine A2 ⟨?_⟩;intros;refine E1 (h:=Le.of_eq ?_);exact gV h3
 refine Wo (bN (b:=[101,118,101,110,111,100,100]) rfl rfl (aa h3)) ?_;refine A2 ⟨?_⟩;intros;by_cases h4:s=[110,111,110,122,101,114,111]
 ·refine Wo (bN (b:=[110,111,110,122,101,114,111]) rfl rfl (a9 h4)) ?_;refine A2 ⟨?_⟩;intros;refine E1 (h:=Le.of_eq ?_);exact gV h4
 refine Wo (bN (b:=[110,111,110,122,101,114,111]) rfl rfl (aa h4)) ?_;refine A2 ⟨?_⟩;intros;by_cases h5:s=[111,117,116,108,105,110,101]
 ·refine Wo (bN (b:=[111,117,116,108,105,110,101]) rfl rfl (a9 h5)) ?_;refine A2 ⟨?_⟩;intros;refine E1 (h:=Le.of_eq ?_);exact gV h5
 refine Wo (bN (b:=[111,117,116,108,105,110,101]) rfl rfl (aa h5)) ?_;refine A2 ⟨?_⟩;intros;by_cases h6:s=[102,97,114]
 ·refine Wo (bN (b:=[102,97,114]) rfl rfl (a9 h6)) ?_;refine A2 ⟨?_⟩;intros;refine E1 (h:=Le.of_eq ?_);exact gV h6
 refine Wo (bN (b:=[102,97,114]) rfl rfl (aa h6)) ?_;refine A2 ⟨?_⟩;intros;by_cases h7:s=[99,104,97,105,110]
 ·refine Wo (bN (b:=[99,104,97,105,110]) rfl rfl (a9 h7)) ?_;refine A2 ⟨?_⟩;intros;refine E1 (h:=Le.of_eq ?_);exact gV h7
 refine Wo (bN (b:=[99,104,97,105,110]) rfl rfl (aa h7)) ?_;refine A2 ⟨?_⟩;intros;by_cases h8:s=[108,101,116]
 ·refine Wo (bN (b:=[108,101,116]) rfl rfl (a9 h8)) ?_;refine A2 ⟨?_⟩;intros;refine E1 (h:=Le.of_eq ?_);exact gV h8
 refine Wo (bN (b:=[108,101,116]) rfl rfl (aa h8)) ?_;refine A2 ⟨?_⟩;intros;by_cases h9:s=[97,114,101,97]
 ·refine Wo (bN (b:=[97,114,101,97]) rfl rfl (a9 h9)) ?_;refine A2 ⟨?_⟩;intros;refine E1 (h:=Le.of_eq ?_);exact gV h9
 refine Wo (bN (b:=[97,114,101,97]) rfl rfl (aa h9)) ?_;refine A2 ⟨?_⟩;intros;by_cases h10:s=[99,101,110,116,114,111,105,100]
 ·refine Wo (bN (b:=[99,101,110,116,114,111,105,100]) rfl rfl (a9 h10)) ?_;refine A2 ⟨?_⟩;intros;refine E1 (h:=Le.of_eq ?_);exact gV h10
 refine Wo (bN (b:=[99,101,110,116,114,111,105,100]) rfl rfl (aa h10)) ?_;refine A2 ⟨?_⟩;intros;by_cases h11:s=[99,108,97,115,115,105,102,121]
 ·refine Wo (bN (b:=[99,108,97,115,115,105,102,121]) rfl rfl (a9 h11)) ?_;refine A2 ⟨?_⟩;intros;refine E1 (h:=Le.of_eq ?_);exact gV h11
 refine Wo (bN (b:=[99,108,97,115,115,105,102,121]) rfl rfl (aa h11)) ?_;refine A2 ⟨?_⟩;intros;by_cases h12:s=[101,109,112,116,121]
 ·refine Wo (bN (b:=[101,109,112,116,121]) rfl rfl (a9 h12)) ?_;refine A2 ⟨?_⟩;intros;refine E1 (h:=Le.of_eq ?_);exact gV h12
 refine Wo (bN (b:=[101,109,112,116,121]) rfl rfl (aa h12)) ?_;refine A2 ⟨?_⟩;intros;by_cases h13:s=[101,113,117,97,108]
 ·refine Wo (bN (b:=[101,113,117,97,108]) rfl rfl (a9 h13)) ?_;refine A2 ⟨?_⟩;intros;refine E1 (h:=Le.of_eq ?_);exact gV h13
 refine Wo (bN (b:=[101,113,117,97,108]) rfl rfl (aa h13)) ?_;refine A2 ⟨?_⟩;intros;by_cases h14:s=[115,117,98,115,101,116]
 ·refine Wo (bN (b:=[115,117,98,115,101,116]) rfl rfl (a9 h14)) ?_;refine A2 ⟨?_⟩;intros;refine E1 (h:=Le.of_eq ?_);exact gV h14
 refine Wo (bN (b:=[115,117,98,115,101,116]) rfl rfl (aa h14)) ?_;refine A2 ⟨?_⟩;intros;by_cases h15:s=[99,101,108,108,115]
 ·refine Wo (bN (b:=[99,101,108,108,115]) rfl rfl (a9 h15)) ?_;refine A2 ⟨?_⟩;intros;refine E1 (h:=Le.of_eq ?_);exact gV h15
 refine Wo (bN (b:=[99,101,108,108,115]) rfl rfl (aa h15)) ?_;refine A2 ⟨?_⟩;intros;by_cases h16:s=[110,111,100,101,115]
 ·refine Wo (bN (b:=[110,111,100,101,115]) rfl rfl (a9 h16)) ?_;refine A2 ⟨?_⟩;intros;refine E1 (h:=Le.of_eq ?_);exact gV h16
 refine Wo (bN (b:=[110,111,100,101,115]) rfl rfl (aa h16)) ?_;refine A2 ⟨?_⟩;intros;by_cases h17:s=[112,97,114,116,115]
 ·refine Wo (bN (b:=[112,97,114,116,115]) rfl rfl (a9 h17)) ?_;refine A2 ⟨?_⟩;intros;refine E1 (h:=Le.of_eq ?_);exact gV h17
 refine Wo (bN (b:=[112,97,114,116,115]) rfl rfl (aa h17)) ?_;refine A2 ⟨?_⟩;intros;by_cases h18:s=[101,120,112,111,114,116]
 ·refine Wo (bN (b:=[101,120,112,111,114,116]) rfl rfl (a9 h18)) ?_;refine A2 ⟨?_⟩;intros;refine E1 (h:=Le.of_eq ?_);exact gV h18
 refine Wo (bN (b:=[101,120,112,111,114,116]) rfl rfl (aa h18)) ?_;refine A2 ⟨?_⟩;intros;by_cases h19:s=[97,108,108]
 ·refine Wo (bN (b:=[97,108,108]) rfl rfl (a9 h19)) ?_;refine A2 ⟨?_⟩;intros;refine E1 (h:=Le.of_eq ?_);exact gV h19
 refine Wo (bN (b:=[97,108,108]) rfl rfl (aa h19)) ?_;refine A2 ⟨?_⟩;intros;by_cases h20:s=[110,111,110,101]
 ·refine Wo (bN (b:=[110,111,110,101]) rfl rfl (a9 h20)) ?_;refine A2 ⟨?_⟩;intros;refine E1 (h:=Le.of_eq ?_);exact gV h20
 refine Wo (bN (b:=[110,111,110,101]) rfl rfl (aa h20)) ?_;refine A2 ⟨?_⟩;intros;by_cases h21:s=[104,97,108,102]
 ·refine Wo (bN (b:=[104,97,108,102]) rfl rfl (a9 h21)) ?_;refine A2 ⟨?_⟩;intros;refine E1 (h:=Le.of_eq ?_);exact gV h21
 refine Wo (bN (b:=[104,97,108,102]) rfl rfl (aa h21)) ?_;refine A2 ⟨?_⟩;intros;refine E1 (h:=Le.of_eq ?_);exact QP h0 h1 h2 h3 h4 h5 h6 h7 h8 h9 h10 h11 h12 h13 h14 h15 h16 h17 h18 h19 h20 h21
def okB (b:UInt8):Bool:=mR b.toNat||decide (48≤b.toNat∧b.toNat≤57)
def wO (s:List UInt8):Bool:=decide (1≤s.length)&&decide (s.length≤24)&&mR (s.getD 0 0).toNat && !yc s&&s.all okB
theorem JH {s:List UInt8}{p:UInt8→Bool}{k:Nat}(hk:k<s.length) (h:p (s.getD k 0)=false):s.all p=false:=by
 rw [List.all_eq_false];exact⟨s.getD k 0,by simp [List.getD,hk],by rw [h];exact Bool.false_ne_true⟩
theorem K6 {s:List UInt8}{k:Nat}(hk:k<s.length):s.take (k+1)=s.take k++[s.getD k 0]:=by
 rw [sP];simp [List.getD,hk]
theorem Ni {s:List UInt8}{p:UInt8→Bool}(h:∀b∈s,p b=true):s.all p=true:=fQ.2 h
theorem JV (b:UInt8):b.toNat<256:=b.toNat_lt
theorem OX {a:SV}{w:Nat}(ha:a=wG∨a=vO w){l:List UInt8}{sb:SV}{Hb:LH}(hb:Byt l sb Hb) (s:List UInt8) (hs:s.length≤1000) (hl:l.length≤100000000) (d:Nat) (lg:Bool) :
  PuH Tryz.prog 216 [lit (.pointer (some ⟨w,0,none⟩)),str s] ((w,307,wrC a sb d lg)::Hb)
   (fun r H=>wO s=true∧∃s' Hb',Byt (l++s) s' Hb'∧r=Ab.tup []∧H=(w,307,wrC (vO w) s' d lg)::Hb') (fun pv _=>wO s=false∧pv=inval):=by
 by_cases h1:1≤s.length
 case neg =>
  refine PuH.intro Tryz.func216 rfl kr fun C hC=>?_
  refine A2 ⟨?_⟩;intros;refine dr ?_;rw [hC];exact⟨by unfold wO;rw [aa h1];rfl,rfl⟩
 by_cases h2:s.length≤24
 case neg =>
  refine PuH.intro Tryz.func216 rfl kr fun C hC=>?_
  refine A2 ⟨?_⟩;intros;refine dr ?_;rw [hC];exact⟨by unfold wO;rw [aa h2,aS];rfl,rfl⟩
 have c1:=AD (JV (s.getD 0 0));have c2:=ww s;have e0:wO s=(mR (s.getD 0 0).toNat && !yc s&&s.all okB):=by unfold wO;rw [a9 h1,a9 h2,aX,aX]
 cases hq:mR (s.getD 0 0).toNat with
 |false =>
  rw [hq]at c1 e0;refine PuH.intro Tryz.func216 rfl kr fun C hC=>?_
  refine A2 ⟨?_⟩;intros;refine WgE ?_;refine Wo (uA (i:=0) rfl rfl om) ?_;refine D1 c1 ⟨?_⟩;intros;refine dr ?_;rw [hC];exact⟨e0,rfl⟩
 |true =>
  rw [hq]at c1 e0;cases hr:yc s with
  |true =>
   rw [hr]at c2 e0;refine PuH.intro Tryz.func216 rfl kr fun C hC=>?_
   refine A2 ⟨?_⟩;intros;refine WgE ?_;refine Wo (uA (i:=0) rfl rfl om) ?_;refine D2 c1 c2 ⟨?_⟩;intros;refine dr ?_;rw [hC];exact⟨e0,rfl⟩
  |false =>
   rw [hr]at c2 e0;have e1:wO s=s.all okB:=e0;clear e0;refine PuH.intro Tryz.func216 rfl kr fun C hC=>?_
   refine A2 ⟨?_⟩;intros;refine WgE ?_;refine Wo (uA (i:=0) rfl rfl om) ?_;refine D2 c1 c2 ⟨?_⟩;intros;refine dR ?_;refine A2 ⟨?_⟩;intros
   refine WP.loopS (ι:=Nat) (fun k=>k≤s.length∧∀b∈s.take k,okB b=true) (fun k=>s.length-k) (fun k=>fm [(0,lit (.pointer (some ⟨w,0,none⟩))),(1,str s),(25,lit (.int .i64 s.length)),(26,lit (.int .i64 k))]) (fun _=>(w,307,wrC a sb d lg)::Hb) 0
    ⟨an _,by simp⟩ lfA Sr ?_
   rintro k ⟨hk,hr⟩ K hK;by_cases hkl:k<s.length
   ·have ck:=AD (JV (s.getD k 0));have hlt:=JV (s.getD k 0);have hok:okB (s.getD k 0)=(mR (s.getD k 0).toNat||decide (48≤(s.getD k 0).toNat∧(s.getD k 0).toNat≤57)):=rfl
    have good:okB (s.getD k 0)=true→k+1≤s.length∧∀b∈s.take (k+1),okB b=true:=fun h=>⟨om,by
     rw [K6 hkl];intro b hb;rcases az.1 hb with hb|hb
     ·exact hr b hb
     ·rw [ar]at hb;subst hb;exact h⟩
    have bad:okB (s.getD k 0)=false→wO s=false:=fun h=>e1.trans (JH hkl h)
    clear hr c1 c2 hq;generalize mR (s.getD k 0).toNat=lt at *;cases lt with
    |true =>
     refine D1 ck ⟨?_⟩;intros;refine dR ?_;refine A2 ⟨?_⟩;intros;exact hK _ _ (k+1) (good hok) om lfA Sr
    |false =>
     rw [aW]at hok;by_cases h3:48≤(s.getD k 0).toNat
     ·by_cases h4:(s.getD k 0).toNat≤57
      ·rw [a9 ⟨h3,h4⟩]at hok;refine D1 ck ⟨?_⟩;intros;refine dR ?_;refine A2 ⟨?_⟩;intros;exact hK _ _ (k+1) (good hok) om lfA Sr
      ·rw [aa (fun h=>h4 h.2)]at hok;refine D1 ck ⟨?_⟩;intros;refine dr ?_;rw [hC];exact⟨bad hok,rfl⟩
     ·rw [aa (fun h=>h3 h.1)]at hok;refine D1 ck ⟨?_⟩;intros;refine dr ?_;rw [hC];exact⟨bad hok,rfl⟩
   ·have hke:k=s.length:=by omega
    subst hke;rw [aP]at hr;have hall:=e1.trans (Ni hr);clear hr c1 c2 hq e1;refine A2 ⟨?_⟩;intros;refine WfT (GE ha hb s om d lg) ?_;rintro _ _ ⟨s',Hb',hb',rfl,rfl⟩;simp only [ab,a8];refine A2 ⟨?_⟩;intros;exact gB _ _ jv Sr ⟨hall,s',Hb',hb',rfl,rfl⟩
end Go.Ab
