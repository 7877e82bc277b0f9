/- Texts laid one behind the other: GwM, ScR, PEach, Chr, Res, Name, RName. -/
import Derived.Test.YtjopjomoejfehaaGreatDoorB32
set_option linter.all false
set_option maxHeartbeats 16000000
namespace Go.Ab
open Go.Proofs
variable [Base]
theorem IM {p:Li→Prop}{l:Li}(h:p l):∀{a b:Tr},a.all p→b.all p→(mu l a b).all p
 | .leaf i, .leaf j,_,_=>by
  show(if i=j then Tr.leaf i else .node l (.leaf i) (.leaf j)).all p
  split
  ·trivial
  ·exact⟨h,trivial,trivial⟩
 | .leaf _, .node _ _ _,h1,h2=>⟨h,h1,h2⟩
 | .node _ _ _, .leaf _,h1,h2=>⟨h,h1,h2⟩
 | .node _ _ _, .node _ _ _,h1,h2=>⟨h,h1,h2⟩
theorem nU {p:Li→Prop}:∀{t:Tr}{c:List Li},t.all p→(dt t c).all p
 | .leaf _,_,_=>trivial
 | .node l a b,c,h=>by
  unfold dt;split
  ·exact nU h.2.1
  ·split
   ·exact nU h.2.2
   ·exact IM h.1 (nU h.2.1) (nU h.2.2)
theorem nT (op:Int) (hop:1≤op∧op≤4) (b:Tr) (hb:b.all fun l=>l.sm):∀(t:Tr) (c:List Li),(t.all fun l=>l.sm)→(∀m∈c,m.sm)→c.length+fg t+fg b≤90000→Pu Tryz.prog 24 [lit (.int .i64 op),rt t,rt b,lqs c] (rt (eA op t b c))
 | .leaf i,c,_,hc,hd=>by
  have d1:=nf b c hb hc (by simp only [fg]at hd;omega);have d2:=u9 (dt b c) (nU hb);have d3:=gz true;have d4:=gz false;show Pu _ _ _ (rt (qH op i b c))
  unfold qH;generalize lS (dt b c)=nb at *;generalize dt b c=rb at *;clear hb hc hd;have ho:op=1∨op=2∨op=3∨op=4:=by omega
  have en:rt (.leaf i)=pt (rc (.leaf i)):=rfl;rw [en,oz];rcases ho with rfl|rfl|rfl|rfl <;> cases i
  all_goals
   simp only [Int.reduceEq,gL,false_and,gN,and_false,eN,jy,or_true,kD,or_self,aV,aQ,bJ,Bool.true_eq_false,reduceCtorEq];refine Pi Tryz.func24 fun C=>?_
   refine D4 d1 d2 d3 d4 ⟨?_⟩;intros;exact E1
 | .node l x y,c,hall,hc,hd=>by
  have hd':c.length+(1+max (fg x) (fg y))+fg b≤90000:=hd;have p0:=zW hc hall.1 om;have d3:=nT op hop b hb x c hall.2.1 hc om;have d4:=nT op hop b hb y c hall.2.2 hc om;have n1:=rH c l;have n2:=rH c l.neg;have w1:=tX hc hall.1 om;have w2:=tX hc hall.1.neg om;have d0:=u5 l hall.1.ile;have d5:=nT op hop b hb x (fK c l) hall.2.1 (tN hc hall.1) om;have d6:=nT op hop b hb y (fK c l.neg) hall.2.2 (tN hc hall.1.neg) om;have d7:=CC l (eA op x b (fK c l)) (eA op y b (fK c l.neg)) hall.1.ile;unfold eA;clear hd hd' n1 n2 hc hall hb;generalize eA op x b c=ra at *;generalize eA op y b c=rb at *;generalize eA op x b (fK c l)=ra' at *;generalize eA op y b (fK c l.neg)=rb' at *;generalize mu l ra' rb'=rj at *;generalize fK c l=c1 at *;generalize fK c l.neg=c2 at *;have en:rt (.node l x y)=pt (rc (.node l x y)):=rfl;rw [en,m8];clear en;generalize mB c l=z at *;by_cases h1:z=1
  ·rw [if_pos h1];refine Pi Tryz.func24 fun C=>?_
   exact Y2 p0 d3
  ·rw [if_neg h1];by_cases h2:z = -1
   ·rw [if_pos h2];refine Pi Tryz.func24 fun C=>?_
    exact Y2 p0 d4
   ·rw [if_neg h2];refine Pi Tryz.func24 fun C=>?_
    repeat(first|(refine A1 ⟨?_⟩;intros)|refine W4 p0 ⟨?_⟩|refine W4 w1 ⟨?_⟩|refine W4 d0 ⟨?_⟩|refine W4 w2 ⟨?_⟩|refine W4 d5 ⟨?_⟩|refine W4 d6 ⟨?_⟩|refine W4 d7 ⟨?_⟩)
    exact E1
abbrev Nm (n:Nat):SV:=ex fun t:{t:Tr //∃L:List Li,L.length≤n∧(∀l∈L,l.sm)∧Gd L t}=>rt t.1
theorem nW {n:Nat}{t:Tr}(L:List Li) (h1:L.length≤n) (h2:∀l∈L,l.sm) (h3:Gd L t):Le (rt t) (Nm n):=Le.ex (f:=fun t:{t:Tr //∃L:List Li,L.length≤n∧(∀l∈L,l.sm)∧Gd L t}=>rt t.1) ⟨t,L,h1,h2,h3⟩ Lr
theorem tv:∀t:Tr,t.lin (oR t)
 | .leaf _=>trivial
 | .node l a b=>⟨Ms,Tr.lin.mono (fun x hx=>Mc (bV _ hx)) (tv a),Tr.lin.mono (fun x hx=>Mc (cO _ hx)) (tv b)⟩
theorem qu:∀t:Tr,(oR t).length=t.size
 | .leaf _=>rfl
 | .node l a b=>by
  rw [Tr.size_node,←qu a,←qu b];show(l::(oR a++oR b)).length=_
  rw [aE,ac];omega
theorem o9 {p:Li→Prop}:∀{t:Tr},t.all p→∀l∈oR t,p l
 | .leaf _,_,l,h=>by cases h
 | .node m a b,k,l,h=>by
  rcases an.1 h with h|h
  ·rw [h];exact k.1
  ·rcases az.1 h with h|h
   ·exact o9 k.2.1 l h
   ·exact o9 k.2.2 l h
theorem uP:∀t:Tr,fg t≤t.size
 | .leaf _=>ar _
 | .node l a b=>by
  have:=uP a;have:=uP b;rw [Tr.size_node];simp only [fg];omega
theorem Gd.mono {L M:List Li}(hs:∀l∈L,l∈M){t:Tr}(h:Gd L t):Gd M t:=⟨Tr.lin.mono hs h.1,h.2⟩
theorem B5 {L:List Li}(h:∀l∈L,l.sm):∀l∈L,l.ok:=fun l hl=>(h l hl).1
theorem BL {L:List Li}(h:∀l∈L,l.sm){t:Tr}(k:Gd L t):t.all fun l=>l.sm:=Tr.lin.all h k.1
theorem LO {rs:List (List Pq)}{fill:Int}(hrl:rs.length≤2) (hrs:∀r∈rs,oh r):∃L:List Li,L.length≤12∧(∀l∈L,l.sm)∧Gd L (dt (qP (inR rs fill) 20000 ((rs.map jq).flatten) []) []):=by
 have hLl:=o8 rs hrs;have hL:=BB hrs;have hlen:((rs.map jq).flatten).length≤12:=by have:=hLl;unfold mq at this;rw [cq]at this;omega
 have hfw:∀f∈(rs.map jq).flatten,FgG (mq rs) f:=fun f hf=>by
  obtain⟨e,he,hfe⟩:=kz.1 hf;obtain⟨r,hr,rfl⟩:=aj.1 he;exact(BT (hrs r hr) f hfe).2.2 _ (aj.2 ⟨f,hf,rfl⟩)
 have hphi:l7 (mq rs) (rs.map jq).flatten≤12*13:=aO (Bh _ _) (dk hlen om);obtain⟨_,_,z3⟩:=rS (inR rs fill) 20000 ((rs.map jq).flatten) [] hfw om;exact⟨mq rs,om,hL,Gd.restr (B5 hL) z3⟩
theorem mh (zs:List Int) (hz:zs.length≤400):PuT 30 zs [] (Nm 12):=by
 have key:∀(rs:List (List Pq)) (fill:Int),rs≠[]→rs.length≤2→(∀r∈rs,oh r)→(fill=1∨fill=2)→Pu Tryz.prog 60 [zm rs] (Jj rs)∧Pu Tryz.prog 59 [Jj rs,lit (.int .i64 fill)] (rgR rs fill (vS (mq rs)))∧Pu Tryz.prog 58 [rgR rs fill (vS (mq rs))] (rt (dt (qP (inR rs fill) 20000 ((rs.map jq).flatten) []) [])):=fun rs fill h0 hl hr hf =>
  ⟨Bd rs om hr,Ni fill h0 om hr,Ia hf om hr⟩
 have fin:∀(rs:List (List Pq)) (fill:Int),rs.length≤2→(∀r∈rs,oh r)→Le (rt (dt (qP (inR rs fill) 20000 ((rs.map jq).flatten) []) [])) (Nm 12):=fun rs fill hl hr=>by
  obtain⟨L,h1,h2,h3⟩:=LO (fill:=fill) hl hr;exact nW L h1 h2 h3
 refine PuM.intro Tryz.func30 rfl kr fun C b=>?_
 refine A2 ⟨?_⟩;intros;refine Wtx (Ch zs hz) mmA fun r=>?_
 obtain⟨r,hr⟩:=r;simp only [];refine Wo (nY (s:=rps r) (ds:=[rps r]) rfl inferInstance) ?_;refine A2 ⟨?_⟩;intros;refine Wtx (f9 zs hz 3 om om) mmA fun k=>?_
 obtain⟨k,hk⟩:=k;simp only [];by_cases hk0:k=0
 ·subst hk0;refine A2 ⟨?_⟩;intros;refine Wtx (Ch zs hz) mmA fun q=>?_
  obtain⟨q,hq⟩:=q;simp only [];refine Wo (ee (r:=[(0,[rps q])]) (cs:=[rps q]) (.cons (sv:=rps q) rfl inferInstance .nil)) ?_;refine Wo (cg (k:=1) (k0:=1) (ds:=[rps q]) rfl rfl rfl rfl om) ?_
  have hrs:∀x∈[r,q],oh x:=fun x hx=>by
   rcases an.1 hx with h|h
   ·rw [h];exact hr
   ·rw [au.1 h];exact hq
  have ca:=Bd [r,q] (by simp) hrs;refine D1 ca ⟨?_⟩;intros;refine Wtx (f9 zs hz 2 om om) mmA fun k=>?_
  obtain⟨k,hk⟩:=k;simp only [];have hf:(1+(k:Int))=1∨(1+(k:Int))=2:=by omega
  obtain⟨_,c1,c2⟩:=key [r,q] (1+(k:Int)) (by simp) (by simp) hrs hf;have hfin:=fin [r,q] (1+(k:Int)) (by simp) hrs;refine D2 c1 c2 ⟨?_⟩;intros;exact fG () _ (bO (RV.tmp rfl) hfin) mmA (LeL.refl _)
 ·refine A2 ⟨?_⟩;intros;have hrs:∀x∈[r],oh x:=fun x hx=>by rw [au.1 hx];exact hr
  have ca:=(Bd [r] (by simp) hrs).arg (l':=[xsl [rps r] 1]) ⟨yj,trivial⟩;refine D1 ca ⟨?_⟩;intros;refine Wtx (f9 zs hz 2 om om) mmA fun k=>?_
  obtain⟨k,hk⟩:=k;simp only [];have hf:(1+(k:Int))=1∨(1+(k:Int))=2:=by omega
  obtain⟨_,c1,c2⟩:=key [r] (1+(k:Int)) (by simp) (by simp) hrs hf;have hfin:=fin [r] (1+(k:Int)) (by simp) hrs;refine D2 c1 c2 ⟨?_⟩;intros;exact fG () _ (bO (RV.tmp rfl) hfin) mmA (LeL.refl _)
theorem pow_one (d:Nat):12≤12*2^d:=by have:0<2^d:=cZ om;omega
theorem H5 {l:Li}(hl:l.sm):Pu Tryz.prog 25 [rt (.node l (.leaf true) (.leaf false))] (rt (dt (.node l (.leaf true) (.leaf false)) [])):=qi _ ⟨hl,trivial,trivial⟩ (by simp [fg])
theorem H6 {l:Li}(hl:l.sm):Gd [l] (dt (.node l (.leaf true) (.leaf false)) []):=Gd.restr (fun x hx=>by rw [au.1 hx];exact hl.1) ⟨au.2 rfl,trivial,trivial⟩
theorem G5 {t:Tr}(h:t.all fun l=>l.ok∧l.le 1):Gd (oR t) (dt t []):=Gd.restr (fun l hl=>(o9 h l hl).1) (tv t)
theorem Ej (zs:List Int) (hz:zs.length≤400):∀d:Nat,d≤3→PuT 13 zs [lit (.int .i64 (d:Int))] (Nm (12*2^d)):=by
 intro d;induction d with
 |zero =>
  intro _;refine PuM.intro Tryz.func13 rfl kr fun C b=>?_
  refine A2 ⟨?_⟩;intros;refine Wtx (f9 zs hz 6 om om) mmA fun k=>?_
  obtain⟨k,hk⟩:=k;simp only [];rcases(by omega:k=1∨k=2∨k=3∨k=0∨(k≠0∧k≠1∧k≠2∧k≠3))with rfl|rfl|rfl|rfl|⟨k0,k1,k2,k3⟩
  ·refine A2 ⟨?_⟩;intros;refine Wtx (JE zs hz) mmA fun l=>?_
   obtain⟨l,hok,hle⟩:=l;simp only [];have c:=H5 (l:=l) ⟨hok,hle⟩;rw [show rt (.node l (.leaf true) (.leaf false))=pt (rc (.node l (.leaf true) (.leaf false)))from rfl,m8]at c;repeat(first|(refine Wo (cQ (sv:=ag _) rfl) ?_)|(refine Wdo (cQ (sv:=ag _) rfl) ?_)|(refine A1 ⟨?_⟩;intros)|refine W4 (gz true) ⟨?_⟩|refine W4 (gz false) ⟨?_⟩|refine W4 c ⟨?_⟩)
   exact fG () _ (bO (RV.tmp rfl) (nW [l] (by simp) (fun x hx=>by rw [au.1 hx];exact⟨hok,hle⟩) (H6 ⟨hok,hle⟩))) mmA (LeL.refl _)
  ·refine A2 ⟨?_⟩;intros;refine Wtx (xC zs hz 3 om) mmA fun t=>?_
   obtain⟨t,ht,hs⟩:=t;simp only [];have h8:t.size<8:=hs;have hd:=uP t;have c:=qi t ht om;have hln:=qu t;refine D1 c ⟨?_⟩;intros;exact fG () _ (bO (RV.tmp rfl) (nW (oR t) (by simp only [jK];omega) (fun x hx=>o9 ht x hx) (G5 ht))) mmA (LeL.refl _)
  ·refine A2 ⟨?_⟩;intros;refine Wtx (mh zs hz) mmA fun t=>?_
   obtain⟨t,L,h1,h2,h3⟩:=t;simp only [];have c:=u9 t (BL h2 h3);refine D1 c ⟨?_⟩;intros;exact fG () _ (bO (RV.tmp rfl) (nW L (by simpa using h1) h2 h3.not)) mmA (LeL.refl _)
  ·refine A2 ⟨?_⟩;intros;refine Wtx (mh zs hz) mmA fun t=>?_
   obtain⟨t,L,h1,h2,h3⟩:=t;simp only [];refine A2 ⟨?_⟩;intros;exact fG () _ (bO (RV.tmp rfl) (nW L (by simpa using h1) h2 h3)) mmA (LeL.refl _)
  ·refine A2 ⟨?_⟩;intros;refine Wtx (mh zs hz) mmA fun t=>?_
   obtain⟨t,L,h1,h2,h3⟩:=t;simp only [];refine A2 ⟨?_⟩;intros;exact fG () _ (bO (RV.tmp rfl) (nW L (by simpa using h1) h2 h3)) mmA (LeL.refl _)
 |succ d ih =>
  intro hd;have hr:=ih om;rw [show(d:Int)=((d+1:Nat):Int)-1 from by omega]at hr;have hp:=pow_one (d+1);have hp8:12*2^(d+1)=12*2^d+12*2^d:=by rw [bU];omega
  have hp3:2^d≤2^3:=gQ om om;clear ih;refine PuM.intro Tryz.func13 rfl kr fun C b=>?_
  refine A2 ⟨?_⟩;intros;refine Wtx (f9 zs hz 6 om om) mmA fun k=>?_
  obtain⟨k,hk⟩:=k;simp only [];rcases(by omega:k=0∨k=1∨k=2∨k=3∨(k≠0∧k≠1∧k≠2∧k≠3))with rfl|rfl|rfl|rfl|⟨k0,k1,k2,k3⟩
  ·refine A2 ⟨?_⟩;intros;refine Wtx hr mmA fun t=>?_
   obtain⟨t,L,h1,h2,h3⟩:=t;simp only [];refine A2 ⟨?_⟩;intros;refine Wtx (f9 zs hz 4 om om) mmA fun o=>?_
   obtain⟨o,ho⟩:=o;simp only [];refine A2 ⟨?_⟩;intros;refine Wtx hr mmA fun u=>?_
   obtain⟨u,M,m1,m2,m3⟩:=u;simp only [];have q1:=h3.dep;have q2:=m3.dep;have hLM:∀l∈L++M,l.sm:=fun l hl=>(az.1 hl).elim (h2 l) (m2 l)
   have g1:=Gd.mono (M:=L++M) (fun l hl=>bV _ hl) h3;have g2:=Gd.mono (M:=L++M) (fun l hl=>cO _ hl) m3;have c:=nT (1+(o:Int)) om u (BL m2 m3) t [] (BL h2 h3) (fun m h=>by cases h) (by simp only [br];omega);have c':=c.arg (l':=[lit (.int .i64 (1+(o:Int))),rt t,rt u,lit (.slice none 0 0)]) ⟨Le.refl _,Le.refl _,Le.refl _,iC,trivial⟩;have hg:Gd (L++M) (eA (1+(o:Int)) t u []):=Gd.merge (B5 hLM) g1.1 g2.1;have hlen:(L++M).length≤12*2^(d+1):=by rw [ac];omega
   generalize eA (1+(o:Int)) t u []=r at *;clear c h3 m3 g1 g2 h2 m2;refine D1 c' ⟨?_⟩;intros;exact fG () _ (bO (RV.tmp rfl) (nW (L++M) hlen hLM hg)) mmA (LeL.refl _)
  ·refine A2 ⟨?_⟩;intros;refine Wtx (JE zs hz) mmA fun l=>?_
   obtain⟨l,hok,hle⟩:=l;simp only [];have c:=H5 (l:=l) ⟨hok,hle⟩;rw [show rt (.node l (.leaf true) (.leaf false))=pt (rc (.node l (.leaf true) (.leaf false)))from rfl,m8]at c;repeat(first|(refine Wo (cQ (sv:=ag _) rfl) ?_)|(refine Wdo (cQ (sv:=ag _) rfl) ?_)|(refine A1 ⟨?_⟩;intros)|refine W4 (gz true) ⟨?_⟩|refine W4 (gz false) ⟨?_⟩|refine W4 c ⟨?_⟩)
   exact fG () _ (bO (RV.tmp rfl) (nW [l] (by simp only [bh];omega) (fun x hx=>by rw [au.1 hx];exact⟨hok,hle⟩) (H6 ⟨hok,hle⟩))) mmA (LeL.refl _)
  ·refine A2 ⟨?_⟩;intros;refine Wtx (xC zs hz 3 om) mmA fun t=>?_
   obtain⟨t,ht,hs⟩:=t;simp only [];have h8:t.size<8:=hs;have hd:=uP t;have c:=qi t ht om;have hln:=qu t;refine D1 c ⟨?_⟩;intros;exact fG () _ (bO (RV.tmp rfl) (nW (oR t) om (fun x hx=>o9 ht x hx) (G5 ht))) mmA (LeL.refl _)
  ·refine A2 ⟨?_⟩;intros;refine Wtx (mh zs hz) mmA fun t=>?_
   obtain⟨t,L,h1,h2,h3⟩:=t;simp only [];have c:=u9 t (BL h2 h3);refine D1 c ⟨?_⟩;intros;exact fG () _ (bO (RV.tmp rfl) (nW L om h2 h3.not)) mmA (LeL.refl _)
  ·refine A2 ⟨?_⟩;intros;refine Wtx (mh zs hz) mmA fun t=>?_
   obtain⟨t,L,h1,h2,h3⟩:=t;simp only [];refine A2 ⟨?_⟩;intros;exact fG () _ (bO (RV.tmp rfl) (nW L om h2 h3)) mmA (LeL.refl _)
structure SN where
 st:List Tr
 cnt:Nat
 s:SV
 Hs:LH
def szL (l:List Tr):Nat:=(l.map aH).sum
def msL (l:List Tr):Nat:=(l.map fun t=>2*aH t+1).sum
theorem Cl (l:List Tr) (x:Tr):szL (l++[x])=szL l+aH x:=by unfold szL;simp
theorem r6 (l:List Tr) (x:Tr):msL (l++[x])=msL l+(2*aH x+1):=by unfold msL;simp
theorem GR:∀l:List Tr,l.length≤msL l
 | []=>ar _
 |x::l=>by
  have:=GR l;unfold msL at *;simp only [aG,lx,aE];omega
theorem P0 (b:Nat) (m:Nat) (t:Tr) (hm:m+aH t≤100000000):PuH Tryz.prog 40 [bt t,fnv 41 [] [lit (.pointer (some ⟨b,0,none⟩))]] [(b,iT,[lit (.int .i64 (m:Nat))])] (fun r H'=>r=Ab.tup []∧H'=[(b,iT,[lit (.int .i64 ((m+aH t:Nat):Int))])]) noX:=by
 refine PuH.intro Tryz.func40 rfl kr fun C hC=>?_
 refine A2 ⟨?_⟩;intros;rename_i b8
 refine WP.loopS (ι:=SN) (fun y=>Own ptT 1 y.st.length (y.st.map bt) y.s y.Hs∧y.cnt+szL y.st=m+aH t∧msL y.st≤2*aH t+1) (fun y=>msL y.st)
  (fun y=>fm [(1,fnv 41 [] [lit (.pointer (some ⟨b,0,none⟩))]),(4,y.s)]) (fun y=>y.Hs++[(b,iT,[lit (.int .i64 (y.cnt:Nat))])]) ⟨[t],m,lit (.slice (some ⟨b8,0,none⟩) 1 1),[(b8,ptT,[bt t])]⟩
  ⟨⟨rfl, .inr ⟨b8,1,ar _,by decide,rfl,rfl⟩⟩,by simp [szL],by simp [msL]⟩ lfA Sr ?_
 rintro ⟨st,cnt,s,Hs⟩ ⟨hown,hsz,hms⟩ K hK;simp only at hown hsz hms⊢;have hco:=hown.co;have hlen:=GR st;rcases List.eq_nil_or_concat st with rfl|⟨st',x,rfl⟩
 ·have hown0:=hown;simp only [szL,fw,List.sum_nil,cA]at hsz;subst hsz;simp only [br]at hown0;clear hK;repeat(first|(refine A1 ⟨?_⟩;intros)|(refine Wo (be hown0 rfl) ?_)|(refine Wdo (be hown0 rfl) ?_)|(refine Wog (be hown0 rfl) ?_)|(refine fO (be hown0 rfl) ?_))
  exact gE _ _ jx (xc _ _) ⟨rfl,rfl⟩
 ·rw [List.concat_eq_append]at *;rw [Cl]at hsz;rw [r6]at hms;have hl1:(st'++[x]).length=st'.length+1:=by simp
  rw [hl1]at hlen;have hlb:st'.length+1≤300000000:=by have e:=r6 st' x;rw [e]at hlen;omega
  obtain⟨b1,c1,hnc,hcm,rfl,rfl⟩:=hown.blk (by rw [hl1];omega);have hil:((st'++[x]).map bt).length=(st'++[x]).length*1:=by rw [cq,cw]
  obtain⟨hownr,hle⟩:=Own.cut (T:=ptT) (j:=st'.length) (b:=b1) hil hnc hcm (by rw [hl1];omega);have htk:((st'++[x]).map bt).take (st'.length*1)=st'.map bt:=by rw [cw,aB,ny (by simp)]
  have hgt:((st'++[x]).map bt++List.replicate (c1*1-(st'++[x]).length*1) top)[st'.length]? = some (bt x):=by
   rw [dO (by simp),aB,gh (by simp)];simp
  rw [htk]at hownr hle;have cf:=JY b cnt om x;rw [hl1]at hnc hle hgt⊢;clear hown htk hil hlen;simp only [aa,a8];cases x with
  |leaf i =>
   have d1:=i8 i;have hgo:=fun F' H'=>hK F' H' ⟨st',cnt,lit (.slice (some ⟨b1,0,none⟩) st'.length c1),_⟩ ⟨hownr,by simp only [aH]at hsz⊢;omega,by simp only;omega⟩ (by simp only;rw [r6];omega)
   rw [show(if aH (.leaf i)=0 then 0 else 1)=0 from rfl,cA]at cf;clear hK;refine A2 ⟨?_⟩;intros;rw [show(((st'.length+1:Nat):Int)-1)=((st'.length:Nat):Int) by omega];refine Wo (eR rfl mmA hgt) ?_;refine A2 ⟨?_⟩;intros;refine Wo (uh st'.length rfl rfl rfl om) ?_;refine WPL.lowB (.here _) hle ?_;refine A2 ⟨?_⟩;intros;refine WvT cf ?_;rintro _ _ ⟨rfl,rfl⟩;simp only [aa,a8];refine D1 d1 ⟨?_⟩;intros;exact hgo _ _ lfA Sr
  |node l u v =>
   have d1:=i7 l u v
   have hadd:∀s' H',Own ptT 1 (st'.length+2) (st'.map bt++[bt v,bt u]) s' H'→Own ptT 1 (st'++[v]++[u]).length ((st'++[v]++[u]).map bt) s' H':=fun s' H' h=>by
    rw [aB,aB,av];simpa using h
   have hgo:=fun s' H1 (h:Own ptT 1 (st'.length+2) (st'.map bt++[bt v,bt u]) s' H1) F' H'=>hK F' H' ⟨st'++[v]++[u],cnt+1,s',H1⟩ ⟨hadd s' H1 h,by simp only [aH,Cl]at hsz⊢;omega,by simp only [aH,r6]at hms⊢;omega⟩ (by simp only [aH,r6];omega)
   rw [show(if aH (.node l u v)=0 then 0 else 1)=1 from if_neg (by simp only [aH];omega)]at cf;have en:bt (.node l u v)=pt (bc (.node l u v)):=rfl;rw [en,oH]at d1 cf hgt;clear hK hadd en;refine A2 ⟨?_⟩;intros;rw [show(((st'.length+1:Nat):Int)-1)=((st'.length:Nat):Int) by omega];refine Wo (eR rfl mmA hgt) ?_;refine A2 ⟨?_⟩;intros;refine Wo (uh st'.length rfl rfl rfl om) ?_;refine WPL.lowB (.here _) hle ?_;refine A2 ⟨?_⟩;intros;refine WvT cf ?_;rintro _ _ ⟨rfl,rfl⟩;simp only [aa,a8];repeat(first|(refine AS ⟨?_⟩;intros)|(refine O1 ⟨?_⟩;intros)|(refine Wcx (d1) ?_)|(refine iN (d1) ?_))
   refine WdZ 11 [0,1,2,3,4,5,6,7,8,9,10] [10] [(b1,ptT,st'.map bt++List.replicate (c1*1-st'.length*1) top)] [(b,iT,[lit (.int .i64 ((cnt+1:Nat):Int))])] ?_;refine ZkD 10 ?_;repeat(first|(refine Wo (ee (r:=[(0,[bt v]),(1,[bt u])]) (cs:=[bt v,bt u]) (.cons (sv:=bt v) rfl inferInstance (.cons (sv:=bt u) rfl inferInstance .nil))) ?_)|(refine Wdo (ee (r:=[(0,[bt v]),(1,[bt u])]) (cs:=[bt v,bt u]) (.cons (sv:=bt v) rfl inferInstance (.cons (sv:=bt u) rfl inferInstance .nil))) ?_)|(refine A1 ⟨?_⟩;intros))
   refine Bx ?_;refine SD (k0:=2) (ds:=[bt v,bt u]) hownr (Tk.same _) om (fun s' H' hown'=>?_);refine ZkN ?_;have hco':=hown'.co;replace hgo:=hgo s' H' hown';clear hown';rw [bw];refine A2 ⟨?_⟩;intros;exact hgo _ _ lfA Sr
theorem z9 (t:Tr) (h:aH t≤100000000):Pu Tryz.prog 17 [bt t] (lit (.int .i64 (aH t:Nat))):=by
 refine PuH.toPu ?_;refine PuH.intro Tryz.func17 rfl kr fun C hC=>?_
 refine A2 ⟨?_⟩;intros;rename_i b3;have c:=P0 b3 0 t om;rw [aD]at c;refine A2 ⟨?_⟩;intros;refine WfT c ?_;rintro _ _ ⟨rfl,rfl⟩;simp only [aa,a8];refine A2 ⟨?_⟩;intros;exact cD _ _ (bO (RV.tmp rfl) Lr) (aF _) rfl
def mP (b:Nat):Bool:=decide (97≤b∧b≤122∨65≤b∧b≤90∨b=95)
abbrev u8 (b:Nat):SV:=lit (.int .u8 (b:Int))
def Fq (l:List UInt8) (b:Nat):Int:=match (List.range (⟨l.toArray⟩:ByteArray).size).find? fun i=>(⟨l.toArray⟩:ByteArray)[i]! == (b:Int).toNat.toUInt8 with
 |some i=>(i:Int)
 |none => -1
theorem K8 (l:List UInt8){b:Nat}(hb:b<256) (w:World):(Extern.BytealgIndexByte.indexByte #[.string ⟨l.toArray⟩, .int .u8 (b:Int)]).run Tryz.prog w = .ok (.int .i64 (Fq l b)) w:=by
 have hdef:Extern.BytealgIndexByte.indexByte #[.string ⟨l.toArray⟩, .int .u8 (b:Int)]=(match (List.range (⟨l.toArray⟩:ByteArray).size).find? fun i=>(⟨l.toArray⟩:ByteArray)[i]! == (b:Int).toNat.toUInt8 with
  |some i=>pure (goInt i)
  |none=>pure (goInt (-1))):=rfl
 rw [hdef];unfold Fq;split <;> rfl
section
variable {F:Fr}{H:LH}{ty:TypeId}
theorem NT {x y:Operand}{l:List UInt8}{b:Nat}{tys:Array TypeId}(hx:ev F x=str l) (hy:ev F y=u8 b) (hb:b<256):OpV Tryz.prog (.call ⟨.value (.func 307),[x,y].toArray,tys⟩) ty F H (lit (.int .i64 (Fq l b))) :=
 OpV.pure fun m w o a ho _ _ _ h=>by
  have h0:=h x (by simp [Op.operands,Call.operands]);rw [hx,ap]at h0;have h1:=h y (by simp [Op.operands,Call.operands]);rw [hy,ap]at h1;have h8:=@run_callFunc_extern Tryz.prog 307 _ Extern.BytealgIndexByte.indexByte Tryz.func307 kr kr kr kr;refine⟨_,?_,ap.2 rfl⟩;have:=h8 #[a.eval x,a.eval y] w;rw [h0,h1,K8 l hb]at this;simp only [execOp,ho,resolve,Sem.run_bind,Sem.run_pure,Result.andThen_ok];have e1:a.eval (.func 307) = .func (.func 307) #[] #[]:=rfl;simp only [e1,Deferred.ofValue,Sem.run_pure,Result.andThen_ok,invoke,hZ,aG,fw,kH,lF,h0,h1,this]
end
theorem Cp (l:List UInt8){b:Nat}(hb:b<256):Pu Tryz.prog 283 [str l,u8 b] (lit (.int .i64 (Fq l b))):=by
 refine Pi Tryz.func283 fun C=>?_
 refine A2 ⟨?_⟩;intros;refine Wo (NT rfl rfl hb) ?_;exact Z1
theorem Na (l:List UInt8){b:Nat}(hb:b<256):Pu Tryz.prog 258 [str l,u8 b] (lit (.int .i64 (Fq l b))):=by
 refine Pi Tryz.func258 fun C=>?_
 exact Y1 (Cp l hb)
def K4:List UInt8:=[40,41,123,125,44,59,61,43,45,42,47,94,126]
def yW (b:Nat):Int :=
 if b=32∨b=9∨b=13∨b=10 then 1 else if b=35 then 2 else if 48≤b∧b≤57 then 4 else if 97≤b∧b≤122∨65≤b∧b≤90∨b=95 then 3 else if 0≤Fq K4 b then 5 else 0
theorem yY {b:Nat}(hb:b<256):Pu Tryz.prog 219 [u8 b] (lit (.int .i64 (yW b))):=by
 unfold yW;by_cases h1:b=32∨b=9∨b=13∨b=10
 ·rw [if_pos h1];rcases h1 with rfl|rfl|rfl|rfl <;>
  ·refine Pi Tryz.func219 fun C=>?_
   exact Z1
 ·rw [if_neg h1];by_cases h2:b=35
  ·rw [if_pos h2];subst h2;refine Pi Tryz.func219 fun C=>?_
   exact Z1
  ·rw [if_neg h2];have ha:b≠32:=by omega
   have hc:b≠9:=by omega
   have hd:b≠13:=by omega
   have he:b≠10:=by omega
   clear h1;by_cases h3:48≤b∧b≤57
   ·rw [if_pos h3];obtain⟨h3,h4⟩:=h3;refine Pi Tryz.func219 fun C=>?_
    exact Z1
   ·rw [if_neg h3];by_cases h4:97≤b∧b≤122
    ·rw [if_pos (.inl h4)];obtain⟨h4,h5⟩:=h4;clear h3;refine Pi Tryz.func219 fun C=>?_
     exact Z1
    ·by_cases h5:65≤b∧b≤90
     ·rw [if_pos (.inr (.inl h5))];obtain⟨h5,h6⟩:=h5;clear h3 h4;refine Pi Tryz.func219 fun C=>?_
      exact Z1
     ·by_cases h6:b=95
      ·rw [if_pos (.inr (.inr h6))];subst h6;clear h3 h4 h5;refine Pi Tryz.func219 fun C=>?_
       exact Z1
      ·rw [if_neg om];have key:b<48∨(57<b∧b<65)∨(90<b∧b<97)∨122<b:=by omega
       have c:=Na K4 hb;clear h3 h4 h5;generalize Fq K4 b=z at *;by_cases hz:0≤z
       ·rw [if_pos hz];rcases key with P1|⟨P1,P2⟩|⟨P1,P2⟩|P1
        all_goals
         refine Pi Tryz.func219 fun C=>?_
         exact Y1 c
       ·rw [if_neg hz];rcases key with P1|⟨P1,P2⟩|⟨P1,P2⟩|P1
        all_goals
         refine Pi Tryz.func219 fun C=>?_
         exact Y1 c
theorem R7 (b:Nat):decide (yW b=3)=mP b:=by
 unfold yW mP;by_cases h1:b=32∨b=9∨b=13∨b=10
 ·rw [if_pos h1,ab om,ab om]
 ·rw [if_neg h1];by_cases h2:b=35
  ·rw [if_pos h2,ab om,ab om]
  ·rw [if_neg h2];by_cases h3:48≤b∧b≤57
   ·rw [if_pos h3,ab om,ab om]
   ·rw [if_neg h3];by_cases h4:97≤b∧b≤122∨65≤b∧b≤90∨b=95
    ·rw [if_pos h4,a9 rfl,a9 h4]
    ·rw [if_neg h4,ab h4];split <;> rfl
theorem Ap {b:Nat}(hb:b<256):Pu Tryz.prog 246 [u8 b] (lit (.bool (mP b))):=by
 rw [←R7];have c:=yY hb;generalize yW b=z at *;refine Pi Tryz.func246 fun C=>?_
 exact Y1 c
def Ju:List (List UInt8):=[[98,117,100,103,101,116],[114,105,110,103],[114,101,103,105,111,110],[101,118,101,110,111,100,100],[110,111,110,122,101,114,111],[111,117,116,108,105,110,101],[102,97,114],[99,104,97,105,110],[108,101,116],[97,114,101,97],[99,101,110,116,114,111,105,100],[99,108,97,115,115,105,102,121],[101,109,112,116,121],[101,113,117,97,108],[115,117,98,115,101,116],[99,101,108,108,115],[110,111,100,101,115],[112,97,114,116,115],[101,120,112,111,114,116],[97,108,108],[110,111,110,101],[104,97,108,102]]
def xQ (s:List UInt8):Bool:=decide (s∈Ju)
theorem gY {s w:List UInt8}(h:s=w) (hw:decide (w∈Ju)=true:=by decide +kernel):lit (.bool true)=lit (.bool (xQ s)):=by subst h;unfold xQ;rw [hw]
theorem Q7 {s:List UInt8}(h0:¬s=[98,117,100,103,101,116]) (h1:¬s=[114,105,110,103]) (h2:¬s=[114,101,103,105,111,110]) (h3:¬s=[101,118,101,110,111,100,100]) (h4:¬s=[110,111,110,122,101,114,111]) (h5:¬s=[111,117,116,108,105,110,101]) (h6:¬s=[102,97,114]) (h7:¬s=[99,104,97,105,110]) (h8:¬s=[108,101,116]) (h9:¬s=[97,114,101,97]) (h10:¬s=[99,101,110,116,114,111,105,100]) (h11:¬s=[99,108,97,115,115,105,102,121]) (h12:¬s=[101,109,112,116,121]) (h13:¬s=[101,113,117,97,108]) (h14:¬s=[115,117,98,115,101,116]) (h15:¬s=[99,101,108,108,115]) (h16:¬s=[110,111,100,101,115]) (h17:¬s=[112,97,114,116,115]) (h18:¬s=[101,120,112,111,114,116]) (h19:¬s=[97,108,108]) (h20:¬s=[110,111,110,101]) (h21:¬s=[104,97,108,102]):lit (.bool false)=lit (.bool (xQ s)):=by
 unfold xQ Ju;rw [ab (by simp only [an,fE,eN,not_or];exact⟨h0,h1,h2,h3,h4,h5,h6,h7,h8,h9,h10,h11,h12,h13,h14,h15,h16,h17,h18,h19,h20,h21⟩)]
theorem we (s:List UInt8):Pu Tryz.prog 247 [str s] (lit (.bool (xQ s))):=by
 refine Pi Tryz.func247 fun C=>?_
 refine A2 ⟨?_⟩;intros;by_cases h0:s=[98,117,100,103,101,116]
 ·refine Wo (bZ (b:=[98,117,100,103,101,116]) rfl rfl (a9 h0)) ?_;refine A2 ⟨?_⟩;intros;refine E1 (h:=Le.of_eq ?_);exact gY h0
 refine Wo (bZ (b:=[98,117,100,103,101,116]) rfl rfl (ab h0)) ?_;refine A2 ⟨?_⟩;intros;by_cases h1:s=[114,105,110,103]
 ·refine Wo (bZ (b:=[114,105,110,103]) rfl rfl (a9 h1)) ?_;refine A2 ⟨?_⟩;intros;refine E1 (h:=Le.of_eq ?_);exact gY h1
 refine Wo (bZ (b:=[114,105,110,103]) rfl rfl (ab h1)) ?_;refine A2 ⟨?_⟩;intros;by_cases h2:s=[114,101,103,105,111,110]
 ·refine Wo (bZ (b:=[114,101,103,105,111,110]) rfl rfl (a9 h2)) ?_;refine A2 ⟨?_⟩;intros;refine E1 (h:=Le.of_eq ?_);exact gY h2
 refine Wo (bZ (b:=[114,101,103,105,111,110]) rfl rfl (ab h2)) ?_;refine A2 ⟨?_⟩;intros;by_cases h3:s=[101,118,101,110,111,100,100]
 ·refine Wo (bZ (b:=[101,118,101,110,111,100,100]) rfl rfl (a9 h3)) ?_;refine A2 ⟨?_⟩;intros;refine E1 (h:=Le.of_eq ?_);exact gY h3
 refine Wo (bZ (b:=[101,118,101,110,111,100,100]) rfl rfl (ab h3)) ?_;refine A2 ⟨?_⟩;intros;by_cases h4:s=[110,111,110,122,101,114,111]
 ·refine Wo (bZ (b:=[110,111,110,122,101,114,111]) rfl rfl (a9 h4)) ?_;refine A2 ⟨?_⟩;intros;refine E1 (h:=Le.of_eq ?_);exact gY h4
 refine Wo (bZ (b:=[110,111,110,122,101,114,111]) rfl rfl (ab h4)) ?_;refine A2 ⟨?_⟩;intros;by_cases h5:s=[111,117,116,108,105,110,101]
 ·refine Wo (bZ (b:=[111,117,116,108,105,110,101]) rfl rfl (a9 h5)) ?_;refine A2 ⟨?_⟩;intros;refine E1 (h:=Le.of_eq ?_);exact gY h5
 refine Wo (bZ (b:=[111,117,116,108,105,110,101]) rfl rfl (ab h5)) ?_;refine A2 ⟨?_⟩;intros;by_cases h6:s=[102,97,114]
 ·refine Wo (bZ (b:=[102,97,114]) rfl rfl (a9 h6)) ?_;refine A2 ⟨?_⟩;intros;refine E1 (h:=Le.of_eq ?_);exact gY h6
 refine Wo (bZ (b:=[102,97,114]) rfl rfl (ab h6)) ?_;refine A2 ⟨?_⟩;intros;by_cases h7:s=[99,104,97,105,110]
 ·refine Wo (bZ (b:=[99,104,97,105,110]) rfl rfl (a9 h7)) ?_;refine A2 ⟨?_⟩;intros;refine E1 (h:=Le.of_eq ?_);exact gY h7
 refine Wo (bZ (b:=[99,104,97,105,110]) rfl rfl (ab h7)) ?_;refine A2 ⟨?_⟩;intros;by_cases h8:s=[108,101,116]
 ·refine Wo (bZ (b:=[108,101,116]) rfl rfl (a9 h8)) ?_;refine A2 ⟨?_⟩;intros;refine E1 (h:=Le.of_eq ?_);exact gY h8
 refine Wo (bZ (b:=[108,101,116]) rfl rfl (ab h8)) ?_;refine A2 ⟨?_⟩;intros;by_cases h9:s=[97,114,101,97]
 ·refine Wo (bZ (b:=[97,114,101,97]) rfl rfl (a9 h9)) ?_;refine A2 ⟨?_⟩;intros;refine E1 (h:=Le.of_eq ?_);exact gY h9
 refine Wo (bZ (b:=[97,114,101,97]) rfl rfl (ab h9)) ?_;refine A2 ⟨?_⟩;intros;by_cases h10:s=[99,101,110,116,114,111,105,100]
 ·refine Wo (bZ (b:=[99,101,110,116,114,111,105,100]) rfl rfl (a9 h10)) ?_;refine A2 ⟨?_⟩;intros;refine E1 (h:=Le.of_eq ?_);exact gY h10
 refine Wo (bZ (b:=[99,101,110,116,114,111,105,100]) rfl rfl (ab h10)) ?_;refine A2 ⟨?_⟩;intros;by_cases h11:s=[99,108,97,115,115,105,102,121]
 ·refine Wo (bZ (b:=[99,108,97,115,115,105,102,121]) rfl rfl (a9 h11)) ?_;refine A2 ⟨?_⟩;intros;refine E1 (h:=Le.of_eq ?_);exact gY h11
 refine Wo (bZ (b:=[99,108,97,115,115,105,102,121]) rfl rfl (ab h11)) ?_;refine A2 ⟨?_⟩;intros;by_cases h12:s=[101,109,112,116,121]
 ·refine Wo (bZ (b:=[101,109,112,116,121]) rfl rfl (a9 h12)) ?_;refine A2 ⟨?_⟩;intros;refine E1 (h:=Le.of_eq ?_);exact gY h12
 refine Wo (bZ (b:=[101,109,112,116,121]) rfl rfl (ab h12)) ?_;refine A2 ⟨?_⟩;intros;by_cases h13:s=[101,113,117,97,108]
 ·refine Wo (bZ (b:=[101,113,117,97,108]) rfl rfl (a9 h13)) ?_;refine A2 ⟨?_⟩;intros;refine E1 (h:=Le.of_eq ?_);exact gY h13
 refine Wo (bZ (b:=[101,113,117,97,108]) rfl rfl (ab h13)) ?_;refine A2 ⟨?_⟩;intros;by_cases h14:s=[115,117,98,115,101,116]
 ·refine Wo (bZ (b:=[115,117,98,115,101,116]) rfl rfl (a9 h14)) ?_;refine A2 ⟨?_⟩;intros;refine E1 (h:=Le.of_eq ?_);exact gY h14
 refine Wo (bZ (b:=[115,117,98,115,101,116]) rfl rfl (ab h14)) ?_;refine A2 ⟨?_⟩;intros;by_cases h15:s=[99,101,108,108,115]
 ·refine Wo (bZ (b:=[99,101,108,108,115]) rfl rfl (a9 h15)) ?_;refine A2 ⟨?_⟩;intros;refine E1 (h:=Le.of_eq ?_);exact gY h15
 refine Wo (bZ (b:=[99,101,108,108,115]) rfl rfl (ab h15)) ?_;refine A2 ⟨?_⟩;intros;by_cases h16:s=[110,111,100,101,115]
 ·refine Wo (bZ (b:=[110,111,100,101,115]) rfl rfl (a9 h16)) ?_;refine A2 ⟨?_⟩;intros;refine E1 (h:=Le.of_eq ?_);exact gY h16
 refine Wo (bZ (b:=[110,111,100,101,115]) rfl rfl (ab h16)) ?_;refine A2 ⟨?_⟩;intros;by_cases h17:s=[112,97,114,116,115]
 ·refine Wo (bZ (b:=[112,97,114,116,115]) rfl rfl (a9 h17)) ?_;refine A2 ⟨?_⟩;intros;refine E1 (h:=Le.of_eq ?_);exact gY h17
 refine Wo (bZ (b:=[112,97,114,116,115]) rfl rfl (ab h17)) ?_;refine A2 ⟨?_⟩;intros;by_cases h18:s=[101,120,112,111,114,116]
 ·refine Wo (bZ (b:=[101,120,112,111,114,116]) rfl rfl (a9 h18)) ?_;refine A2 ⟨?_⟩;intros;refine E1 (h:=Le.of_eq ?_);exact gY h18
 refine Wo (bZ (b:=[101,120,112,111,114,116]) rfl rfl (ab h18)) ?_;refine A2 ⟨?_⟩;intros;by_cases h19:s=[97,108,108]
 ·refine Wo (bZ (b:=[97,108,108]) rfl rfl (a9 h19)) ?_;refine A2 ⟨?_⟩;intros;refine E1 (h:=Le.of_eq ?_);exact gY h19
 refine Wo (bZ (b:=[97,108,108]) rfl rfl (ab h19)) ?_;refine A2 ⟨?_⟩;intros;by_cases h20:s=[110,111,110,101]
 ·refine Wo (bZ (b:=[110,111,110,101]) rfl rfl (a9 h20)) ?_;refine A2 ⟨?_⟩;intros;refine E1 (h:=Le.of_eq ?_);exact gY h20
 refine Wo (bZ (b:=[110,111,110,101]) rfl rfl (ab h20)) ?_;refine A2 ⟨?_⟩;intros;by_cases h21:s=[104,97,108,102]
 ·refine Wo (bZ (b:=[104,97,108,102]) rfl rfl (a9 h21)) ?_;refine A2 ⟨?_⟩;intros;refine E1 (h:=Le.of_eq ?_);exact gY h21
 refine Wo (bZ (b:=[104,97,108,102]) rfl rfl (ab h21)) ?_;refine A2 ⟨?_⟩;intros;refine E1 (h:=Le.of_eq ?_);exact Q7 h0 h1 h2 h3 h4 h5 h6 h7 h8 h9 h10 h11 h12 h13 h14 h15 h16 h17 h18 h19 h20 h21
def okB (b:UInt8):Bool:=mP b.toNat||decide (48≤b.toNat∧b.toNat≤57)
def wA (s:List UInt8):Bool:=decide (1≤s.length)&&decide (s.length≤24)&&mP (s.getD 0 0).toNat && !xQ s&&s.all okB
theorem Jk {s:List UInt8}{p:UInt8→Bool}{k:Nat}(hk:k<s.length) (h:p (s.getD k 0)=false):s.all p=false:=by
 rw [List.all_eq_false];exact⟨s.getD k 0,by simp [List.getD,hk],by rw [h];exact Bool.false_ne_true⟩
theorem JG {s:List UInt8}{k:Nat}(hk:k<s.length):s.take (k+1)=s.take k++[s.getD k 0]:=by
 rw [nk];simp [List.getD,hk]
theorem ME {s:List UInt8}{p:UInt8→Bool}(h:∀b∈s,p b=true):s.all p=true:=fP.2 h
theorem Jz (b:UInt8):b.toNat<256:=b.toNat_lt
theorem Og {a:SV}{w:Nat}(ha:a=ws∨a=vB w){l:List UInt8}{sb:SV}{Hb:LH}(hb:Byt l sb Hb) (s:List UInt8) (hs:s.length≤1000) (hl:l.length≤100000000) (d:Nat) (lg:Bool) :
  PuH Tryz.prog 202 [lit (.pointer (some ⟨w,0,none⟩)),str s] ((w,279,wrC a sb d lg)::Hb)
   (fun r H=>wA s=true∧∃s' Hb',Byt (l++s) s' Hb'∧r=Ab.tup []∧H=(w,279,wrC (vB w) s' d lg)::Hb') (fun pv _=>wA s=false∧pv=inval):=by
 by_cases h1:1≤s.length
 case neg =>
  refine PuH.intro Tryz.func202 rfl kr fun C hC=>?_
  refine A2 ⟨?_⟩;intros;refine du ?_;rw [hC];exact⟨by unfold wA;rw [ab h1];rfl,rfl⟩
 by_cases h2:s.length≤24
 case neg =>
  refine PuH.intro Tryz.func202 rfl kr fun C hC=>?_
  refine A2 ⟨?_⟩;intros;refine du ?_;rw [hC];exact⟨by unfold wA;rw [ab h2,aU];rfl,rfl⟩
 have c1:=Ap (Jz (s.getD 0 0));have c2:=we s;have e0:wA s=(mP (s.getD 0 0).toNat && !xQ s&&s.all okB):=by unfold wA;rw [a9 h1,a9 h2,bd,bd]
 cases hq:mP (s.getD 0 0).toNat with
 |false =>
  rw [hq]at c1 e0;refine PuH.intro Tryz.func202 rfl kr fun C hC=>?_
  refine A2 ⟨?_⟩;intros;refine WgE ?_;refine Wo (ui (i:=0) rfl rfl om) ?_;refine D1 c1 ⟨?_⟩;intros;refine du ?_;rw [hC];exact⟨e0,rfl⟩
 |true =>
  rw [hq]at c1 e0;cases hr:xQ s with
  |true =>
   rw [hr]at c2 e0;refine PuH.intro Tryz.func202 rfl kr fun C hC=>?_
   refine A2 ⟨?_⟩;intros;refine WgE ?_;refine Wo (ui (i:=0) rfl rfl om) ?_;refine D2 c1 c2 ⟨?_⟩;intros;refine du ?_;rw [hC];exact⟨e0,rfl⟩
  |false =>
   rw [hr]at c2 e0;have e1:wA s=s.all okB:=e0;clear e0;refine PuH.intro Tryz.func202 rfl kr fun C hC=>?_
   refine A2 ⟨?_⟩;intros;refine WgE ?_;refine Wo (ui (i:=0) rfl rfl om) ?_;refine D2 c1 c2 ⟨?_⟩;intros;refine dQ ?_;refine A2 ⟨?_⟩;intros
   refine WP.loopS (ι:=Nat) (fun k=>k≤s.length∧∀b∈s.take k,okB b=true) (fun k=>s.length-k) (fun k=>fm [(0,lit (.pointer (some ⟨w,0,none⟩))),(1,str s),(25,lit (.int .i64 s.length)),(26,lit (.int .i64 k))]) (fun _=>(w,279,wrC a sb d lg)::Hb) 0
    ⟨ak _,by simp⟩ lfA Sr ?_
   rintro k ⟨hk,hr⟩ K hK;by_cases hkl:k<s.length
   ·have ck:=Ap (Jz (s.getD k 0));have hlt:=Jz (s.getD k 0);have hok:okB (s.getD k 0)=(mP (s.getD k 0).toNat||decide (48≤(s.getD k 0).toNat∧(s.getD k 0).toNat≤57)):=rfl
    have good:okB (s.getD k 0)=true→k+1≤s.length∧∀b∈s.take (k+1),okB b=true:=fun h=>⟨om,by
     rw [JG hkl];intro b hb;rcases az.1 hb with hb|hb
     ·exact hr b hb
     ·rw [au]at hb;subst hb;exact h⟩
    have bad:okB (s.getD k 0)=false→wA s=false:=fun h=>e1.trans (Jk hkl h)
    clear hr c1 c2 hq;generalize mP (s.getD k 0).toNat=lt at *;cases lt with
    |true =>
     refine D1 ck ⟨?_⟩;intros;refine dQ ?_;refine A2 ⟨?_⟩;intros;exact hK _ _ (k+1) (good hok) om lfA Sr
    |false =>
     rw [aW]at hok;by_cases h3:48≤(s.getD k 0).toNat
     ·by_cases h4:(s.getD k 0).toNat≤57
      ·rw [a9 ⟨h3,h4⟩]at hok;refine D1 ck ⟨?_⟩;intros;refine dQ ?_;refine A2 ⟨?_⟩;intros;exact hK _ _ (k+1) (good hok) om lfA Sr
      ·rw [ab (fun h=>h4 h.2)]at hok;refine D1 ck ⟨?_⟩;intros;refine du ?_;rw [hC];exact⟨bad hok,rfl⟩
     ·rw [ab (fun h=>h3 h.1)]at hok;refine D1 ck ⟨?_⟩;intros;refine du ?_;rw [hC];exact⟨bad hok,rfl⟩
   ·have hke:k=s.length:=by omega
    subst hke;rw [aX]at hr;have hall:=e1.trans (ME hr);clear hr c1 c2 hq e1;refine A2 ⟨?_⟩;intros;refine WfT (Gq ha hb s om d lg) ?_;rintro _ _ ⟨s',Hb',hb',rfl,rfl⟩;simp only [aa,a8];refine A2 ⟨?_⟩;intros;exact gE _ _ jx Sr ⟨hall,s',Hb',hb',rfl,rfl⟩
end Go.Ab
