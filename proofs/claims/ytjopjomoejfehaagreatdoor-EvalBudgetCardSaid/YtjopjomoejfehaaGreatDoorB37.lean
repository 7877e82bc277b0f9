/- Texts laid one behind the other: Evl, EvL, EvW, Add64, BndN, Bnd. -/
import Derived.Test.YtjopjomoejfehaaGreatDoorB36
set_option linter.all false
set_option maxHeartbeats 16000000
namespace Go.Ab
open Go.Proofs
variable [Base]
def wy (n:Nd):Li:=thr n.a.v n.b.v n.c.v n.e.v
def zz (n:Nd):Bool:=decide (n.c.v-n.a.v=0∧n.e.v-n.b.v=0)
def evP (nm:List (List UInt8)) (ts out:List Tr) (n:Nd):Except Nat Tr :=
 if n.k=1 then(if sA nm n.nm<0 then .error 5 else .ok (dt (ts.getD (sA nm n.nm).toNat (.leaf false)) []))
 else if n.k=4 then(if zz n=true then .error 3 else .ok (.node (wy n) (.leaf true) (.leaf false)))
 else if n.k=5 then .ok (lS (out.getD n.x.toNat (.leaf false)))
 else if n.k=6 then .ok (eA n.op (out.getD n.x.toNat (.leaf false)) (out.getD n.y.toNat (.leaf false)) [])
 else .ok (.leaf (decide (n.k=2)))
def ug (free:Bool) (bud:Int) (t:Tr):Bool := !free&&decide (bud<(aH t:Nat))
def kX (nm:List (List UInt8)) (ts:List Tr) (free:Bool) (bud:Int):List Nd→List Tr→Except (Nat×Nd) (List Tr)
 | [],out => .ok out
 |n::r,out=>match evP nm ts out n with
  | .error e => .error (e,n)
  | .ok t=>if ug free bud t=true then .error (7,n)else kX nm ts free bud r (out++[t])
structure NdV (i:Nat) (n:Nd):Prop where
 ok:okN n=true
 x:n.k=5∨n.k=6→0≤n.x∧n.x.toNat<i
 y:n.k=6→0≤n.y∧n.y.toNat<i
theorem JO:∀{ns:List Nd}{i:Nat}{st:List (Ex×Nat)},(stk ns i st).isSome=true→(∀p∈st,p.2<i)→∀j n,ns[j]? = some n→NdV (i+j) n
 | [],_,_,_,_,j,n,h=>by simp at h
 |m::ns,i,st,hs,hst,j,n,h=>by
  rw [nQ]at hs;cases hp:stp i m st with
  |none=>rw [hp]at hs;cases hs
  |some st' =>
   rw [hp]at hs
   have hok:okN m=true:=by
    unfold stp at hp;split at hp
    ·assumption
    ·cases hp
   have key:NdV i m∧∀p∈st',p.2<i+1:=by
    unfold stp at hp;rw [if_pos hok]at hp;by_cases k5:m.k=5
    ·rw [if_pos k5]at hp;match st,hst,hp with
     | [],_,hp=>cases hp
     |(x,q)::r,hst,hp =>
      simp only at hp;split at hp
      ·rename_i hx;cases hp;have hq:=hst (x,q) Ms;simp only at hq;refine⟨⟨hok,fun _=>⟨om,om⟩,fun e=>by omega⟩,fun p hp=>?_⟩;rcases an.1 hp with rfl|hp
       ·show i<i+1;omega
       ·have:=hst p (Mc hp);omega
      ·cases hp
    ·rw [if_neg k5]at hp;by_cases k6:m.k=6
     ·rw [if_pos k6]at hp;match st,hst,hp with
      | [],_,hp=>cases hp
      | [_],_,hp=>cases hp
      |(y,k)::(x,q)::r,hst,hp =>
       simp only at hp;split at hp
       ·rename_i hx;cases hp;have hq:=hst (x,q) (by simp);have hk:=hst (y,k) (by simp);simp only at hq hk;refine⟨⟨hok,fun _=>⟨om,om⟩,fun _=>⟨om,om⟩⟩,fun p hp=>?_⟩;rcases an.1 hp with rfl|hp
        ·show i<i+1;omega
        ·have:=hst p (by simp [hp]);omega
       ·cases hp
     ·rw [if_neg k6]at hp;cases hp;refine⟨⟨hok,fun e=>by omega,fun e=>absurd e k6⟩,fun p hp=>?_⟩;rcases an.1 hp with rfl|hp
      ·show i<i+1;omega
      ·have:=hst p hp;omega
   cases j with
   |zero =>
    simp only [f8,bA]at h;rw [←h];exact key.1
   |succ j =>
    have:=JO hs key.2 j n (by simpa using h);rw [show i+(j+1)=i+1+j by omega];exact this
theorem GJ {ns:List Nd}{t:List UInt8}(h:otx ns=some t):(stk ns 0 []).isSome=true:=by
 unfold otx at h;cases hs:stk ns 0 []with
 |none=>rw [hs]at h;cases h
 |some st=>rfl
structure EvE (L:List Li) (LL:Nat) (nm:List (List UInt8)) (ts:List Tr):Prop where
 ok:∀l∈L,l.ok
 le:∀l∈L,l.le LL
 l1:1≤LL
 l2:LL≤500
 len:L.length≤100
 tl:∀t∈ts,t.lin L
 dep:∀t∈ts,fg t≤1024
 nl:nm.length=ts.length
 ns:nm.length≤1000
theorem EvE.all {L:List Li}{LL:Nat}{nm:List (List UInt8)}{ts:List Tr}(h:EvE L LL nm ts){t:Tr}(k:t.lin L):t.all fun l=>l.le LL:=Tr.lin.all h.le k
theorem FD {L:List Li}{LL:Nat}{nm:List (List UInt8)}{ts out:List Tr}(h:EvE L LL nm ts) (ho:∀t∈out,Gd L t){n:Nd}(hh:n.k=4→zz n=false→wy n∈L){t:Tr}(e:evP nm ts out n = .ok t):Gd L t:=by
 have hg:∀i,Gd L (out.getD i (.leaf false)):=fun i=>by
  rw [cL];cases hi:out[i]? with
  |none=>exact Gd.leaf L false
  |some t=>exact ho t (bo hi)
 have ht:∀i,(ts.getD i (.leaf false)).lin L:=fun i=>by
  rw [cL];cases hi:ts[i]? with
  |none=>exact trivial
  |some t=>exact h.tl t (bo hi)
 unfold evP at e;split at e
 ·split at e
  ·cases e
  ·cases e;exact Gd.restr h.ok (ht _)
 ·split at e
  ·rename_i k4;split at e
   ·cases e
   ·rename_i hd;cases e;have hm:=hh k4 (by simpa using hd);exact Gd.half hm (h.ok _ hm) _ _
  ·split at e
   ·cases e;exact(hg _).not
   ·split at e
    ·cases e;exact Gd.merge h.ok (hg _).1 (hg _).1
    ·cases e;exact Gd.leaf L _
theorem Hk {L:List Li}{LL:Nat}{nm:List (List UInt8)}{ts:List Tr}(h:EvE L LL nm ts){free:Bool}{bud:Int}:∀{ns:List Nd}{out o:List Tr},(∀n∈ns,n.k=4→zz n=false→wy n∈L)→(∀t∈out,Gd L t)→kX nm ts free bud ns out = .ok o→(∀t∈o,Gd L t)∧o.length=out.length+ns.length
 | [],out,o,_,ho,e=>by cases e;exact⟨ho,rfl⟩
 |n::ns,out,o,hh,ho,e=>by
  unfold kX at e;cases hp:evP nm ts out n with
  |error x=>rw [hp]at e;cases e
  |ok t =>
   rw [hp]at e;simp only at e;split at e
   ·cases e
   ·have hg:=FD h ho (hh n Ms) hp;obtain⟨a,b⟩:=Hk h (fun m hm=>hh m (Mc hm)) (fun t ht=>(az.1 ht).elim (ho t) fun h=>by rw [au.1 h];exact hg) e;exact⟨a,by rw [b,ac,bh,aE];omega⟩
def Oz (n:Nd):List UInt8:=if n.k=1 then n.nm else if n.k=2 then [97,108,108]else if n.k=3 then [110,111,110,101]else if n.k=4 then [104,97,108,102]else if n.k=5 then [126]else if n.op=1 then [43]else if n.op=2 then [42]else if n.op=3 then [45]else [94]
theorem O7 {n:Nd}(h:okN n=true):n.k≠6→n.op=0:=by
 unfold okN at h;simp only [bX,bQ,df]at h;obtain⟨⟨⟨⟨⟨h1,_⟩,_⟩,h2⟩,_⟩,_⟩:=h;intro hk;rcases h2 with h2|h2
 ·exact absurd h2.1.1 hk
 ·exact h2.2
theorem Lp (n:Nd) (h:okN n=true):Pu Tryz.prog 71 [ag (ndx n)] (str (Oz n)):=by
 obtain⟨hk,hop⟩:=Ae h;have h0:=O7 h;obtain⟨k,nm,a,b,c,e,op,x,y,ln,cl⟩:=n;simp only at hk hop h0;unfold Oz;simp only;have hkk:(k=1∨k=2∨k=3∨k=4∨k=5)∨k=6:=by omega
 clear h;rcases hkk with hkk|rfl
 ·obtain rfl:=h0 om;clear hk hop h0;rcases hkk with rfl|rfl|rfl|rfl|rfl
  all_goals
   simp only [Int.reduceEq,aV,aQ];refine Pi Tryz.func71 fun C=>?_
   refine A2 ⟨?_⟩;intros;refine Wo (jk (e:=9) (len:=5) (cs:=[str [],str [43],str [42],str [45],str [94]]) kr (by repeat(first|exact dJ.nil|(apply dJ.cons;exact Eq.refl (lit _);infer_instance))) (by exact rfl)) ?_;repeat(first|(refine AS ⟨?_⟩;intros)|(refine O1 ⟨?_⟩;intros))
   refine WdN 8 ?_;refine A2 ⟨?_⟩;intros;refine Wdo (fJ (e:=9) (len:=5) kr rfl rfl (by dsimp only;decide) (by dsimp only;decide)) ?_;refine A2 ⟨?_⟩;intros;refine Wdo (jk (e:=9) (len:=7) (cs:=[str [],str nm,str [97,108,108],str [110,111,110,101],str [104,97,108,102],str [126],str []]) kr (by repeat(first|exact dJ.nil|(apply dJ.cons;exact Eq.refl (lit _);infer_instance))) (by exact rfl)) ?_;refine A2 ⟨?_⟩;intros;refine Wo (fJ (e:=9) (len:=7) kr rfl rfl (by dsimp only;decide) (by dsimp only;decide)) ?_;exact Z1
 ·obtain⟨o1,o2⟩:=hop rfl;clear hk h0 hop;have ho:op=1∨op=2∨op=3∨op=4:=by omega
  rcases ho with rfl|rfl|rfl|rfl
  all_goals
   simp only [Int.reduceEq,aV,aQ];refine Pi Tryz.func71 fun C=>?_
   refine A2 ⟨?_⟩;intros;refine Wo (jk (e:=9) (len:=5) (cs:=[str [],str [43],str [42],str [45],str [94]]) kr (by repeat(first|exact dJ.nil|(apply dJ.cons;exact Eq.refl (lit _);infer_instance))) (by exact rfl)) ?_;repeat(first|(refine AS ⟨?_⟩;intros)|(refine O1 ⟨?_⟩;intros))
   refine WdN 8 ?_;refine A2 ⟨?_⟩;intros;refine Wdo (fJ (e:=9) (len:=5) kr rfl rfl (by dsimp only;decide) (by dsimp only;decide)) ?_;refine A2 ⟨?_⟩;intros;refine Wdo (jk (e:=9) (len:=7) (cs:=[str [],str nm,str [97,108,108],str [110,111,110,101],str [104,97,108,102],str [126],str _]) kr (by repeat(first|exact dJ.nil|(apply dJ.cons;exact Eq.refl (lit _);infer_instance))) (by exact rfl)) ?_;refine A2 ⟨?_⟩;intros;refine Wo (fJ (e:=9) (len:=7) kr rfl rfl (by dsimp only;decide) (by dsimp only;decide)) ?_;exact Z1
theorem Gu (x y u v:Rat) (hx:ht x≤1000000) (hy:ht y≤1000000) (hu:ht u≤1000000) (hv:ht v≤1000000):Pu Tryz.prog 155 [pp x y,pp u v] (pp (x-u) (y-v)):=by
 have c1:=tZ x u om om;have c2:=tZ y v om om;refine Pi Tryz.func155 fun C=>?_
 exact X2 c1 c2
theorem CK (x y:Rat) (hy:ht y≤1000000):Pu Tryz.prog 156 [pp x y] (pp (-y) x):=by
 have c1:=m7 y om;refine Pi Tryz.func156 fun C=>?_
 exact X1 c1
abbrev zlf:SV:=ag [lit (.int .i64 0),lit (.int .i64 0),lit (.pointer none),lit (.int .i64 0),lit (.int .i64 0),lit (.pointer none),lit (.int .i64 0),lit (.int .i64 0),lit (.pointer none)]
theorem QG (a b c:Rat) (ha:a=0) (hb:b=0):Pu Tryz.prog 157 [fr a,fr b,fr c] (Ab.tup [zlf,lit (.bool false)]):=by
 have c1:=rG a;have c2:=rG b;rw [a9 (gc.2 ha)]at c1;rw [a9 (gc.2 hb)]at c2;clear ha hb;refine Pi Tryz.func157 fun C=>?_
 refine D2 c1 c2 ⟨?_⟩;intros;exact G3
theorem Cj {x y u v:Rat}{L:Nat}(hx:ht x≤L) (hy:ht y≤L) (hu:ht u≤L) (hv:ht v≤L):ht (u-x)≤2*L+1∧ht (-(v-y))≤2*L+1∧ht (v-y)≤2*L+1∧ht (-(v-y)*x+(u-x)*y)≤6*L+5∧ht (-(-(v-y)*x+(u-x)*y))≤6*L+5:=by
 have h1:=gU u x;have h2:=gU v y;have h3:=gq (v-y);have h4:=bF (-(v-y)) x;have h5:=bF (u-x) y;have h6:=fh (-(v-y)*x) ((u-x)*y);have h7:=gq (-(v-y)*x+(u-x)*y);omega
theorem MY {x y u v:Rat}{L:Nat}(hL:L≤10000) (hx:ht x≤L) (hy:ht y≤L) (hu:ht u≤L) (hv:ht v≤L) (h:¬(u-x=0∧v-y=0)):Pu Tryz.prog 110 [pp x y,pp u v] (Ab.tup [lfl (thr x y u v),lit (.bool true)]):=by
 obtain⟨a1,a2,a3,a4,a5⟩:=Cj hx hy hu hv;have c1:=Gu u v x y om om om om;have c2:=CK (u-x) (v-y) om;have c3:=uf (-(v-y)) (u-x) x y om om om om;have c4:=m7 (-(v-y)*x+(u-x)*y) om
 have hne : -(v-y)≠0∨u-x≠0:=by
  by_cases e:u-x=0
  ·left;intro e2;exact h ⟨e,by grind⟩
  ·exact .inr e
 have c5:=Or (-(v-y)) (u-x) (-(-(v-y)*x+(u-x)*y)) (L:=6*L+5) om om om om hne;unfold thr lfl;generalize jw (-(v-y)) (u-x) (-(-(v-y)*x+(u-x)*y))=l at *;generalize -(-(v-y)*x+(u-x)*y)=e3 at *;generalize -(v-y)*x+(u-x)*y=e4 at *;generalize -(v-y)=e1 at *;generalize v-y=e5 at *;generalize u-x=e2 at *;clear h hne a1 a2 a3 a4 a5;refine Pi Tryz.func110 fun C=>?_
 refine D5 c1 c2 c3 c4 c5 ⟨?_⟩;intros;exact G3
theorem PW {x y u v:Rat}{L:Nat}(hL:L≤10000) (hx:ht x≤L) (hy:ht y≤L) (hu:ht u≤L) (hv:ht v≤L) (h:u-x=0∧v-y=0):Pu Tryz.prog 110 [pp x y,pp u v] (Ab.tup [zlf,lit (.bool false)]):=by
 obtain⟨a1,a2,a3,a4,a5⟩:=Cj hx hy hu hv;have c1:=Gu u v x y om om om om;have c2:=CK (u-x) (v-y) om;have c3:=uf (-(v-y)) (u-x) x y om om om om;have c4:=m7 (-(v-y)*x+(u-x)*y) om;have c5:=QG (-(v-y)) (u-x) (-(-(v-y)*x+(u-x)*y)) (by rw [h.2];rfl) h.1;generalize -(-(v-y)*x+(u-x)*y)=e3 at *;generalize -(v-y)*x+(u-x)*y=e4 at *;generalize -(v-y)=e1 at *;generalize v-y=e5 at *;generalize u-x=e2 at *;clear h a1 a2 a3 a4 a5;refine Pi Tryz.func110 fun C=>?_
 refine D5 c1 c2 c3 c4 c5 ⟨?_⟩;intros;exact G3
theorem F7 {L:List Li}{LL:Nat}{nm:List (List UInt8)}{ts:List Tr}(h:EvE L LL nm ts) (op:Int) (hop:1≤op∧op≤4){a b:Tr}(ha:Gd L a) (hb:Gd L b):Pu Tryz.prog 161 [lit (.int .i64 op),bt a,bt b] (Ab.tup [bt (eA op a b []),lit .nilIface]):=by
 have d1:=ha.dep;have d2:=hb.dep;have hl:=h.len;have c1:=ri a om;have c2:=ri b om;have c3:=r7 h.l1 h.l2 op hop b (h.all hb.1) a [] (h.all ha.1) (fun s hs=>by cases hs) (by simp only [br];omega);have c3':=c3.arg (l':=[lit (.int .i64 op),bt a,bt b,lit (.slice none 0 0)]) ⟨Le.refl _,Le.refl _,Le.refl _,iC,trivial⟩;rw [EZ dc (ld h.ok ha.1) (ld h.ok hb.1)]at c3';have hg:=(Gd.merge (op:=op) h.ok ha.1 hb.1).size h.ok;have hm:L.length*(1+L.length)≤100*101:=dk hl om;have c4:=z9 (eA op a b []) om;generalize eA op a b []=r at *;generalize L.length*(1+L.length)=q at *;clear c3 ha hb h;refine Pi Tryz.func161 fun C=>?_
 refine D4 c1 c2 c3' c4 ⟨?_⟩;intros;exact G2
theorem PT {L:List Li}{LL:Nat}{nm:List (List UInt8)}{ts:List Tr}(h:EvE L LL nm ts) (op:Int) (hop:1≤op∧op≤4){a b:Tr}(ha:Gd L a) (hb:Gd L b):Pu Tryz.prog 113 [lit (.int .i64 op),bt a,bt b] (Ab.tup [bt (eA op a b []),lit .nilIface]):=by
 have c:=F7 h op hop ha hb;clear ha hb h;refine Pi Tryz.func113 fun C=>?_
 refine D1 c ⟨?_⟩;intros;exact G2
theorem En {x y:Nat×TypeId×List SV}{H:LH}:List.Sublist H (x::y::H) := .cons _ (.cons _ (.refl _))
theorem Rm {x y z:Nat×TypeId×List SV}{H:LH}:List.Sublist H (x::y::z::H) := .cons _ En
abbrev R2 (nm:List (List UInt8)) (ts:List Tr):SV:=ag [sl (nm.map str) nm.length,sl (ts.map bt) ts.length]
def Ky (gn gr:Nat):Except Nat Tr→SV
 | .ok t=>Ab.tup [bt t,lit .nilIface]
 | .error e=>Ab.tup [lit (.pointer none),lit (jo (if e=5 then gn else gr))]
theorem JC {l:List Tr}{k:Nat}{t:Tr}(h:l[k]? = some t):((l.map bt).drop (k*1)).take 1=[bt t]:=by
 rw [cw,←rB,mQ h];rfl
theorem Ek {l:List Tr}{k j:Nat}{t:Tr}(h:l[k]? = some t):(l.map bt++List.replicate j top)[k]? = some (bt t):=by
 have hk:=(bC.1 h).1;rw [dO (by simpa using hk),gG,h];rfl
theorem M0 [iO 0] [iO 1]{L:List Li}{LL:Nat}{nm:List (List UInt8)}{ts:List Tr}(h:EvE L LL nm ts){out:List Tr}(ho:∀t∈out,Gd L t) (hol:out.length≤100){n:Nd}{N:Nat}(hn:n.ok N) (hN:N≤1000) (hv:NdV out.length n){s:SV}{Hs:LH}(hown:Own ptT 1 out.length (out.map bt) s Hs) :
  PuH Tryz.prog 70 [R2 nm ts,ag (ndx n),s] Hs (fun r H'=>H'=Hs∧r=Ky 0 1 (evP nm ts out n)) noX:=by
 obtain⟨hk,hop⟩:=Ae hv.ok;have hco:=hown.co;unfold evP;have hkk:n.k=1∨n.k=2∨n.k=3∨n.k=4∨n.k=5∨n.k=6:=by omega
 rcases hkk with k1|k1|k1|k1|k1|k1
 ·rw [if_pos k1];have cx:=DH nm n.nm (by have:=h.ns;omega);rcases Hg nm n.nm with⟨hf,hf'⟩|⟨i,hf,hi⟩
  ·rw [if_pos hf];rw [hf']at cx;clear hv hop ho hown h;refine PuH.intro Tryz.func70 rfl kr fun C hC=>?_
   refine D1 cx ⟨?_⟩;intros;exact cD _ _ (eJ (RV.tmp rfl) (RV.tmp rfl) Lr) En ⟨rfl,rfl⟩
  ·have hit:i<ts.length:=by rw [←h.nl];exact hi
   have hti:=ax hit;have htm:=fC hit;generalize ts[i]=t at hti htm;have hgd:ts.getD i (.leaf false)=t:=by rw [List.getD,hti];rfl
   rw [if_neg om,hf,e9,hgd];rw [hf]at cx;have d1:=ri t (by have:=h.dep t htm;omega);have d0:=h.dep t htm;have d2:=FP h.l1 h.l2 t (h.all (h.tl t htm)) om;rw [EG dc (ld h.ok (h.tl t htm))]at d2;have hat:=JC hti;have hne:ts.map bt≠[]:=fun e=>by rw [lr]at e;rw [e]at hit;simp at hit
   generalize dt t []=r at *;generalize bt t=bbt at *;have hlt:=h.ns;have hnl:=h.nl;clear hv hop ho hown h hti htm hgd;refine PuH.intro Tryz.func70 rfl kr fun C hC=>?_
   refine D1 cx ⟨?_⟩;intros;refine Wo (ae (cs':=[bbt]) rfl rfl om om hat hne) ?_;refine D1 d1 ⟨?_⟩;intros;refine Wo (ae (cs':=[bbt]) rfl rfl om om hat hne) ?_;refine D1 d2 ⟨?_⟩;intros;exact cD _ _ (eJ (RV.tmp rfl) (RV.tmp rfl) Lr) En ⟨rfl,rfl⟩
 ·rw [if_neg om,if_neg om,if_neg om,if_neg om,a9 k1];have c:=mc true;clear hv hop ho hown h;refine PuH.intro Tryz.func70 rfl kr fun C hC=>?_
  refine D1 c ⟨?_⟩;intros;exact cD _ _ (eJ (RV.tmp rfl) (RV.tmp rfl) Lr) En ⟨rfl,rfl⟩
 ·rw [if_neg om,if_neg om,if_neg om,if_neg om,ab om];have c:=mc false;clear hv hop ho hown h;refine PuH.intro Tryz.func70 rfl kr fun C hC=>?_
  refine D1 c ⟨?_⟩;intros;exact cD _ _ (eJ (RV.tmp rfl) (RV.tmp rfl) Lr) En ⟨rfl,rfl⟩
 ·rw [if_neg om,if_pos k1];have p1:=Gt hn.a hn.b om;have p2:=Gt hn.c hn.e om;have v1:=uH hn.a;have v2:=uH hn.b;have v3:=uH hn.c;have v4:=uH hn.e;have l1:=mc true;have l2:=mc false;have l3:=x9 (wy n) (.leaf true) (.leaf false);cases hd:zz n with
  |true =>
   have c:=PW (L:=1001) om (by omega:ht n.a.v≤1001) (by omega:ht n.b.v≤1001) (by omega:ht n.c.v≤1001) (by omega:ht n.e.v≤1001) (gH hd);rw [if_pos rfl];clear hv hop ho hown h hn v1 v2 v3 v4 l1 l2 l3 hd;refine PuH.intro Tryz.func70 rfl kr fun C hC=>?_
   refine D3 p1 p2 c ⟨?_⟩;intros;exact cD _ _ (eJ (RV.tmp rfl) (RV.tmp rfl) Lr) Rm ⟨rfl,rfl⟩
  |false =>
   have c:=MY (L:=1001) om (by omega:ht n.a.v≤1001) (by omega:ht n.b.v≤1001) (by omega:ht n.c.v≤1001) (by omega:ht n.e.v≤1001) (lI hd);rw [if_neg (by decide)];rw [show thr n.a.v n.b.v n.c.v n.e.v=wy n from rfl]at c;generalize wy n=l at *;clear hv hop ho hown h hn v1 v2 v3 v4 hd;refine PuH.intro Tryz.func70 rfl kr fun C hC=>?_
   repeat(first|(refine A1 ⟨?_⟩;intros)|refine W4 p1 ⟨?_⟩|refine W4 p2 ⟨?_⟩|refine W4 c ⟨?_⟩|refine W4 l1 ⟨?_⟩|refine W4 l2 ⟨?_⟩|refine W4 l3 ⟨?_⟩)
   exact cD _ _ (eJ (RV.tmp rfl) (RV.tmp rfl) Lr) Rm ⟨rfl,rfl⟩
 ·rw [if_neg om,if_neg om,if_pos k1];obtain⟨x1,x2⟩:=hv.x (.inl k1);obtain⟨x,hx⟩:∃x:Nat,n.x=(x:Int):=⟨n.x.toNat,om⟩
  rw [hx,e9]at x2⊢;have hti:=ax x2;generalize out[x]=t at hti;have hgd:out.getD x (.leaf false)=t:=by rw [List.getD,hti];rfl
  rw [hgd];have c:=mf t;obtain⟨b1,c1,hnc,hcm,rfl,rfl⟩:=hown.blk om;have hgt:(out.map bt++List.replicate (c1*1-out.length*1) top)[((x:Int)).toNat*1]? = some (bt t):=by rw [show((x:Int)).toNat*1=x from by omega];exact Ek hti
  generalize lS t=r at *;generalize bt t=bbt at *;clear hv hop ho hown h hti hgd hn;refine PuH.intro Tryz.func70 rfl kr fun C hC=>?_
  refine A2 ⟨?_⟩;intros;rw [hx];refine Wo (eR rfl mmA hgt) ?_;refine D1 c ⟨?_⟩;intros;exact cD _ _ (eJ (RV.tmp rfl) (RV.tmp rfl) Lr) En ⟨rfl,rfl⟩
 ·rw [if_neg om,if_neg om,if_neg om,if_pos k1];obtain⟨x1,x2⟩:=hv.x (.inr k1);obtain⟨y1,y2⟩:=hv.y k1;obtain⟨x,hx⟩:∃x:Nat,n.x=(x:Int):=⟨n.x.toNat,om⟩
  obtain⟨y,hy⟩:∃y:Nat,n.y=(y:Int):=⟨n.y.toNat,om⟩
  rw [hx,e9]at x2⊢;rw [hy,e9]at y2⊢;have hti:=ax x2;have htj:=ax y2;have m1:=ho _ (fC x2);have m2:=ho _ (fC y2);generalize out[x]=t at hti m1;generalize out[y]=u at htj m2;have hgd:out.getD x (.leaf false)=t:=by rw [List.getD,hti];rfl
  have hge:out.getD y (.leaf false)=u:=by rw [List.getD,htj];rfl
  rw [hgd,hge];have c:=PT h n.op (hop k1) m1 m2;obtain⟨b1,c1,hnc,hcm,rfl,rfl⟩:=hown.blk om;have hgt:(out.map bt++List.replicate (c1*1-out.length*1) top)[((x:Int)).toNat*1]? = some (bt t):=by rw [show((x:Int)).toNat*1=x from by omega];exact Ek hti
  have hgu:(out.map bt++List.replicate (c1*1-out.length*1) top)[((y:Int)).toNat*1]? = some (bt u):=by rw [show((y:Int)).toNat*1=y from by omega];exact Ek htj
  generalize eA n.op t u []=r at *;generalize bt t=bbt at *;generalize bt u=bbu at *;clear hv hop ho hown h hti hgd hge htj hn m1 m2;refine PuH.intro Tryz.func70 rfl kr fun C hC=>?_
  refine A2 ⟨?_⟩;intros;rw [hx];refine Wdo (eR rfl mmA hgt) ?_;refine A2 ⟨?_⟩;intros;rw [hy];refine Wdo (eR rfl mmA hgu) ?_;refine D1 c ⟨?_⟩;intros;exact cD _ _ (eJ (RV.tmp rfl) (RV.tmp rfl) Lr) En ⟨rfl,rfl⟩
section
variable {F:Fr}{H:LH}{ty:TypeId}
theorem uk {x y z:Operand}{X Y:Nat}{tys:Array TypeId}(hx:ev F x=lit (.int .u64 X)) (hy:ev F y=lit (.int .u64 Y)) (hz:ev F z=lit (.int .u64 0)) :
  OpV Tryz.prog (.call ⟨.value (.func 75),[x,y,z].toArray,tys⟩) ty F H (tup [lit (.int .u64 ((X+Y)%18446744073709551616:Nat)),lit (.int .u64 ((X+Y)/18446744073709551616:Nat))]) :=
 OpV.pure fun m w o a ho _ _ _ h=>by
  have h0:=h x (by simp [Op.operands,Call.operands]);rw [hx,ap]at h0;have h1:=h y (by simp [Op.operands,Call.operands]);rw [hy,ap]at h1;have h2:=h z (by simp [Op.operands,Call.operands]);rw [hz,ap]at h2;have h8:=@run_callFunc_extern Tryz.prog 75 _ add64Entry Tryz.func75 kr kr kr kr;refine⟨.tuple #[.int .u64 ((X+Y)%18446744073709551616:Nat), .int .u64 ((X+Y)/18446744073709551616:Nat)],?_,?_⟩
  ·have:=h8 #[a.eval x,a.eval y,a.eval z] w;rw [h0,h1,h2,run_add64 _ _ _ om om om om]at this;have q1:((X:Int)+Y+0)%18446744073709551616=((X+Y)%18446744073709551616:Nat):=by omega
   have q2:((X:Int)+Y+0)/18446744073709551616=((X+Y)/18446744073709551616:Nat):=by omega
   rw [q1,q2]at this;simp only [execOp,ho,resolve,Sem.run_bind,Sem.run_pure,Result.andThen_ok];have e1:a.eval (.func 75) = .func (.func 75) #[] #[]:=rfl;simp only [e1,Deferred.ofValue,Sem.run_pure,Result.andThen_ok,invoke,hZ,aG,fw,kH,lF,h0,h1,h2,this]
  ·unfold tup;exact⟨_,rfl,ap.2 rfl,ap.2 rfl,trivial⟩
end
theorem Fp (a b:Int):(if a<b then b else a)=max a b:=by split <;> omega
theorem IA (m n:Int) (hm:IU m) (hn:IU n):Pu Tryz.prog 47 [lit (.int .i64 m),lit (.int .i64 n)] (lit (.int .i64 (bnd m.toNat n.toNat))):=by
 obtain⟨m1,m2⟩:=hm;obtain⟨n1,n2⟩:=hn;obtain⟨a,ha⟩:∃a:Nat,a=m.toNat:=⟨_,rfl⟩
 obtain⟨b,hb⟩:∃b:Nat,b=n.toNat:=⟨_,rfl⟩
 have e1:Hid ((if m<0 then 0 else m)=(a:Int)):=by unfold Hid;rw [Fp];omega
 have e2:Hid ((if n<0 then 0 else n)=(b:Int)):=by unfold Hid;rw [Fp];omega
 have a2:a≤9223372036854775807:=by omega
 have b2:b≤9223372036854775807:=by omega
 have c:=Do (a+1) b om om;obtain⟨q,hq⟩:∃q:Nat,q=(a+1)*b:=⟨_,rfl⟩
 rw [←hq]at c;rw [←ha,←hb];clear ha hb m1 m2 n1 n2;have hbnd:bnd a b=min (a+q) 9223372036854775807:=by unfold bnd;rw [hq]
 clear hq;by_cases h0:q<18446744073709551616
 ·rw [dP h0,ft h0]at c;by_cases h1:q+a<18446744073709551616
  ·by_cases h2:q+a≤9223372036854775807
   ·refine Pi Tryz.func47 fun C=>?_
    refine A2 ⟨?_⟩;intros;refine Wo (lc rfl rfl (r:=(a:Int)) e1) ?_;refine A2 ⟨?_⟩;intros;refine Wo (lc rfl rfl (r:=(b:Int)) e2) ?_;refine A2 ⟨?_⟩;intros;refine Wcx c ?_;refine A2 ⟨?_⟩;intros;refine Wo (uk rfl rfl rfl) ?_;rw [dP h1,ft h1];refine A2 ⟨?_⟩;intros;((first|refine db ?_|refine jc ?_);refine bO (RV.tmp rfl) (Le.int ?_))
    omega
   ·refine Pi Tryz.func47 fun C=>?_
    refine A2 ⟨?_⟩;intros;refine Wo (lc rfl rfl (r:=(a:Int)) e1) ?_;refine A2 ⟨?_⟩;intros;refine Wo (lc rfl rfl (r:=(b:Int)) e2) ?_;refine A2 ⟨?_⟩;intros;refine Wcx c ?_;refine A2 ⟨?_⟩;intros;refine Wo (uk rfl rfl rfl) ?_;rw [dP h1,ft h1];refine A2 ⟨?_⟩;intros;((first|refine db ?_|refine jc ?_);refine bO (RV.tmp rfl) (Le.int ?_))
    omega
  ·refine Pi Tryz.func47 fun C=>?_
   refine A2 ⟨?_⟩;intros;refine Wo (lc rfl rfl (r:=(a:Int)) e1) ?_;refine A2 ⟨?_⟩;intros;refine Wo (lc rfl rfl (r:=(b:Int)) e2) ?_;refine A2 ⟨?_⟩;intros;refine Wcx c ?_;refine A2 ⟨?_⟩;intros;refine Wo (uk rfl rfl rfl) ?_;refine A2 ⟨?_⟩;intros;((first|refine db ?_|refine jc ?_);refine bO (RV.tmp rfl) (Le.int ?_))
   omega
 ·refine Pi Tryz.func47 fun C=>?_
  refine A2 ⟨?_⟩;intros;refine Wo (lc rfl rfl (r:=(a:Int)) e1) ?_;refine A2 ⟨?_⟩;intros;refine Wo (lc rfl rfl (r:=(b:Int)) e2) ?_;refine A2 ⟨?_⟩;intros;refine Wcx c ?_;refine A2 ⟨?_⟩;intros;refine Wo (uk rfl rfl rfl) ?_;refine A2 ⟨?_⟩;intros;((first|refine db ?_|refine jc ?_);refine bO (RV.tmp rfl) (Le.int ?_))
  omega
theorem P9 (n:Nat) (hn:n≤9223372036854775807):Pu Tryz.prog 46 [lit (.int .i64 n)] (lit (.int .i64 n)):=by
 refine Pi Tryz.func46 fun C=>?_
 exact Z1
theorem Mv:Pu Tryz.prog 45 [] (lit (.int .i64 1)):=by
 refine Pi Tryz.func45 fun C=>?_
 exact Z1
end Go.Ab
