/- Texts laid one behind the other: Evl, EvL, EvW, Add64, BndN, Bnd, Parse, LexS, LexW. -/
import Derived.Test.YthinbooccdccfaaGreatDoorB22
import Derived.Test.YthinbooccdccfaaGreatDoorB27
import Derived.Test.YthinbooccdccfaaGreatDoorB28
import Derived.Test.YthinbooccdccfaaGreatDoorB08
import Derived.Test.YthinbooccdccfaaGreatDoorB25
import Derived.Test.YthinbooccdccfaaGreatDoorB11
import Derived.Test.YthinbooccdccfaaGreatDoorB10
import Derived.Test.YthinbooccdccfaaGreatDoorB03
import Derived.Laws.Externs
import Derived.Test.YthinbooccdccfaaGreatDoorB14
set_option linter.unusedSectionVars false
set_option linter.unusedVariables false
set_option linter.unusedSimpArgs false
namespace Go.Ab
open Go.Proofs
variable [Base]
theorem count_less {α:Type}{p q:α→Bool}{x0:α}:∀{L:List α},(∀x∈L,p x=true→q x=true)→x0∈L→q x0=true→p x0=false→L.countP p+1≤L.countP q
 | [],_,h,_,_=>by cases h
 |x::L,h1,h,e1,e2=>by
  have g1:=fun y hy=>h1 y (List.mem_cons_of_mem _ hy)
  rw [List.countP_cons,List.countP_cons]
  rcases List.mem_cons.1 h with rfl|hm
  ·have:=count_mono g1
   rw [e1,e2]
   simp only [if_true,Bool.false_eq_true,if_false]
   omega
  ·have ih:=count_less g1 hm e1 e2
   have:=h1 x List.mem_cons_self
   cases hp:p x <;> cases hq:q x <;> simp_all <;> omega
open Classical in
noncomputable def metN (L:List Li) (I:Pq→Prop):Nat:=L.countP fun l=>decide (metI I l)
open Classical in
theorem metN_less {I J:Pq→Prop}(hI:Cvx I){L:List Li}{m:Li}(hm:m∈L) (h1:Lft I m) (h2:Rgt I m) (hJ:∀q,J q→I q∧valL m q≠0):metN L J+1≤metN L I:=by
 refine count_less (x0:=m) (fun l _ h=>?_) hm ?_ ?_
 ·obtain⟨q,q1,q2⟩:=of_decide_eq_true h
  exact decide_eq_true ⟨q,(hJ q q1).1,q2⟩
 ·obtain⟨p,p1,p2⟩:=h1
  obtain⟨q,q1,q2⟩:=h2
  obtain⟨r,r1,r2,_⟩:=between hI p1 q1 p2 q2
  exact decide_eq_true ⟨r,r1,r2⟩
 ·refine decide_eq_false ?_
  rintro ⟨q,q1,q2⟩
  exact(hJ q q1).2 q2
theorem dep_lines {L:List Li}:∀{t:Tr}{I:Pq→Prop},Cvx I→Prp t I→t.lin L→depT t≤metN L I
 | .leaf _,_,_,_,_=>Nat.zero_le _
 | .node l a b,I,hI,⟨h1,h2,h3,h4⟩,⟨k1,k2,k3⟩=>by
  have a1:=dep_lines (hI.left l) h3 k2
  have a2:=dep_lines (hI.right l) h4 k3
  have m1:=metN_less (J:=fun q=>I q∧0<valL l q) hI k1 h1 h2 fun q h=>⟨h.1,by have:=h.2;grind⟩
  have m2:=metN_less (J:=fun q=>I q∧valL l q<0) hI k1 h1 h2 fun q h=>⟨h.1,by have:=h.2;grind⟩
  simp only [depT]
  omega
def Gd (L:List Li) (t:Tr):Prop:=t.lin L∧Prp t (Inn [])
theorem Gd.dep {L:List Li}{t:Tr}(h:Gd L t):depT t≤L.length:=by
 refine Nat.le_trans (dep_lines (cvx_inn []) h.2 h.1) ?_
 unfold metN
 exact List.countP_le_length
theorem Gd.size {L:List Li}(hL:∀l∈L,l.ok){t:Tr}(h:Gd L t):sizeT t≤L.length*(1+L.length):=size_lines hL (cvx_inn []) h.2 h.1
theorem Gd.leaf (L:List Li) (i:Bool):Gd L (.leaf i):=⟨trivial,trivial⟩
theorem Gd.not {L:List Li}{t:Tr}(h:Gd L t):Gd L (notT t):=⟨notT_lin h.1,notT_prp h.2⟩
theorem Gd.restr {L:List Li}(hL:∀l∈L,l.ok){t:Tr}(h:t.lin L):Gd L (restrT t []):=⟨restrT_lin hL h,by rw [restrT_i (lin_lok hL h)];exact restrI_prp⟩
theorem Gd.merge {op:Int}{L:List Li}(hL:∀l∈L,l.ok){t b:Tr}(h:t.lin L) (k:b.lin L):Gd L (mergeT op t b []):=⟨mergeT_lin hL h k,by rw [mergeT_i (lin_lok hL h) (lin_lok hL k)];exact mergeI_prp⟩
theorem line_pts {l:Li}(h:l.ok):Lft (Inn []) l∧Rgt (Inn []) l:=by
 obtain⟨p,hp⟩:=foot_zero h
 have n0:=nrm_pos h
 refine⟨⟨(p.1+1*l.a,p.2+1*l.b),inn_all _,?_⟩,⟨(p.1 + -1*l.a,p.2 + -1*l.b),inn_all _,?_⟩⟩
 ·rw [val_nudge,hp];grind
 ·rw [val_nudge,hp];grind
theorem Gd.half {L:List Li}{l:Li}(h:l∈L) (hl:l.ok) (i j:Bool):Gd L (.node l (.leaf i) (.leaf j)):=⟨⟨h,trivial,trivial⟩,(line_pts hl).1,(line_pts hl).2,trivial,trivial⟩
def thrN (n:Nd):Li:=thr n.a.v n.b.v n.c.v n.e.v
def degN (n:Nd):Bool:=decide (n.c.v-n.a.v=0∧n.e.v-n.b.v=0)
def evP (nm:List (List UInt8)) (ts out:List Tr) (n:Nd):Except Nat Tr :=
 if n.k=1 then(if fpos nm n.nm<0 then .error 5 else .ok (restrT (ts.getD (fpos nm n.nm).toNat (.leaf false)) []))
 else if n.k=4 then(if degN n=true then .error 3 else .ok (.node (thrN n) (.leaf true) (.leaf false)))
 else if n.k=5 then .ok (notT (out.getD n.x.toNat (.leaf false)))
 else if n.k=6 then .ok (mergeT n.op (out.getD n.x.toNat (.leaf false)) (out.getD n.y.toNat (.leaf false)) [])
 else .ok (.leaf (decide (n.k=2)))
def overB (free:Bool) (bud:Int) (t:Tr):Bool := !free&&decide (bud<(sizeT t:Nat))
def evGo (nm:List (List UInt8)) (ts:List Tr) (free:Bool) (bud:Int):List Nd→List Tr→Except (Nat×Nd) (List Tr)
 | [],out => .ok out
 |n::r,out=>match evP nm ts out n with
  | .error e => .error (e,n)
  | .ok t=>if overB free bud t=true then .error (7,n)else evGo nm ts free bud r (out++[t])
structure NdV (i:Nat) (n:Nd):Prop where
 ok:okN n=true
 x:n.k=5∨n.k=6→0≤n.x∧n.x.toNat<i
 y:n.k=6→0≤n.y∧n.y.toNat<i
theorem stk_lt:∀{ns:List Nd}{i:Nat}{st:List (Ex×Nat)},(stk ns i st).isSome=true→(∀p∈st,p.2<i)→∀j n,ns[j]? = some n→NdV (i+j) n
 | [],_,_,_,_,j,n,h=>by simp at h
 |m::ns,i,st,hs,hst,j,n,h=>by
  rw [stk_cons]at hs
  cases hp:stp i m st with
  |none=>rw [hp]at hs;cases hs
  |some st' =>
   rw [hp]at hs
   have hok:okN m=true:=by
    unfold stp at hp
    split at hp
    ·assumption
    ·cases hp
   have key:NdV i m∧∀p∈st',p.2<i+1:=by
    unfold stp at hp
    rw [if_pos hok]at hp
    by_cases k5:m.k=5
    ·rw [if_pos k5]at hp
     match st,hst,hp with
     | [],_,hp=>cases hp
     |(x,q)::r,hst,hp =>
      simp only at hp
      split at hp
      ·rename_i hx
       cases hp
       have hq:=hst (x,q) List.mem_cons_self
       simp only at hq
       refine⟨⟨hok,fun _=>⟨by omega,by omega⟩,fun e=>by omega⟩,fun p hp=>?_⟩
       rcases List.mem_cons.1 hp with rfl|hp
       ·show i<i+1;omega
       ·have:=hst p (List.mem_cons_of_mem _ hp);omega
      ·cases hp
    ·rw [if_neg k5]at hp
     by_cases k6:m.k=6
     ·rw [if_pos k6]at hp
      match st,hst,hp with
      | [],_,hp=>cases hp
      | [_],_,hp=>cases hp
      |(y,k)::(x,q)::r,hst,hp =>
       simp only at hp
       split at hp
       ·rename_i hx
        cases hp
        have hq:=hst (x,q) (by simp)
        have hk:=hst (y,k) (by simp)
        simp only at hq hk
        refine⟨⟨hok,fun _=>⟨by omega,by omega⟩,fun _=>⟨by omega,by omega⟩⟩,fun p hp=>?_⟩
        rcases List.mem_cons.1 hp with rfl|hp
        ·show i<i+1;omega
        ·have:=hst p (by simp [hp]);omega
       ·cases hp
     ·rw [if_neg k6]at hp
      cases hp
      refine⟨⟨hok,fun e=>by omega,fun e=>absurd e k6⟩,fun p hp=>?_⟩
      rcases List.mem_cons.1 hp with rfl|hp
      ·show i<i+1;omega
      ·have:=hst p hp;omega
   cases j with
   |zero =>
    simp only [List.getElem?_cons_zero,Option.some.injEq]at h
    rw [←h];exact key.1
   |succ j =>
    have:=stk_lt hs key.2 j n (by simpa using h)
    rw [show i+(j+1)=i+1+j by omega];exact this
theorem otx_stk {ns:List Nd}{t:List UInt8}(h:otx ns=some t):(stk ns 0 []).isSome=true:=by
 unfold otx at h
 cases hs:stk ns 0 []with
 |none=>rw [hs]at h;cases h
 |some st=>rfl
structure EvE (L:List Li) (LL:Nat) (nm:List (List UInt8)) (ts:List Tr):Prop where
 ok:∀l∈L,l.ok
 le:∀l∈L,l.le LL
 l1:1≤LL
 l2:LL≤500
 len:L.length≤100
 tl:∀t∈ts,t.lin L
 dep:∀t∈ts,depT t≤1024
 nl:nm.length=ts.length
 ns:nm.length≤1000
theorem EvE.all {L:List Li}{LL:Nat}{nm:List (List UInt8)}{ts:List Tr}(h:EvE L LL nm ts){t:Tr}(k:t.lin L):t.all fun l=>l.le LL:=Tr.lin.all h.le k
theorem evP_gd {L:List Li}{LL:Nat}{nm:List (List UInt8)}{ts out:List Tr}(h:EvE L LL nm ts) (ho:∀t∈out,Gd L t){n:Nd}(hh:n.k=4→degN n=false→thrN n∈L){t:Tr}(e:evP nm ts out n = .ok t):Gd L t:=by
 have hg:∀i,Gd L (out.getD i (.leaf false)):=fun i=>by
  rw [List.getD_eq_getElem?_getD]
  cases hi:out[i]? with
  |none=>exact Gd.leaf L false
  |some t=>exact ho t (List.mem_of_getElem? hi)
 have ht:∀i,(ts.getD i (.leaf false)).lin L:=fun i=>by
  rw [List.getD_eq_getElem?_getD]
  cases hi:ts[i]? with
  |none=>exact trivial
  |some t=>exact h.tl t (List.mem_of_getElem? hi)
 unfold evP at e
 split at e
 ·split at e
  ·cases e
  ·cases e;exact Gd.restr h.ok (ht _)
 ·split at e
  ·rename_i k4
   split at e
   ·cases e
   ·rename_i hd
    cases e
    have hm:=hh k4 (by simpa using hd)
    exact Gd.half hm (h.ok _ hm) _ _
  ·split at e
   ·cases e;exact(hg _).not
   ·split at e
    ·cases e;exact Gd.merge h.ok (hg _).1 (hg _).1
    ·cases e;exact Gd.leaf L _
theorem evGo_gd {L:List Li}{LL:Nat}{nm:List (List UInt8)}{ts:List Tr}(h:EvE L LL nm ts){free:Bool}{bud:Int}:∀{ns:List Nd}{out o:List Tr},(∀n∈ns,n.k=4→degN n=false→thrN n∈L)→(∀t∈out,Gd L t)→evGo nm ts free bud ns out = .ok o→(∀t∈o,Gd L t)∧o.length=out.length+ns.length
 | [],out,o,_,ho,e=>by cases e;exact⟨ho,rfl⟩
 |n::ns,out,o,hh,ho,e=>by
  unfold evGo at e
  cases hp:evP nm ts out n with
  |error x=>rw [hp]at e;cases e
  |ok t =>
   rw [hp]at e
   simp only at e
   split at e
   ·cases e
   ·have hg:=evP_gd h ho (hh n List.mem_cons_self) hp
    obtain⟨a,b⟩:=evGo_gd h (fun m hm=>hh m (List.mem_cons_of_mem _ hm)) (fun t ht=>(List.mem_append.1 ht).elim (ho t) fun h=>by rw [List.mem_singleton.1 h];exact hg) e
    exact⟨a,by rw [b,List.length_append,List.length_singleton,List.length_cons];omega⟩
end Go.Ab
namespace Go.Ab
open Go.Proofs
variable [Base]
def lblN (n:Nd):List UInt8:=if n.k=1 then n.nm else if n.k=2 then [97,108,108]else if n.k=3 then [110,111,110,101]else if n.k=4 then [104,97,108,102]else if n.k=5 then [126]else if n.op=1 then [43]else if n.op=2 then [42]else if n.op=3 then [45]else [94]
theorem okN_op0 {n:Nd}(h:okN n=true):n.k≠6→n.op=0:=by
 unfold okN at h
 simp only [Bool.and_eq_true,Bool.or_eq_true,decide_eq_true_eq]at h
 obtain⟨⟨⟨⟨⟨h1,_⟩,_⟩,h2⟩,_⟩,_⟩:=h
 intro hk
 rcases h2 with h2|h2
 ·exact absurd h2.1.1 hk
 ·exact h2.2
set_option maxHeartbeats 8000000 in
theorem label_pu (n:Nd) (h:okN n=true):Pu Tryz.prog 150 [ag (ndx n)] (str (lblN n)):=by
 obtain⟨hk,hop⟩:=okN_k h
 have h0:=okN_op0 h
 obtain⟨k,nm,a,b,c,e,op,x,y,ln,cl⟩:=n
 simp only at hk hop h0
 unfold lblN
 simp only
 have hkk:(k=1∨k=2∨k=3∨k=4∨k=5)∨k=6:=by omega
 clear h
 rcases hkk with hkk|rfl
 ·obtain rfl:=h0 (by omega)
  clear hk hop h0
  rcases hkk with rfl|rfl|rfl|rfl|rfl
  all_goals
   simp only [Int.reduceEq,if_true,if_false]
   refine Pu.intro Tryz.func150 rfl (by kernel_rfl) fun C=>?_
   repeat(refine A1 ⟨?_⟩;intros)
   refine Wo (ov_buildA (e:=9) (len:=5) (cs:=[str [],str [43],str [42],str [45],str [94]]) (by kernel_rfl) (by repeat(first|exact Parts.nil|(apply Parts.cons;exact Eq.refl (lit _);infer_instance))) (by exact rfl)) ?_
   repeat(first|(refine AS ⟨?_⟩;intros)|(refine O1 ⟨?_⟩;intros))
   refine WdN 8 ?_
   repeat(refine A1 ⟨?_⟩;intros)
   refine Wdo (ov_idxA (e:=9) (len:=5) (by kernel_rfl) rfl rfl (by dsimp only;decide) (by dsimp only;decide)) ?_
   repeat(refine A1 ⟨?_⟩;intros)
   refine Wdo (ov_buildA (e:=9) (len:=7) (cs:=[str [],str nm,str [97,108,108],str [110,111,110,101],str [104,97,108,102],str [126],str []]) (by kernel_rfl) (by repeat(first|exact Parts.nil|(apply Parts.cons;exact Eq.refl (lit _);infer_instance))) (by exact rfl)) ?_
   repeat(refine A1 ⟨?_⟩;intros)
   refine Wo (ov_idxA (e:=9) (len:=7) (by kernel_rfl) rfl rfl (by dsimp only;decide) (by dsimp only;decide)) ?_
   repeat(refine A1 ⟨?_⟩;intros)
   exact E1
 ·obtain⟨o1,o2⟩:=hop rfl
  clear hk h0 hop
  have ho:op=1∨op=2∨op=3∨op=4:=by omega
  rcases ho with rfl|rfl|rfl|rfl
  all_goals
   simp only [Int.reduceEq,if_true,if_false]
   refine Pu.intro Tryz.func150 rfl (by kernel_rfl) fun C=>?_
   repeat(refine A1 ⟨?_⟩;intros)
   refine Wo (ov_buildA (e:=9) (len:=5) (cs:=[str [],str [43],str [42],str [45],str [94]]) (by kernel_rfl) (by repeat(first|exact Parts.nil|(apply Parts.cons;exact Eq.refl (lit _);infer_instance))) (by exact rfl)) ?_
   repeat(first|(refine AS ⟨?_⟩;intros)|(refine O1 ⟨?_⟩;intros))
   refine WdN 8 ?_
   repeat(refine A1 ⟨?_⟩;intros)
   refine Wdo (ov_idxA (e:=9) (len:=5) (by kernel_rfl) rfl rfl (by dsimp only;decide) (by dsimp only;decide)) ?_
   repeat(refine A1 ⟨?_⟩;intros)
   refine Wdo (ov_buildA (e:=9) (len:=7) (cs:=[str [],str nm,str [97,108,108],str [110,111,110,101],str [104,97,108,102],str [126],str _]) (by kernel_rfl) (by repeat(first|exact Parts.nil|(apply Parts.cons;exact Eq.refl (lit _);infer_instance))) (by exact rfl)) ?_
   repeat(refine A1 ⟨?_⟩;intros)
   refine Wo (ov_idxA (e:=9) (len:=7) (by kernel_rfl) rfl rfl (by dsimp only;decide) (by dsimp only;decide)) ?_
   repeat(refine A1 ⟨?_⟩;intros)
   exact E1
theorem psub_pu (x y u v:Rat) (hx:ht x≤1000000) (hy:ht y≤1000000) (hu:ht u≤1000000) (hv:ht v≤1000000):Pu Tryz.prog 269 [pp x y,pp u v] (pp (x-u) (y-v)):=by
 have c1:=rsub_pu x u (by omega) (by omega)
 have c2:=rsub_pu y v (by omega) (by omega)
 refine Pu.intro Tryz.func269 rfl (by kernel_rfl) fun C=>?_
 repeat(first|(refine A1 ⟨?_⟩;intros)|refine W4 c1 ⟨?_⟩|refine W4 c2 ⟨?_⟩)
 ((first|refine endR ?_|refine endN ?_);refine end1 RVa (Le.refl _))
theorem pturn_pu (x y:Rat) (hy:ht y≤1000000):Pu Tryz.prog 270 [pp x y] (pp (-y) x):=by
 have c1:=rneg_pu y (by omega)
 refine Pu.intro Tryz.func270 rfl (by kernel_rfl) fun C=>?_
 repeat(first|(refine A1 ⟨?_⟩;intros)|refine W4 c1 ⟨?_⟩)
 ((first|refine endR ?_|refine endN ?_);refine end1 RVa (Le.refl _))
abbrev zlf:SV:=ag [lit (.int .i64 0),lit (.int .i64 0),lit (.pointer none),lit (.int .i64 0),lit (.int .i64 0),lit (.pointer none),lit (.int .i64 0),lit (.int .i64 0),lit (.pointer none)]
theorem make_f (a b c:Rat) (ha:a=0) (hb:b=0):Pu Tryz.prog 203 [fr a,fr b,fr c] (Ab.tup [zlf,lit (.bool false)]):=by
 have c1:=zero_pu a
 have c2:=zero_pu b
 rw [decide_eq_true (Rat.num_eq_zero.2 ha)]at c1
 rw [decide_eq_true (Rat.num_eq_zero.2 hb)]at c2
 clear ha hb
 refine Pu.intro Tryz.func203 rfl (by kernel_rfl) fun C=>?_
 repeat(first|(refine A1 ⟨?_⟩;intros)|refine W4 c1 ⟨?_⟩|refine W4 c2 ⟨?_⟩)
 ((first|refine endR ?_|refine endN ?_);exact end2 RVa (RV.tmp rfl) (Le.refl _))
theorem thrP_arg {x y u v:Rat}{L:Nat}(hx:ht x≤L) (hy:ht y≤L) (hu:ht u≤L) (hv:ht v≤L):ht (u-x)≤2*L+1∧ht (-(v-y))≤2*L+1∧ht (v-y)≤2*L+1∧ht (-(v-y)*x+(u-x)*y)≤6*L+5∧ht (-(-(v-y)*x+(u-x)*y))≤6*L+5:=by
 have h1:=ht_sub u x
 have h2:=ht_sub v y
 have h3:=ht_neg (v-y)
 have h4:=ht_mul (-(v-y)) x
 have h5:=ht_mul (u-x) y
 have h6:=ht_add (-(v-y)*x) ((u-x)*y)
 have h7:=ht_neg (-(v-y)*x+(u-x)*y)
 omega
theorem thrP_pu {x y u v:Rat}{L:Nat}(hL:L≤10000) (hx:ht x≤L) (hy:ht y≤L) (hu:ht u≤L) (hv:ht v≤L) (h:¬(u-x=0∧v-y=0)):Pu Tryz.prog 207 [pp x y,pp u v] (Ab.tup [lfl (thr x y u v),lit (.bool true)]):=by
 obtain⟨a1,a2,a3,a4,a5⟩:=thrP_arg hx hy hu hv
 have c1:=psub_pu u v x y (by omega) (by omega) (by omega) (by omega)
 have c2:=pturn_pu (u-x) (v-y) (by omega)
 have c3:=pdot_pu (-(v-y)) (u-x) x y (by omega) (by omega) (by omega) (by omega)
 have c4:=rneg_pu (-(v-y)*x+(u-x)*y) (by omega)
 have hne : -(v-y)≠0∨u-x≠0:=by
  by_cases e:u-x=0
  ·left;intro e2;exact h ⟨e,by grind⟩
  ·exact .inr e
 have c5:=make_pu (-(v-y)) (u-x) (-(-(v-y)*x+(u-x)*y)) (L:=6*L+5) (by omega) (by omega) (by omega) (by omega) hne
 unfold thr lfl
 generalize prim (-(v-y)) (u-x) (-(-(v-y)*x+(u-x)*y))=l at *
 generalize -(-(v-y)*x+(u-x)*y)=e3 at *
 generalize -(v-y)*x+(u-x)*y=e4 at *
 generalize -(v-y)=e1 at *
 generalize v-y=e5 at *
 generalize u-x=e2 at *
 clear h hne a1 a2 a3 a4 a5
 refine Pu.intro Tryz.func207 rfl (by kernel_rfl) fun C=>?_
 repeat(first|(refine A1 ⟨?_⟩;intros)|refine W4 c1 ⟨?_⟩|refine W4 c2 ⟨?_⟩|refine W4 c3 ⟨?_⟩|refine W4 c4 ⟨?_⟩|refine W4 c5 ⟨?_⟩)
 ((first|refine endR ?_|refine endN ?_);exact end2 RVa (RV.tmp rfl) (Le.refl _))
theorem thrP_f {x y u v:Rat}{L:Nat}(hL:L≤10000) (hx:ht x≤L) (hy:ht y≤L) (hu:ht u≤L) (hv:ht v≤L) (h:u-x=0∧v-y=0):Pu Tryz.prog 207 [pp x y,pp u v] (Ab.tup [zlf,lit (.bool false)]):=by
 obtain⟨a1,a2,a3,a4,a5⟩:=thrP_arg hx hy hu hv
 have c1:=psub_pu u v x y (by omega) (by omega) (by omega) (by omega)
 have c2:=pturn_pu (u-x) (v-y) (by omega)
 have c3:=pdot_pu (-(v-y)) (u-x) x y (by omega) (by omega) (by omega) (by omega)
 have c4:=rneg_pu (-(v-y)*x+(u-x)*y) (by omega)
 have c5:=make_f (-(v-y)) (u-x) (-(-(v-y)*x+(u-x)*y)) (by rw [h.2];rfl) h.1
 generalize -(-(v-y)*x+(u-x)*y)=e3 at *
 generalize -(v-y)*x+(u-x)*y=e4 at *
 generalize -(v-y)=e1 at *
 generalize v-y=e5 at *
 generalize u-x=e2 at *
 clear h a1 a2 a3 a4 a5
 refine Pu.intro Tryz.func207 rfl (by kernel_rfl) fun C=>?_
 repeat(first|(refine A1 ⟨?_⟩;intros)|refine W4 c1 ⟨?_⟩|refine W4 c2 ⟨?_⟩|refine W4 c3 ⟨?_⟩|refine W4 c4 ⟨?_⟩|refine W4 c5 ⟨?_⟩)
 ((first|refine endR ?_|refine endN ?_);exact end2 RVa (RV.tmp rfl) (Le.refl _))
theorem limited_pu {L:List Li}{LL:Nat}{nm:List (List UInt8)}{ts:List Tr}(h:EvE L LL nm ts) (op:Int) (hop:1≤op∧op≤4){a b:Tr}(ha:Gd L a) (hb:Gd L b):Pu Tryz.prog 145 [lit (.int .i64 op),bt a,bt b] (Ab.tup [bt (mergeT op a b []),lit .nilIface]):=by
 have d1:=ha.dep
 have d2:=hb.dep
 have hl:=h.len
 have c1:=depth_pu a (by omega)
 have c2:=depth_pu b (by omega)
 have c3:=merge_pu h.l1 h.l2 op hop b (h.all hb.1) a [] (h.all ha.1) (fun s hs=>by cases hs) (by simp only [List.length_nil];omega)
 have c3':=c3.arg (l':=[lit (.int .i64 op),bt a,bt b,lit (.slice none 0 0)]) ⟨Le.refl _,Le.refl _,Le.refl _,le_nilS,trivial⟩
 rw [merge_same bsPos (lin_lok h.ok ha.1) (lin_lok h.ok hb.1)]at c3'
 have hg:=(Gd.merge (op:=op) h.ok ha.1 hb.1).size h.ok
 have hm:L.length*(1+L.length)≤100*101:=Nat.mul_le_mul hl (by omega)
 have c4:=bsize_pu (mergeT op a b []) (by omega)
 generalize mergeT op a b []=r at *
 generalize L.length*(1+L.length)=q at *
 clear c3 ha hb h
 refine Pu.intro Tryz.func145 rfl (by kernel_rfl) fun C=>?_
 repeat(first|(refine A1 ⟨?_⟩;intros)|refine W4 c1 ⟨?_⟩|refine W4 c2 ⟨?_⟩|refine W4 c3' ⟨?_⟩|refine W4 c4 ⟨?_⟩)
 ((first|refine endR ?_|refine endN ?_);exact end2 (RV.tmp rfl) (RV.tmp rfl) (Le.refl _))
theorem two_pu {L:List Li}{LL:Nat}{nm:List (List UInt8)}{ts:List Tr}(h:EvE L LL nm ts) (op:Int) (hop:1≤op∧op≤4){a b:Tr}(ha:Gd L a) (hb:Gd L b):Pu Tryz.prog 81 [lit (.int .i64 op),bt a,bt b] (Ab.tup [bt (mergeT op a b []),lit .nilIface]):=by
 have c:=limited_pu h op hop ha hb
 clear ha hb h
 refine Pu.intro Tryz.func81 rfl (by kernel_rfl) fun C=>?_
 repeat(first|(refine A1 ⟨?_⟩;intros)|refine W4 c ⟨?_⟩)
 ((first|refine endR ?_|refine endN ?_);exact end2 (RV.tmp rfl) (RV.tmp rfl) (Le.refl _))
theorem sub2 {x y:Nat×TypeId×List SV}{H:LH}:List.Sublist H (x::y::H) := .cons _ (.cons _ (.refl _))
theorem sub3 {x y z:Nat×TypeId×List SV}{H:LH}:List.Sublist H (x::y::z::H) := .cons _ sub2
abbrev envS (nm:List (List UInt8)) (ts:List Tr):SV:=ag [sl (nm.map str) nm.length,sl (ts.map bt) ts.length]
def partR (gn gr:Nat):Except Nat Tr→SV
 | .ok t=>Ab.tup [bt t,lit .nilIface]
 | .error e=>Ab.tup [lit (.pointer none),lit (sent (if e=5 then gn else gr))]
theorem tr_at {l:List Tr}{k:Nat}{t:Tr}(h:l[k]? = some t):((l.map bt).drop (k*1)).take 1=[bt t]:=by
 rw [Nat.mul_one,←List.map_drop,drop_at h];rfl
theorem tr_own {l:List Tr}{k j:Nat}{t:Tr}(h:l[k]? = some t):(l.map bt++List.replicate j top)[k]? = some (bt t):=by
 have hk:=(List.getElem?_eq_some_iff.1 h).1
 rw [List.getElem?_append_left (by simpa using hk),List.getElem?_map,h];rfl
set_option maxHeartbeats 16000000 in
theorem epart_pu [Sent 1] [Sent 2]{L:List Li}{LL:Nat}{nm:List (List UInt8)}{ts:List Tr}(h:EvE L LL nm ts){out:List Tr}(ho:∀t∈out,Gd L t) (hol:out.length≤100){n:Nd}{N:Nat}(hn:n.ok N) (hN:N≤1000) (hv:NdV out.length n){s:SV}{Hs:LH}(hown:Own ptT 1 out.length (out.map bt) s Hs) :
  PuH Tryz.prog 149 [envS nm ts,ag (ndx n),s] Hs (fun r H'=>H'=Hs∧r=partR 1 2 (evP nm ts out n)) noX:=by
 obtain⟨hk,hop⟩:=okN_k hv.ok
 have hco:=hown.co
 unfold evP
 have hkk:n.k=1∨n.k=2∨n.k=3∨n.k=4∨n.k=5∨n.k=6:=by omega
 rcases hkk with k1|k1|k1|k1|k1|k1
 ·rw [if_pos k1]
  have cx:=index_pu nm n.nm (by have:=h.ns;omega)
  rcases fpos_lt nm n.nm with⟨hf,hf'⟩|⟨i,hf,hi⟩
  ·rw [if_pos hf]
   rw [hf']at cx
   clear hv hop ho hown h
   refine PuH.intro Tryz.func149 rfl (by kernel_rfl) fun C hC=>?_
   repeat(first|(refine A1 ⟨?_⟩;intros)|refine W4 cx ⟨?_⟩)
   exact endHR _ _ (end2 (RV.tmp rfl) (RV.tmp rfl) (Le.refl _)) sub2 ⟨rfl,rfl⟩
  ·have hit:i<ts.length:=by rw [←h.nl];exact hi
   have hti:=List.getElem?_eq_getElem hit
   have htm:=List.getElem_mem hit
   generalize ts[i]=t at hti htm
   have hgd:ts.getD i (.leaf false)=t:=by rw [List.getD,hti];rfl
   rw [if_neg (by omega),hf,Int.toNat_natCast,hgd]
   rw [hf]at cx
   have d1:=depth_pu t (by have:=h.dep t htm;omega)
   have d0:=h.dep t htm
   have d2:=breduce_pu h.l1 h.l2 t (h.all (h.tl t htm)) (by omega)
   rw [restr_same bsPos (lin_lok h.ok (h.tl t htm))]at d2
   have hat:=tr_at hti
   have hne:ts.map bt≠[]:=fun e=>by rw [List.map_eq_nil_iff]at e;rw [e]at hit;simp at hit
   generalize restrT t []=r at *
   generalize bt t=bbt at *
   have hlt:=h.ns
   have hnl:=h.nl
   clear hv hop ho hown h hti htm hgd
   refine PuH.intro Tryz.func149 rfl (by kernel_rfl) fun C hC=>?_
   repeat(first|(refine A1 ⟨?_⟩;intros)|refine W4 cx ⟨?_⟩)
   refine Wo (ov_idxS (cs':=[bbt]) rfl rfl (by omega) (by omega) hat hne) ?_
   repeat(first|(refine A1 ⟨?_⟩;intros)|refine W4 d1 ⟨?_⟩)
   refine Wo (ov_idxS (cs':=[bbt]) rfl rfl (by omega) (by omega) hat hne) ?_
   repeat(first|(refine A1 ⟨?_⟩;intros)|refine W4 d2 ⟨?_⟩)
   exact endHR _ _ (end2 (RV.tmp rfl) (RV.tmp rfl) (Le.refl _)) sub2 ⟨rfl,rfl⟩
 ·rw [if_neg (by omega),if_neg (by omega),if_neg (by omega),if_neg (by omega),decide_eq_true k1]
  have c:=leaf_pu true
  clear hv hop ho hown h
  refine PuH.intro Tryz.func149 rfl (by kernel_rfl) fun C hC=>?_
  repeat(first|(refine A1 ⟨?_⟩;intros)|refine W4 c ⟨?_⟩)
  exact endHR _ _ (end2 (RV.tmp rfl) (RV.tmp rfl) (Le.refl _)) sub2 ⟨rfl,rfl⟩
 ·rw [if_neg (by omega),if_neg (by omega),if_neg (by omega),if_neg (by omega),decide_eq_false (by omega)]
  have c:=leaf_pu false
  clear hv hop ho hown h
  refine PuH.intro Tryz.func149 rfl (by kernel_rfl) fun C hC=>?_
  repeat(first|(refine A1 ⟨?_⟩;intros)|refine W4 c ⟨?_⟩)
  exact endHR _ _ (end2 (RV.tmp rfl) (RV.tmp rfl) (Le.refl _)) sub2 ⟨rfl,rfl⟩
 ·rw [if_neg (by omega),if_pos k1]
  have p1:=ptOf_pu hn.a hn.b (by omega)
  have p2:=ptOf_pu hn.c hn.e (by omega)
  have v1:=ht_v hn.a
  have v2:=ht_v hn.b
  have v3:=ht_v hn.c
  have v4:=ht_v hn.e
  have l1:=leaf_pu true
  have l2:=leaf_pu false
  have l3:=bnew_pu (thrN n) (.leaf true) (.leaf false)
  cases hd:degN n with
  |true =>
   have c:=thrP_f (L:=1001) (by omega) (by omega:ht n.a.v≤1001) (by omega:ht n.b.v≤1001) (by omega:ht n.c.v≤1001) (by omega:ht n.e.v≤1001) (of_decide_eq_true hd)
   rw [if_pos rfl]
   clear hv hop ho hown h hn v1 v2 v3 v4 l1 l2 l3 hd
   refine PuH.intro Tryz.func149 rfl (by kernel_rfl) fun C hC=>?_
   repeat(first|(refine A1 ⟨?_⟩;intros)|refine W4 p1 ⟨?_⟩|refine W4 p2 ⟨?_⟩|refine W4 c ⟨?_⟩)
   exact endHR _ _ (end2 (RV.tmp rfl) (RV.tmp rfl) (Le.refl _)) sub3 ⟨rfl,rfl⟩
  |false =>
   have c:=thrP_pu (L:=1001) (by omega) (by omega:ht n.a.v≤1001) (by omega:ht n.b.v≤1001) (by omega:ht n.c.v≤1001) (by omega:ht n.e.v≤1001) (of_decide_eq_false hd)
   rw [if_neg (by decide)]
   rw [show thr n.a.v n.b.v n.c.v n.e.v=thrN n from rfl]at c
   generalize thrN n=l at *
   clear hv hop ho hown h hn v1 v2 v3 v4 hd
   refine PuH.intro Tryz.func149 rfl (by kernel_rfl) fun C hC=>?_
   repeat(first|(refine A1 ⟨?_⟩;intros)|refine W4 p1 ⟨?_⟩|refine W4 p2 ⟨?_⟩|refine W4 c ⟨?_⟩|refine W4 l1 ⟨?_⟩|refine W4 l2 ⟨?_⟩|refine W4 l3 ⟨?_⟩)
   exact endHR _ _ (end2 (RV.tmp rfl) (RV.tmp rfl) (Le.refl _)) sub3 ⟨rfl,rfl⟩
 ·rw [if_neg (by omega),if_neg (by omega),if_pos k1]
  obtain⟨x1,x2⟩:=hv.x (.inl k1)
  obtain⟨x,hx⟩:∃x:Nat,n.x=(x:Int):=⟨n.x.toNat,by omega⟩
  rw [hx,Int.toNat_natCast]at x2⊢
  have hti:=List.getElem?_eq_getElem x2
  generalize out[x]=t at hti
  have hgd:out.getD x (.leaf false)=t:=by rw [List.getD,hti];rfl
  rw [hgd]
  have c:=complement_pu t
  obtain⟨b1,c1,hnc,hcm,rfl,rfl⟩:=hown.blk (by omega)
  have hgt:(out.map bt++List.replicate (c1*1-out.length*1) top)[((x:Int)).toNat*1]? = some (bt t):=by rw [show((x:Int)).toNat*1=x from by omega];exact tr_own hti
  generalize notT t=r at *
  generalize bt t=bbt at *
  clear hv hop ho hown h hti hgd hn
  refine PuH.intro Tryz.func149 rfl (by kernel_rfl) fun C hC=>?_
  repeat(refine A1 ⟨?_⟩;intros)
  rw [hx]
  refine Wo (ov_loadL rfl mmA hgt) ?_
  repeat(first|(refine A1 ⟨?_⟩;intros)|refine W4 c ⟨?_⟩)
  exact endHR _ _ (end2 (RV.tmp rfl) (RV.tmp rfl) (Le.refl _)) sub2 ⟨rfl,rfl⟩
 ·rw [if_neg (by omega),if_neg (by omega),if_neg (by omega),if_pos k1]
  obtain⟨x1,x2⟩:=hv.x (.inr k1)
  obtain⟨y1,y2⟩:=hv.y k1
  obtain⟨x,hx⟩:∃x:Nat,n.x=(x:Int):=⟨n.x.toNat,by omega⟩
  obtain⟨y,hy⟩:∃y:Nat,n.y=(y:Int):=⟨n.y.toNat,by omega⟩
  rw [hx,Int.toNat_natCast]at x2⊢
  rw [hy,Int.toNat_natCast]at y2⊢
  have hti:=List.getElem?_eq_getElem x2
  have htj:=List.getElem?_eq_getElem y2
  have m1:=ho _ (List.getElem_mem x2)
  have m2:=ho _ (List.getElem_mem y2)
  generalize out[x]=t at hti m1
  generalize out[y]=u at htj m2
  have hgd:out.getD x (.leaf false)=t:=by rw [List.getD,hti];rfl
  have hge:out.getD y (.leaf false)=u:=by rw [List.getD,htj];rfl
  rw [hgd,hge]
  have c:=two_pu h n.op (hop k1) m1 m2
  obtain⟨b1,c1,hnc,hcm,rfl,rfl⟩:=hown.blk (by omega)
  have hgt:(out.map bt++List.replicate (c1*1-out.length*1) top)[((x:Int)).toNat*1]? = some (bt t):=by rw [show((x:Int)).toNat*1=x from by omega];exact tr_own hti
  have hgu:(out.map bt++List.replicate (c1*1-out.length*1) top)[((y:Int)).toNat*1]? = some (bt u):=by rw [show((y:Int)).toNat*1=y from by omega];exact tr_own htj
  generalize mergeT n.op t u []=r at *
  generalize bt t=bbt at *
  generalize bt u=bbu at *
  clear hv hop ho hown h hti hgd hge htj hn m1 m2
  refine PuH.intro Tryz.func149 rfl (by kernel_rfl) fun C hC=>?_
  repeat(refine A1 ⟨?_⟩;intros)
  rw [hx]
  refine Wdo (ov_loadL rfl mmA hgt) ?_
  repeat(refine A1 ⟨?_⟩;intros)
  rw [hy]
  refine Wdo (ov_loadL rfl mmA hgu) ?_
  repeat(first|(refine A1 ⟨?_⟩;intros)|refine W4 c ⟨?_⟩)
  exact endHR _ _ (end2 (RV.tmp rfl) (RV.tmp rfl) (Le.refl _)) sub2 ⟨rfl,rfl⟩
section
variable {F:Fr}{H:LH}{ty:TypeId}
end
structure Tok where
 k:Nat
 t:List UInt8
 l:Nat
 c:Nat
def TOk:List Tok→Prop
 | []=>False
 | [e]=>e.k=0∧e.t=[]
 |a::r=>(a.k=1∨a.k=3)∧TOk r
theorem TOk.tail {a:Tok}{r:List Tok}(h:TOk (a::r)) (h0:a.k≠0):TOk r∧(a.k=1∨a.k=3):=by
 cases r with
 |nil=>exact absurd h.1 h0
 |cons b r=>exact⟨h.2,h.1⟩
theorem TOk.ne {ts:List Tok}(h:TOk ts):ts≠[]:=fun e=>by rw [e]at h;exact h
theorem TOk.pos {ts:List Tok}(h:TOk ts):0<ts.length:=List.length_pos_iff.2 h.ne
theorem TOk.end {a:Tok}{r:List Tok}(h:TOk (a::r)) (h0:a.k=0):r=[]∧a.t=[]:=by
 cases r with
 |nil=>exact⟨rfl,h.2⟩
 |cons b r=>rcases h.1 with h|h <;> omega
def hd (ts:List Tok):Tok:=ts.headD ⟨0,[],0,0⟩
def tis (ts:List Tok) (s:List UInt8):Bool:=decide ((hd ts).k≠0)&&decide ((hd ts).t=s)
def opAt (lv:Nat) (ts:List Tok):Int :=
 if lv=1 then(if tis ts [43]=true then 1 else if tis ts [45]=true then 3 else if tis ts [94]=true then 4 else 0)else(if tis ts [42]=true then 2 else 0)
abbrev zz:RQ:=⟨false,[],[]⟩
def ndB (op x y:Int) (a:Tok):Nd:=⟨6,[],zz,zz,zz,zz,op,x,y,a.l,a.c⟩
def ndU (x:Int) (a:Tok):Nd:=⟨5,[],zz,zz,zz,zz,0,x,0,a.l,a.c⟩
def ndA (k:Int) (a:Tok):Nd:=⟨k,[],zz,zz,zz,zz,0,0,0,a.l,a.c⟩
def ndN (a:Tok):Nd:=⟨1,a.t,zz,zz,zz,zz,0,0,0,a.l,a.c⟩
abbrev wAll:List UInt8:=[97,108,108]
abbrev wNone:List UInt8:=[110,111,110,101]
abbrev wHalf:List UInt8:=[104,97,108,102]
def prs:Nat→Nat→Nat→Nat→List Tok→Option (List Nd×Ex)→Option (List Nd×Ex×List Tok)
 |0,_,_,_,_,_=>none
 |f+1,lv,d,i,ts,none =>
  if lv=3 then
   if tis ts [126]=true then
    (if 200≤d then none else match prs f 3 (d+1) i ts.tail none with
     |some (A,x,ts')=>some (A++[ndU ((i+A.length:Nat)-1) (hd ts)], .un (ndU ((i+A.length:Nat)-1) (hd ts)) x,ts')
     |none=>none)
   else if tis ts [40]=true then
    (if 200≤d then none else match prs f 1 (d+1) i ts.tail none with
     |some (A,x,ts')=>if tis ts' [41]=true then some (A,x,ts'.tail)else none
     |none=>none)
   else if tis ts wAll=true then some ([ndA 2 (hd ts)], .leaf (ndA 2 (hd ts)),ts.tail)
   else if tis ts wNone=true then some ([ndA 3 (hd ts)], .leaf (ndA 3 (hd ts)),ts.tail)
   else if tis ts wHalf=true then none
   else if(hd ts).k=1∧resv (hd ts).t=false then some ([ndN (hd ts)], .leaf (ndN (hd ts)),ts.tail)
   else none
  else match prs f (lv+1) d i ts none with
   |some (A,x,ts')=>prs f lv d i ts' (some (A,x))
   |none=>none
 |f+1,lv,d,i,ts,some (A,x) =>
  if opAt lv ts=0 then some (A,x,ts)
  else match prs f (lv+1) d (i+A.length) ts.tail none with
   |some (B,y,ts')=>prs f lv d i ts' (some (A++B++[ndB (opAt lv ts) ((i+A.length:Nat)-1) ((i+A.length+B.length:Nat)-1) (hd ts)], .bi (ndB (opAt lv ts) ((i+A.length:Nat)-1) ((i+A.length+B.length:Nat)-1) (hd ts)) x y))
   |none=>none
def prsAll (ts:List Tok):Option (List Nd×Ex):=match prs (8*ts.length+8) 1 0 0 ts none with
 |some (A,x,ts')=>if(hd ts').k=0 then some (A,x)else none
 |none=>none
def cntO (ts:List Tok):Nat:=(ts.filter fun a=>decide (a.t=[40])).length
theorem tis_ne {ts:List Tok}{s:List UInt8}(h:tis ts s=true):∃a r,ts=a::r∧a.k≠0∧a.t=s:=by
 unfold tis hd at h
 cases ts with
 |nil=>simp at h
 |cons a r=>simp at h;exact⟨a,r,rfl,h.1,h.2⟩
theorem cntO_cons (a:Tok) (r:List Tok):cntO (a::r)=cntO r+(if a.t=[40]then 1 else 0):=by
 unfold cntO
 rw [List.filter_cons]
 by_cases h:a.t=[40]
 ·rw [if_pos h,if_pos (by simpa using h)];rfl
 ·rw [if_neg h,if_neg (by simpa using h)];rfl
theorem opAt_ne {lv:Nat}{ts:List Tok}(h:opAt lv ts≠0):(∃a r,ts=a::r∧a.k≠0)∧(lv=1→opAt lv ts=1∨opAt lv ts=3∨opAt lv ts=4)∧(lv≠1→opAt lv ts=2):=by
 unfold opAt at *
 by_cases h1:lv=1
 ·simp only [if_pos h1]at h⊢
  by_cases c1:tis ts [43]=true
  ·obtain⟨a,r,e,k,_⟩:=tis_ne c1
   rw [if_pos c1];exact⟨⟨a,r,e,k⟩,fun _ => .inl rfl,fun h=>absurd h1 h⟩
  ·rw [if_neg c1]at h⊢
   by_cases c2:tis ts [45]=true
   ·obtain⟨a,r,e,k,_⟩:=tis_ne c2
    rw [if_pos c2];exact⟨⟨a,r,e,k⟩,fun _ => .inr (.inl rfl),fun h=>absurd h1 h⟩
   ·rw [if_neg c2]at h⊢
    by_cases c3:tis ts [94]=true
    ·obtain⟨a,r,e,k,_⟩:=tis_ne c3
     rw [if_pos c3];exact⟨⟨a,r,e,k⟩,fun _ => .inr (.inr rfl),fun h=>absurd h1 h⟩
    ·rw [if_neg c3]at h;exact absurd rfl h
 ·simp only [if_neg h1]at h⊢
  by_cases c1:tis ts [42]=true
  ·obtain⟨a,r,e,k,_⟩:=tis_ne c1
   rw [if_pos c1];exact⟨⟨a,r,e,k⟩,fun h=>absurd h h1,fun _=>rfl⟩
  ·rw [if_neg c1]at h;exact absurd rfl h
def okC (b:UInt8):Bool:=decide (b.toNat=32)||decide (clsN b.toNat=3)||decide (clsN b.toNat=5)
def skipN (l:List UInt8):Nat:=(l.takeWhile fun b=>decide (b.toNat=32)).length
def runN (l:List UInt8):Nat:=(l.takeWhile fun b=>decide (clsN b.toNat=3)).length
theorem takeWhile_le {α:Type}(p:α→Bool):∀l:List α,(l.takeWhile p).length≤l.length
 | []=>Nat.le_refl _
 |a::l=>by
  rw [List.takeWhile_cons]
  split
  ·simp only [List.length_cons];have:=takeWhile_le p l;omega
  ·simp
theorem skipN_le (l:List UInt8):skipN l≤l.length:=takeWhile_le _ l
theorem runN_le (l:List UInt8):runN l≤l.length:=takeWhile_le _ l
def lexF:Nat→List UInt8→Nat→Option (List Tok)
 |0,_,_=>none
 |f+1,l,c=>match l.drop (skipN l)with
  | []=>some [⟨0,[],1,c+skipN l⟩]
  |b::r=>if clsN b.toNat=3 then
    (if 24<runN (b::r)then none else match lexF f ((b::r).drop (runN (b::r))) (c+skipN l+runN (b::r))with
     |some ts=>some (⟨1,(b::r).take (runN (b::r)),1,c+skipN l⟩::ts)
     |none=>none)
   else match lexF f r (c+skipN l+1)with
    |some ts=>some (⟨3,[b],1,c+skipN l⟩::ts)
    |none=>none
def lexT (l:List UInt8):Option (List Tok):=lexF (l.length+1) l 1
theorem runN_pos {b:UInt8}{r:List UInt8}(h:clsN b.toNat=3):1≤runN (b::r):=by
 unfold runN
 rw [List.takeWhile_cons,if_pos (by simpa using h)]
 simp
theorem lexF_ok:∀(f:Nat) (l:List UInt8) (c:Nat) (ts:List Tok),lexF f l c=some ts→TOk ts∧cntO ts≤(l.filter fun b=>decide (b=40)).length∧∀a∈ts,a.l=1∧1≤c→1≤a.c:=by
 intro f
 induction f with
 |zero=>intro l c ts h;unfold lexF at h;cases h
 |succ f ih =>
  intro l c ts h
  unfold lexF at h
  have hf:∀k,((l.drop k).filter fun b=>decide (b=(40:UInt8))).length≤(l.filter fun b=>decide (b=(40:UInt8))).length:=fun k=>((List.drop_sublist k l).filter _).length_le
  have h0:=hf (skipN l)
  cases hl:l.drop (skipN l)with
  |nil =>
   rw [hl]at h
   simp only [Option.some.injEq]at h
   subst h
   refine⟨⟨rfl,rfl⟩,by unfold cntO;simp,fun a ha h=>?_⟩
   rw [List.mem_singleton.1 ha]
   simp only;omega
  |cons b r =>
   rw [hl]at h h0
   simp only at h
   by_cases h3:clsN b.toNat=3
   ·rw [if_pos h3]at h
    have hp:=runN_pos (r:=r) h3
    by_cases h24:24<runN (b::r)
    ·rw [if_pos h24]at h;cases h
    ·rw [if_neg h24]at h
     cases hr:lexF f ((b::r).drop (runN (b::r))) (c+skipN l+runN (b::r))with
     |none=>rw [hr]at h;cases h
     |some ts1 =>
      rw [hr]at h
      simp only [Option.some.injEq]at h
      subst h
      obtain⟨g1,g2,g3⟩:=ih _ _ _ hr
      have hs:=(((List.drop_sublist (runN (b::r)) (b::r)).filter fun b=>decide (b=(40:UInt8))).length_le)
      refine⟨?_,?_,fun a ha h=>?_⟩
      ·cases ts1 with
       |nil=>exact g1.elim
       |cons a1 r1=>exact⟨.inl rfl,g1⟩
      ·rw [cntO_cons,if_neg]
       ·omega
       ·intro e
        simp only at e
        have hb:b=40:=by
         have h4:(b::r).take (runN (b::r))=b::r.take (runN (b::r)-1):=by
          obtain⟨m,hm⟩:∃m,runN (b::r)=m+1:=⟨runN (b::r)-1,by omega⟩
          rw [hm];rfl
         rw [h4]at e
         exact(List.cons.inj e).1
        rw [hb]at h3
        revert h3;decide +kernel
      ·rcases List.mem_cons.1 ha with rfl|ha
       ·simp only;omega
       ·exact g3 a ha ⟨h.1,by omega⟩
   ·rw [if_neg h3]at h
    cases hr:lexF f r (c+skipN l+1)with
    |none=>rw [hr]at h;cases h
    |some ts1 =>
     rw [hr]at h
     simp only [Option.some.injEq]at h
     subst h
     obtain⟨g1,g2,g3⟩:=ih _ _ _ hr
     refine⟨?_,?_,fun a ha h=>?_⟩
     ·cases ts1 with
      |nil=>exact g1.elim
      |cons a1 r1=>exact⟨.inr rfl,g1⟩
     ·rw [cntO_cons]
      rw [List.filter_cons]at h0
      by_cases hb:b=40
      ·subst hb
       rw [if_pos rfl]
       simp at h0
       omega
      ·rw [if_neg (fun e=>hb (List.cons.inj e).1)]
       rw [if_neg (by simpa using hb)]at h0
       omega
     ·rcases List.mem_cons.1 ha with rfl|ha
      ·simp only;omega
      ·exact g3 a ha ⟨h.1,by omega⟩
abbrev rdT:TypeId:=370
abbrev tkT:TypeId:=299
abbrev rdC (l:List UInt8) (k:Nat):List SV:=[str l,lit (.int .i64 k),lit (.int .i64 1),lit (.int .i64 (k+1:Nat))]
abbrev tkx (a:Tok):List SV:=[lit (.int .i64 a.k),str a.t,lit (.int .i64 a.l),lit (.int .i64 a.c)]
abbrev errE:SV:=ifc 141 Ab.top
theorem Le.ifcT {t:TypeId}{s:SV}:Le (ifc t s) (ifc t Ab.top):=fun m v h=>by
 unfold ifc at *
 obtain⟨u,rfl,_⟩:=h
 exact⟨u,rfl,by unfold Ab.top;trivial⟩
theorem Le.ifcL {t:TypeId}{u:Value}:Le (lit (.iface t u)) (ifc t Ab.top):=fun m v h=>by
 rw [lit_p]at h
 unfold ifc
 exact⟨u,h,by unfold Ab.top;trivial⟩
section
variable {P:Program}{F:Fr}{H:LH}{ty:TypeId}
theorem ov_ineF {T T' u:TypeId}{s:SV}{x:Operand}(hT:P.isIface T=true) (hx:ev F x=ifc u s):OpV P (.binOp .neq T x (.const .nilIface) T') ty F H (lit (.bool true)) :=
 OpV.pure fun m w o a ho _ _ _ h=>by
  have h0:=h x (by simp [Op.operands]);rw [hx]at h0
  unfold ifc at h0
  obtain⟨v,h0,_⟩:=h0
  have e1:a.eval (.const .nilIface) = .nilIface:=rfl
  exact⟨.bool true,by simp [execOp,ho,h0,e1,run_neq_iface_nil w T hT u v,Go.eqGuard],lit_p.2 rfl⟩
end
theorem take_drop_eq (l:List UInt8) (k n:Nat):(l.take (k+n)).drop k=(l.drop k).take n:=by
 rw [List.drop_take,Nat.add_sub_cancel_left]
theorem rdC_add (l:List UInt8) (k n:Nat):rdC l (k+n)=[str l,lit (.int .i64 ((k:Int)+n)),lit (.int .i64 1),lit (.int .i64 (((k+1:Nat):Int)+n))]:=by
 show [str l,lit (.int .i64 ((k+n:Nat):Int)),lit (.int .i64 1),lit (.int .i64 ((k+n+1:Nat):Int))]=_
 rw [show((k+n:Nat):Int)=(k:Int)+n by omega,show((k+n+1:Nat):Int)=((k+1:Nat):Int)+n by omega]
theorem rtake_pu (r:Nat) (l:List UInt8) (k n:Nat) (h:k+n≤l.length) (hl:l.length≤100000) :
  PuH Tryz.prog 281 [lit (.pointer (some ⟨r,0,none⟩)),lit (.int .i64 n)] [(r,rdT,rdC l k)] (fun v H=>v=str ((l.drop k).take n)∧H=[(r,rdT,rdC l (k+n))]) noX:=by
 rw [←take_drop_eq]
 refine PuH.intro Tryz.func281 rfl (by kernel_rfl) fun C hC=>?_
 repeat(refine A1 ⟨?_⟩;intros)
 refine Wdo (ov_ssl (i:=k) (j:=k+n) rfl (fun y hy=>by cases hy;exact⟨_,_,rfl,rfl⟩) (fun h=>by cases h) (fun y hy=>by cases hy;exact⟨_,_,rfl,by omega⟩) (fun h=>by cases h) (by omega) h) ?_
 repeat(refine A1 ⟨?_⟩;intros)
 exact endHR _ _ (end1 (RV.tmp rfl) (Le.refl _)) (List.Sublist.refl _) ⟨rfl,by rw [rdC_add]⟩
theorem skipN_32 {b:UInt8}(h:b.toNat=32) (r:List UInt8):skipN (b::r)=skipN r+1:=by
 unfold skipN;rw [List.takeWhile_cons,if_pos (by simpa using h)];rfl
theorem skipN_ne {b:UInt8}(h:b.toNat≠32) (r:List UInt8):skipN (b::r)=0:=by
 unfold skipN;rw [List.takeWhile_cons,if_neg (by simpa using h)];rfl
theorem runN_3 {b:UInt8}(h:clsN b.toNat=3) (r:List UInt8):runN (b::r)=runN r+1:=by
 unfold runN;rw [List.takeWhile_cons,if_pos (by simpa using h)];rfl
theorem runN_ne {b:UInt8}(h:clsN b.toNat≠3) (r:List UInt8):runN (b::r)=0:=by
 unfold runN;rw [List.takeWhile_cons,if_neg (by simpa using h)];rfl
theorem cls_ok {b:UInt8}(h:okC b=true):(b.toNat=32∧clsN b.toNat=1)∨(b.toNat≠32∧clsN b.toNat=3)∨(b.toNat≠32∧clsN b.toNat=5):=by
 have h32:clsN 32=1:=by decide +kernel
 by_cases e:b.toNat=32
 ·exact .inl ⟨e,by rw [e];exact h32⟩
 ·unfold okC at h
  rw [decide_eq_false e,Bool.false_or,Bool.or_eq_true]at h
  rcases h with h|h
  ·exact .inr (.inl ⟨e,of_decide_eq_true h⟩)
  ·exact .inr (.inr ⟨e,of_decide_eq_true h⟩)
theorem at_byte {l:List UInt8}{j:Nat}(h:j<l.length):∃b,l.drop j=b::l.drop (j+1)∧b∈l∧l.getD j 0=b :=
 ⟨l[j],List.drop_eq_getElem_cons h,List.getElem_mem h,by simp [List.getD,h]⟩
theorem skip_pu (r:Nat) (l:List UInt8) (k:Nat) (hok:∀b∈l,okC b=true) (hk:k≤l.length) (hl:l.length≤100000) :
  PuH Tryz.prog 279 [lit (.pointer (some ⟨r,0,none⟩))] [(r,rdT,rdC l k)] (fun v H=>v=Ab.tup []∧H=[(r,rdT,rdC l (k+skipN (l.drop k)))]) noX:=by
 refine PuH.intro Tryz.func279 rfl (by kernel_rfl) fun C hC=>?_
 refine WP.block ?_
 refine WP.loopS (ι:=Nat) (fun j=>j≤l.length∧j+skipN (l.drop j)=k+skipN (l.drop k)) (fun j=>l.length-j) (fun j=>fm [(0,lit (.pointer (some ⟨r,0,none⟩)))]) (fun j=>[(r,rdT,rdC l j)]) k ⟨hk,rfl⟩ lfA (List.Sublist.refl _) ?_
 rintro j ⟨hj,hs⟩ K hK
 by_cases hjl:j<l.length
 ·obtain⟨b,hd,hm,hg⟩:=at_byte hjl
  have hb:=b.toNat_lt
  have c1:=classOf_pu (b:=b.toNat) (by omega)
  rcases cls_ok (hok b hm)with⟨h32,hc⟩|⟨h32,hc⟩|⟨h32,hc⟩
  ·rw [hc,←hg]at c1
   have c2:=rtake_pu r l j 1 (by omega) hl
   rw [show((1:Nat):Int)=1 from rfl]at c2
   rw [hd,List.take_succ_cons,List.take_zero,show b=32 from UInt8.toNat_inj.1 h32]at c2
   rw [hd,skipN_32 h32]at hs
   have hgo:=fun F' H'=>hK F' H' (j+1) ⟨by omega,by omega⟩ (by omega)
   clear hK hs
   repeat(first|(refine A1 ⟨?_⟩;intros)|refine W4 c1 ⟨?_⟩)
   refine WfT c2 ?_
   rintro _ _ ⟨rfl,rfl⟩
   simp only [List.cons_append,List.nil_append]
   repeat(refine A1 ⟨?_⟩;intros)
   exact hgo _ _ lfA (List.Sublist.refl _)
  ·rw [hc,←hg]at c1
   rw [hd,skipN_ne h32]at hs
   clear hK
   have hj':j=k+skipN (l.drop k):=by omega
   subst hj'
   repeat(first|(refine A1 ⟨?_⟩;intros)|refine W4 c1 ⟨?_⟩)
   exact endHR _ _ end0 (List.Sublist.refl _) ⟨rfl,rfl⟩
  ·rw [hc,←hg]at c1
   rw [hd,skipN_ne h32]at hs
   clear hK
   have hj':j=k+skipN (l.drop k):=by omega
   subst hj'
   repeat(first|(refine A1 ⟨?_⟩;intros)|refine W4 c1 ⟨?_⟩)
   exact endHR _ _ end0 (List.Sublist.refl _) ⟨rfl,rfl⟩
 ·rw [List.drop_eq_nil_of_le (by omega)]at hs
  have hj':j=k+skipN (l.drop k):=by unfold skipN at hs⊢;simpa using hs
  subst hj'
  clear hK
  repeat(refine A1 ⟨?_⟩;intros)
  exact endHN _ _ end0 (List.Sublist.refl _) ⟨rfl,rfl⟩
theorem rrun_pu (r:Nat) (l:List UInt8) (k:Nat) (hok:∀b∈l,okC b=true) (hk:k≤l.length) (hl:l.length≤100000) :
  PuH Tryz.prog 282 [lit (.pointer (some ⟨r,0,none⟩)),sl [lit (.int .i64 3),lit (.int .i64 4)] 2] [(r,rdT,rdC l k)] (fun v H=>v=lit (.int .i64 (runN (l.drop k):Nat))∧H=[(r,rdT,rdC l k)]) noX:=by
 refine PuH.intro Tryz.func282 rfl (by kernel_rfl) fun C hC=>?_
 repeat(refine A1 ⟨?_⟩;intros)
 refine WP.loopS (ι:=Nat) (fun j=>k+j≤l.length∧j+runN (l.drop (k+j))=runN (l.drop k)) (fun j=>l.length-(k+j))
  (fun j=>fm [(0,lit (.pointer (some ⟨r,0,none⟩))),(1,sl [lit (.int .i64 3),lit (.int .i64 4)] 2),(5,lit (.int .i64 j))]) (fun j=>[(r,rdT,rdC l k)]) 0 ⟨hk,by rw [Nat.add_zero,Nat.zero_add]⟩ lfA (List.Sublist.refl _) ?_
 rintro j ⟨hj,hs⟩ K hK
 by_cases hjl:k+j<l.length
 ·obtain⟨b,hd,hm,hg⟩:=at_byte hjl
  have hb:=b.toNat_lt
  have c1:=classOf_pu (b:=b.toNat) (by omega)
  rcases cls_ok (hok b hm)with⟨h32,hc⟩|⟨h32,hc⟩|⟨h32,hc⟩
  ·rw [hc,←hg]at c1
   rw [hd,runN_ne (by omega)]at hs
   clear hK
   have hj':j=runN (l.drop k):=by omega
   subst hj'
   repeat(first|(refine A1 ⟨?_⟩;intros)|refine W4 c1 ⟨?_⟩)
   refine WP.unroll 3 ?_
   refine WPR.succ ?_
   repeat(refine A1 ⟨?_⟩;intros)
   refine Wo (ov_idxS (cs':=[lit (.int .i64 3)]) rfl rfl (by omega) (by omega) rfl (by simp)) ?_
   repeat(refine A1 ⟨?_⟩;intros)
   refine Wo (ov_idxS (cs':=[lit (.int .i64 4)]) rfl rfl (by omega) (by omega) rfl (by simp)) ?_
   repeat(refine A1 ⟨?_⟩;intros)
   exact endHR _ _ (end1 (RV.tmp rfl) (Le.refl _)) (List.Sublist.refl _) ⟨rfl,rfl⟩
  ·rw [hc,←hg]at c1
   rw [hd,runN_3 hc]at hs
   have hgo:=fun F' H'=>hK F' H' (j+1) ⟨by omega,by rw [show k+(j+1)=k+j+1 by omega];omega⟩ (by omega)
   clear hK hs
   repeat(first|(refine A1 ⟨?_⟩;intros)|refine W4 c1 ⟨?_⟩)
   refine WP.unroll 3 ?_
   refine WPR.succ ?_
   repeat(refine A1 ⟨?_⟩;intros)
   refine Wo (ov_idxS (cs':=[lit (.int .i64 3)]) rfl rfl (by omega) (by omega) rfl (by simp)) ?_
   repeat(refine A1 ⟨?_⟩;intros)
   exact hgo _ _ lfA (List.Sublist.refl _)
  ·rw [hc,←hg]at c1
   rw [hd,runN_ne (by omega)]at hs
   clear hK
   have hj':j=runN (l.drop k):=by omega
   subst hj'
   repeat(first|(refine A1 ⟨?_⟩;intros)|refine W4 c1 ⟨?_⟩)
   refine WP.unroll 3 ?_
   refine WPR.succ ?_
   repeat(refine A1 ⟨?_⟩;intros)
   refine Wo (ov_idxS (cs':=[lit (.int .i64 3)]) rfl rfl (by omega) (by omega) rfl (by simp)) ?_
   repeat(refine A1 ⟨?_⟩;intros)
   refine Wo (ov_idxS (cs':=[lit (.int .i64 4)]) rfl rfl (by omega) (by omega) rfl (by simp)) ?_
   repeat(refine A1 ⟨?_⟩;intros)
   exact endHR _ _ (end1 (RV.tmp rfl) (Le.refl _)) (List.Sublist.refl _) ⟨rfl,rfl⟩
 ·rw [List.drop_eq_nil_of_le (by omega)]at hs
  have hj':j=runN (l.drop k):=by unfold runN at hs⊢;simpa using hs
  subst hj'
  clear hK
  repeat(refine A1 ⟨?_⟩;intros)
  exact endHR _ _ (end1 (RV.tmp rfl) (Le.refl _)) (List.Sublist.refl _) ⟨rfl,rfl⟩
end Go.Ab
