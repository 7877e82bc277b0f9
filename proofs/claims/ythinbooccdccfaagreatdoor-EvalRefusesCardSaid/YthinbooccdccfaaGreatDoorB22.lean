/- Texts laid one behind the other: PEach, Fce, Opn, Eqv, Chr. -/
import Derived.Test.YthinbooccdccfaaGreatDoorB21
import Derived.Test.YthinbooccdccfaaGreatDoorB17
import Derived.Test.YthinbooccdccfaaGreatDoorB19
import Derived.Test.YthinbooccdccfaaGreatDoorB20
set_option linter.unusedSectionVars false
set_option linter.unusedVariables false
set_option linter.unusedSimpArgs false
namespace Go.Ab
open Go.Proofs
variable [Base]
structure EcSt where
 st:List Tr
 cnt:Nat
 s:SV
 Hs:LH
def szL (l:List Tr):Nat:=(l.map sizeT).sum
def msL (l:List Tr):Nat:=(l.map fun t=>2*sizeT t+1).sum
theorem szL_snoc (l:List Tr) (x:Tr):szL (l++[x])=szL l+sizeT x:=by unfold szL;simp
theorem msL_snoc (l:List Tr) (x:Tr):msL (l++[x])=msL l+(2*sizeT x+1):=by unfold msL;simp
theorem msL_len:∀l:List Tr,l.length≤msL l
 | []=>Nat.le_refl _
 |x::l=>by
  have:=msL_len l
  unfold msL at *
  simp only [List.map_cons,List.sum_cons,List.length_cons]
  omega
set_option maxHeartbeats 8000000 in
theorem each_pu (b:Nat) (m:Nat) (t:Tr) (hm:m+sizeT t≤100000000):PuH Tryz.prog 88 [bt t,fnv 89 [] [lit (.pointer (some ⟨b,0,none⟩))]] [(b,iT,[lit (.int .i64 (m:Nat))])] (fun r H'=>r=Ab.tup []∧H'=[(b,iT,[lit (.int .i64 ((m+sizeT t:Nat):Int))])]) noX:=by
 refine PuH.intro Tryz.func88 rfl (by kernel_rfl) fun C hC=>?_
 repeat(refine A1 ⟨?_⟩;intros)
 rename_i b8
 refine WP.loopS (ι:=EcSt) (fun y=>Own ptT 1 y.st.length (y.st.map bt) y.s y.Hs∧y.cnt+szL y.st=m+sizeT t∧msL y.st≤2*sizeT t+1) (fun y=>msL y.st)
  (fun y=>fm [(1,fnv 89 [] [lit (.pointer (some ⟨b,0,none⟩))]),(4,y.s)]) (fun y=>y.Hs++[(b,iT,[lit (.int .i64 (y.cnt:Nat))])]) ⟨[t],m,lit (.slice (some ⟨b8,0,none⟩) 1 1),[(b8,ptT,[bt t])]⟩
  ⟨⟨rfl, .inr ⟨b8,1,Nat.le_refl _,by decide,rfl,rfl⟩⟩,by simp [szL],by simp [msL]⟩ lfA (List.Sublist.refl _) ?_
 rintro ⟨st,cnt,s,Hs⟩ ⟨hown,hsz,hms⟩ K hK
 simp only at hown hsz hms⊢
 have hco:=hown.co
 have hlen:=msL_len st
 rcases List.eq_nil_or_concat st with rfl|⟨st',x,rfl⟩
 ·have hown0:=hown
  simp only [szL,List.map_nil,List.sum_nil,Nat.add_zero]at hsz
  subst hsz
  simp only [List.length_nil]at hown0
  clear hK
  repeat(first|(refine A1 ⟨?_⟩;intros)|(refine Wo (ov_lenOwn hown0 rfl) ?_)|(refine Wdo (ov_lenOwn hown0 rfl) ?_)|(refine Wog (ov_lenOwn hown0 rfl) ?_)|(refine Wdog (ov_lenOwn hown0 rfl) ?_))
  exact endHN _ _ end0 (List.sublist_append_right _ _) ⟨rfl,rfl⟩
 ·rw [List.concat_eq_append]at *
  rw [szL_snoc]at hsz
  rw [msL_snoc]at hms
  have hl1:(st'++[x]).length=st'.length+1:=by simp
  rw [hl1]at hlen
  have hlb:st'.length+1≤300000000:=by have e:=msL_snoc st' x;rw [e]at hlen;omega
  obtain⟨b1,c1,hnc,hcm,rfl,rfl⟩:=hown.blk (by rw [hl1];omega)
  have hil:((st'++[x]).map bt).length=(st'++[x]).length*1:=by rw [List.length_map,Nat.mul_one]
  obtain⟨hownr,hle⟩:=Own.cut (T:=ptT) (j:=st'.length) (b:=b1) hil hnc hcm (by rw [hl1];omega)
  have htk:((st'++[x]).map bt).take (st'.length*1)=st'.map bt:=by rw [Nat.mul_one,List.map_append,List.take_left' (by simp)]
  have hgt:((st'++[x]).map bt++List.replicate (c1*1-(st'++[x]).length*1) top)[st'.length]? = some (bt x):=by
   rw [List.getElem?_append_left (by simp),List.map_append,List.getElem?_append_right (by simp)]
   simp
  rw [htk]at hownr hle
  have cf:=sizeF_pu b cnt (by omega) x
  rw [hl1]at hnc hle hgt⊢
  clear hown htk hil hlen
  simp only [List.cons_append,List.nil_append]
  cases x with
  |leaf i =>
   have d1:=isLeaf_leaf i
   have hgo:=fun F' H'=>hK F' H' ⟨st',cnt,lit (.slice (some ⟨b1,0,none⟩) st'.length c1),_⟩ ⟨hownr,by simp only [sizeT]at hsz⊢;omega,by simp only;omega⟩ (by simp only;rw [msL_snoc];omega)
   rw [show(if sizeT (.leaf i)=0 then 0 else 1)=0 from rfl,Nat.add_zero]at cf
   clear hK
   repeat(refine A1 ⟨?_⟩;intros)
   rw [show(((st'.length+1:Nat):Int)-1)=((st'.length:Nat):Int) by omega]
   refine Wo (ov_loadL rfl mmA hgt) ?_
   repeat(refine A1 ⟨?_⟩;intros)
   refine Wo (ov_slTL st'.length rfl rfl rfl (by omega)) ?_
   refine WPL.lowB (.here _) hle ?_
   repeat(refine A1 ⟨?_⟩;intros)
   refine WvT cf ?_
   rintro _ _ ⟨rfl,rfl⟩
   simp only [List.cons_append,List.nil_append]
   repeat(first|(refine A1 ⟨?_⟩;intros)|refine W4 d1 ⟨?_⟩)
   exact hgo _ _ lfA (List.Sublist.refl _)
  |node l u v =>
   have d1:=isLeaf_node l u v
   have hadd:∀s' H',Own ptT 1 (st'.length+2) (st'.map bt++[bt v,bt u]) s' H'→Own ptT 1 (st'++[v]++[u]).length ((st'++[v]++[u]).map bt) s' H':=fun s' H' h=>by
    rw [List.map_append,List.map_append,List.append_assoc]
    simpa using h
   have hgo:=fun s' H1 (h:Own ptT 1 (st'.length+2) (st'.map bt++[bt v,bt u]) s' H1) F' H'=>hK F' H' ⟨st'++[v]++[u],cnt+1,s',H1⟩ ⟨hadd s' H1 h,by simp only [sizeT,szL_snoc]at hsz⊢;omega,by simp only [sizeT,msL_snoc]at hms⊢;omega⟩ (by simp only [sizeT,msL_snoc];omega)
   rw [show(if sizeT (.node l u v)=0 then 0 else 1)=1 from if_neg (by simp only [sizeT];omega)]at cf
   have en:bt (.node l u v)=pt (bc (.node l u v)):=rfl
   rw [en,bc_node]at d1 cf hgt
   clear hK hadd en
   repeat(refine A1 ⟨?_⟩;intros)
   rw [show(((st'.length+1:Nat):Int)-1)=((st'.length:Nat):Int) by omega]
   refine Wo (ov_loadL rfl mmA hgt) ?_
   repeat(refine A1 ⟨?_⟩;intros)
   refine Wo (ov_slTL st'.length rfl rfl rfl (by omega)) ?_
   refine WPL.lowB (.here _) hle ?_
   repeat(refine A1 ⟨?_⟩;intros)
   refine WvT cf ?_
   rintro _ _ ⟨rfl,rfl⟩
   simp only [List.cons_append,List.nil_append]
   repeat(first|(refine AS ⟨?_⟩;intros)|(refine O1 ⟨?_⟩;intros)|(refine Wcx (d1) ?_)|(refine Wcgx (d1) ?_))
   refine WdZ 11 [0,1,2,3,4,5,6,7,8,9,10] [10] [(b1,ptT,st'.map bt++List.replicate (c1*1-st'.length*1) top)] [(b,iT,[lit (.int .i64 ((cnt+1:Nat):Int))])] ?_
   refine ZkD 10 ?_
   repeat(first|(refine Wo (ov_bsK (r:=[(0,[bt v]),(1,[bt u])]) (cs:=[bt v,bt u]) (.cons (sv:=bt v) rfl inferInstance (.cons (sv:=bt u) rfl inferInstance .nil))) ?_)|(refine Wdo (ov_bsK (r:=[(0,[bt v]),(1,[bt u])]) (cs:=[bt v,bt u]) (.cons (sv:=bt v) rfl inferInstance (.cons (sv:=bt u) rfl inferInstance .nil))) ?_)|(refine A1 ⟨?_⟩;intros))
   refine mkZ0 ?_
   refine ZkAK (k0:=2) (ds:=[bt v,bt u]) hownr (Tk.same _) (by omega) (fun s' H' hown'=>?_)
   refine ZkN ?_
   have hco':=hown'.co
   replace hgo:=hgo s' H' hown'
   clear hown'
   rw [List.append_nil]
   repeat(refine A1 ⟨?_⟩;intros)
   exact hgo _ _ lfA (List.Sublist.refl _)
theorem bsize_pu (t:Tr) (h:sizeT t≤100000000):Pu Tryz.prog 38 [bt t] (lit (.int .i64 (sizeT t:Nat))):=by
 refine PuH.toPu ?_
 refine PuH.intro Tryz.func38 rfl (by kernel_rfl) fun C hC=>?_
 repeat(refine A1 ⟨?_⟩;intros)
 rename_i b3
 have c:=each_pu b3 0 t (by omega)
 rw [Nat.zero_add]at c
 repeat(refine A1 ⟨?_⟩;intros)
 refine WfT c ?_
 rintro _ _ ⟨rfl,rfl⟩
 simp only [List.cons_append,List.nil_append]
 repeat(refine A1 ⟨?_⟩;intros)
 exact endHR _ _ (end1 (RV.tmp rfl) (Le.refl _)) (List.nil_sublist _) rfl
def Cvx (I:Pq→Prop):Prop:=∀p q (s:Rat),I p→I q→0≤s→s≤1→I (q.1+s*(p.1-q.1),q.2+s*(p.2-q.2))
theorem Cvx.left {I:Pq→Prop}(h:Cvx I) (l:Li):Cvx fun q=>I q∧0<valL l q:=fun p q s hp hq h0 h1=>by
 refine⟨h p q s hp.1 hq.1 h0 h1,?_⟩
 rw [val_lin]
 have:=Rat.mul_nonneg h0 (Rat.le_of_lt hp.2)
 have:=Rat.mul_nonneg (show 0≤1-s by grind) (Rat.le_of_lt hq.2)
 have a:=hp.2
 have b:=hq.2
 by_cases e:s=0
 ·rw [e];grind
 ·have:=Rat.mul_pos (show 0<s by grind) a
  grind
theorem Cvx.right {I:Pq→Prop}(h:Cvx I) (l:Li):Cvx fun q=>I q∧valL l q<0:=fun p q s hp hq h0 h1=>by
 refine⟨h p q s hp.1 hq.1 h0 h1,?_⟩
 rw [val_lin]
 have a:=hp.2
 have b:=hq.2
 have:=Rat.mul_nonneg (show 0≤1-s by grind) (show 0≤- valL l q by grind)
 by_cases e:s=0
 ·rw [e];grind
 ·have:=Rat.mul_pos (show 0<s by grind) (show 0 < - valL l p by grind)
  grind
theorem cvx_inn (c:List Li):Cvx (Inn c):=fun p q s hp hq h0 h1 l hl=>by
 rw [val_lin]
 have a:=hp l hl
 have b:=hq l hl
 have:=Rat.mul_nonneg (show 0≤1-s by grind) (Rat.le_of_lt b)
 by_cases e:s=0
 ·rw [e];grind
 ·have:=Rat.mul_pos (show 0<s by grind) a
  grind
theorem between {I:Pq→Prop}(h:Cvx I){m:Li}{p q:Pq}(hp:I p) (hq:I q) (h1:0<valL m p) (h2:valL m q<0):∃r,I r∧valL m r=0∧∀l,valL l p=0→valL l q=0→valL l r=0:=by
 have hd:valL m p-valL m q≠0:=by grind
 have hd':0<valL m p-valL m q:=by grind
 have e : -valL m q/(valL m p-valL m q)*(valL m p-valL m q) = -valL m q:=Rat.div_mul_cancel hd
 have s0:0≤-valL m q/(valL m p-valL m q):=by
  rw [Rat.div_def]
  exact Rat.mul_nonneg (by grind) (Rat.le_of_lt (Rat.inv_pos.2 hd'))
 have s1 : -valL m q/(valL m p-valL m q)≤1:=by
  by_cases c : -valL m q/(valL m p-valL m q)≤1
  ·exact c
  ·exfalso
   have:=Rat.mul_pos (show 0 < -valL m q/(valL m p-valL m q)-1 by grind) hd'
   grind
 generalize -valL m q/(valL m p-valL m q)=s at *
 refine⟨_,h p q s hp hq s0 s1,?_,fun l a b=>?_⟩
 ·rw [val_lin,e];grind
 ·rw [val_lin,a,b];grind
theorem flat_line {l m:Li}(hl:l.ok) (hs:slp l m=0){p q:Pq}(hp:valL l p=0) (hq:valL l q=0):valL m p=valL m q:=by
 unfold valL slp at *
 have h:(l.a:Rat)≠0∨(l.b:Rat)≠0:=by
  rcases hl.2 with r|r
  ·exact .inl fun e=>r (Rat.intCast_eq_zero_iff.1 e)
  ·exact .inr fun e=>r (Rat.intCast_eq_zero_iff.1 e)
 generalize(l.a:Rat)=a at *
 generalize(l.b:Rat)=b at *
 generalize(m.a:Rat)=c at *
 generalize(m.b:Rat)=d at *
 have e1:a*(p.1-q.1)+b*(p.2-q.2)=0:=by grind
 have:c*(p.1-q.1)+d*(p.2-q.2)=0:=by
  rcases h with h|h
  ·have:a*(c*(p.1-q.1)+d*(p.2-q.2))=0:=by grind
   rcases Rat.mul_eq_zero.1 this with e|e
   ·exact absurd e h
   ·exact e
  ·have:b*(c*(p.1-q.1)+d*(p.2-q.2))=0:=by grind
   rcases Rat.mul_eq_zero.1 this with e|e
   ·exact absurd e h
   ·exact e
 grind
def crsI (I:Pq→Prop) (l k:Li):Prop:=∃q,I q∧valL l q=0∧valL k q=0∧slp l k≠0
def metI (I:Pq→Prop) (l:Li):Prop:=∃q,I q∧valL l q=0
open Classical in
noncomputable def cntI (L:List Li) (I:Pq→Prop) (l:Li):Nat:=L.countP fun k=>decide (crsI I l k)
open Classical in
noncomputable def wI (L:List Li) (I:Pq→Prop) (l:Li):Nat:=if metI I l then 1+cntI L I l else 0
noncomputable def phiM (L M:List Li) (I:Pq→Prop):Nat:=(M.map (wI L I)).sum
theorem count_mono {α:Type}{p r:α→Bool}:∀{L:List α},(∀x∈L,p x=true→r x=true)→L.countP p≤L.countP r
 | [],_=>by simp
 |x::L,h=>by
  have ih:=count_mono (L:=L) fun y hy=>h y (List.mem_cons_of_mem _ hy)
  have:=h x List.mem_cons_self
  rw [List.countP_cons,List.countP_cons]
  cases hp:p x <;> cases hr:r x <;> simp_all <;> omega
theorem count_split {α:Type}{p q r:α→Bool}:∀{L:List α},(∀x∈L,p x=true→r x=true)→(∀x∈L,q x=true→r x=true)→(∀x∈L,p x=true→q x=true→False)→L.countP p+L.countP q≤L.countP r
 | [],_,_,_=>by simp
 |x::L,h1,h2,h3=>by
  have ih:=count_split (L:=L) (fun y hy=>h1 y (List.mem_cons_of_mem _ hy)) (fun y hy=>h2 y (List.mem_cons_of_mem _ hy)) (fun y hy=>h3 y (List.mem_cons_of_mem _ hy))
  have a1:=h1 x List.mem_cons_self
  have a2:=h2 x List.mem_cons_self
  have a3:=h3 x List.mem_cons_self
  rw [List.countP_cons,List.countP_cons,List.countP_cons]
  cases hp:p x <;> cases hq:q x <;> cases hr:r x <;> simp_all <;> omega
theorem count_two {α:Type}{p q r:α→Bool}{x0:α}:∀{L:List α},(∀x∈L,p x=true→r x=true)→(∀x∈L,q x=true→r x=true)→(∀x∈L,p x=true→q x=true→False)→x0∈L→r x0=true→p x0=false→q x0=false→L.countP p+L.countP q+1≤L.countP r
 | [],_,_,_,h,_,_,_=>by cases h
 |x::L,h1,h2,h3,h,e1,e2,e3=>by
  have g1:=fun y hy=>h1 y (List.mem_cons_of_mem _ hy)
  have g2:=fun y hy=>h2 y (List.mem_cons_of_mem _ hy)
  have g3:=fun y hy=>h3 y (List.mem_cons_of_mem _ hy)
  have a1:=h1 x List.mem_cons_self
  have a2:=h2 x List.mem_cons_self
  have a3:=h3 x List.mem_cons_self
  rw [List.countP_cons,List.countP_cons,List.countP_cons]
  rcases List.mem_cons.1 h with rfl|hm
  ·have:=count_split g1 g2 g3
   rw [e1,e2,e3]
   simp only [if_true,Bool.false_eq_true,if_false]
   omega
  ·have ih:=count_two g1 g2 g3 hm e1 e2 e3
   cases hp:p x <;> cases hq:q x <;> cases hr:r x <;> simp_all <;> omega
theorem crs_mono {I J:Pq→Prop}(h:∀q,J q→I q){l k:Li}(c:crsI J l k):crsI I l k:=by
 obtain⟨q,h1,h2⟩:=c
 exact⟨q,h q h1,h2⟩
open Classical in
theorem wI_mono {I J:Pq→Prop}(L:List Li) (h:∀q,J q→I q) (l:Li):wI L J l≤wI L I l:=by
 unfold wI
 split
 ·rename_i c
  obtain⟨q,h1,h2⟩:=c
  rw [if_pos ⟨q,h q h1,h2⟩]
  have:cntI L J l≤cntI L I l:=count_mono fun x _ hx=>decide_eq_true (crs_mono h (of_decide_eq_true hx))
  omega
 ·omega
theorem crs_one {I:Pq→Prop}{l k m:Li}(hl:l.ok) (a:crsI (fun q=>I q∧0<valL m q) l k) (b:crsI (fun q=>I q∧valL m q<0) l k):False:=by
 obtain⟨p,⟨_,p1⟩,p2,p3,p4⟩:=a
 obtain⟨q,⟨_,q1⟩,q2,q3,q4⟩:=b
 have e:p.1=q.1∧p.2=q.2:=by
  unfold valL slp at *
  have h:(l.a:Rat)≠0∨(l.b:Rat)≠0:=by
   rcases hl.2 with r|r
   ·exact .inl fun e=>r (Rat.intCast_eq_zero_iff.1 e)
   ·exact .inr fun e=>r (Rat.intCast_eq_zero_iff.1 e)
  generalize(l.a:Rat)=a at *
  generalize(l.b:Rat)=b at *
  generalize(k.a:Rat)=c at *
  generalize(k.b:Rat)=d at *
  have e1:a*(p.1-q.1)+b*(p.2-q.2)=0:=by grind
  have e2:c*(p.1-q.1)+d*(p.2-q.2)=0:=by grind
  have f1:(c*b-d*a)*(p.1-q.1)=0:=by grind
  have f2:(c*b-d*a)*(p.2-q.2)=0:=by grind
  constructor
  ·rcases Rat.mul_eq_zero.1 f1 with e|e
   ·exact absurd e p4
   ·grind
  ·rcases Rat.mul_eq_zero.1 f2 with e|e
   ·exact absurd e p4
   ·grind
 have:p=q:=Prod.ext e.1 e.2
 rw [this]at p1
 grind
open Classical in
theorem wI_split {I:Pq→Prop}(hI:Cvx I){L:List Li}{l m:Li}(hl:l.ok) (hm:m∈L):wI L (fun q=>I q∧0<valL m q) l+wI L (fun q=>I q∧valL m q<0) l≤wI L I l:=by
 by_cases c1:metI (fun q=>I q∧0<valL m q) l
 ·by_cases c2:metI (fun q=>I q∧valL m q<0) l
  ·obtain⟨p,⟨p0,p1⟩,p2⟩:=id c1
   obtain⟨q,⟨q0,q1⟩,q2⟩:=id c2
   obtain⟨r,r1,r2,r3⟩:=between hI p0 q0 p1 q1
   have hs:slp l m≠0:=fun e=>by
    have:=flat_line hl e p2 q2
    rw [this]at p1
    grind
   have hx:crsI I l m:=⟨r,r1,r3 l p2 q2,r2,hs⟩
   unfold wI
   rw [if_pos c1,if_pos c2,if_pos ⟨r,r1,r3 l p2 q2⟩]
   have:cntI L (fun q=>I q∧0<valL m q) l+cntI L (fun q=>I q∧valL m q<0) l+1≤cntI L I l:=by
    refine count_two (x0:=m) (fun x _ hx=>decide_eq_true (crs_mono (fun q h=>h.1) (of_decide_eq_true hx))) (fun x _ hx=>decide_eq_true (crs_mono (fun q h=>h.1) (of_decide_eq_true hx))) (fun x _ ha hb=>crs_one hl (of_decide_eq_true ha) (of_decide_eq_true hb)) hm (decide_eq_true hx) (decide_eq_false ?_) (decide_eq_false ?_)
    ·rintro ⟨q,⟨_,h1⟩,_,h2,_⟩
     rw [h2]at h1;exact absurd h1 (Rat.lt_irrefl)
    ·rintro ⟨q,⟨_,h1⟩,_,h2,_⟩
     rw [h2]at h1;exact absurd h1 (Rat.lt_irrefl)
   omega
  ·have:=wI_mono (I:=I) (J:=fun q=>I q∧0<valL m q) L (fun q h=>h.1) l
   have e:wI L (fun q=>I q∧valL m q<0) l=0:=if_neg c2
   omega
 ·have:=wI_mono (I:=I) (J:=fun q=>I q∧valL m q<0) L (fun q h=>h.1) l
  have e:wI L (fun q=>I q∧0<valL m q) l=0:=if_neg c1
  omega
open Classical in
theorem wI_self {I:Pq→Prop}(hI:Cvx I){L:List Li}{m:Li}(h1:Lft I m) (h2:Rgt I m):wI L (fun q=>I q∧0<valL m q) m+wI L (fun q=>I q∧valL m q<0) m+1≤wI L I m:=by
 obtain⟨p,p1,p2⟩:=h1
 obtain⟨q,q1,q2⟩:=h2
 obtain⟨r,r1,r2,_⟩:=between hI p1 q1 p2 q2
 have e1:wI L (fun q=>I q∧0<valL m q) m=0:=if_neg (by
  rintro ⟨q,⟨_,h1⟩,h2⟩
  rw [h2]at h1;exact absurd h1 (Rat.lt_irrefl))
 have e2:wI L (fun q=>I q∧valL m q<0) m=0:=if_neg (by
  rintro ⟨q,⟨_,h1⟩,h2⟩
  rw [h2]at h1;exact absurd h1 (Rat.lt_irrefl))
 have e3:wI L I m=1+cntI L I m:=if_pos ⟨r,r1,r2⟩
 omega
theorem phiM_split {I:Pq→Prop}(hI:Cvx I){L:List Li}{m:Li}(hm:m∈L):∀{M:List Li},(∀l∈M,l.ok)→phiM L M (fun q=>I q∧0<valL m q)+phiM L M (fun q=>I q∧valL m q<0)≤phiM L M I
 | [],_=>by simp [phiM]
 |l::M,hM=>by
  have ih:=phiM_split hI hm (M:=M) fun x hx=>hM x (List.mem_cons_of_mem _ hx)
  have:=wI_split hI (hM l List.mem_cons_self) hm
  simp only [phiM,List.map_cons,List.sum_cons]at *
  omega
theorem phiM_less {I:Pq→Prop}(hI:Cvx I){L:List Li}{m:Li}(hm:m∈L) (h1:Lft I m) (h2:Rgt I m):∀{M:List Li},(∀l∈M,l.ok)→m∈M→phiM L M (fun q=>I q∧0<valL m q)+phiM L M (fun q=>I q∧valL m q<0)+1≤phiM L M I
 | [],_,h=>by cases h
 |l::M,hM,h=>by
  have g:=fun x hx=>hM x (List.mem_cons_of_mem _ hx)
  rcases List.mem_cons.1 h with rfl|h
  ·have ih:=phiM_split hI hm (M:=M) g
   have:=wI_self (L:=L) hI h1 h2
   simp only [phiM,List.map_cons,List.sum_cons]at *
   omega
  ·have ih:=phiM_less hI hm h1 h2 g h
   have:=wI_split hI (hM l List.mem_cons_self) hm
   simp only [phiM,List.map_cons,List.sum_cons]at *
   omega
def Prp:Tr→(Pq→Prop)→Prop
 | .leaf _,_=>True
 | .node l a b,I=>Lft I l∧Rgt I l∧Prp a (fun q=>I q∧0<valL l q)∧Prp b (fun q=>I q∧valL l q<0)
theorem size_phi {L:List Li}(hL:∀l∈L,l.ok):∀{t:Tr}{I:Pq→Prop},Cvx I→Prp t I→t.lin L→sizeT t≤phiM L L I
 | .leaf _,_,_,_,_=>Nat.zero_le _
 | .node l a b,I,hI,⟨h1,h2,h3,h4⟩,⟨k1,k2,k3⟩=>by
  have a1:=size_phi hL (hI.left l) h3 k2
  have a2:=size_phi hL (hI.right l) h4 k3
  have:=phiM_less hI k1 h1 h2 hL k1
  simp only [sizeT]
  omega
theorem wI_le (L:List Li) (I:Pq→Prop) (l:Li):wI L I l≤1+L.length:=by
 have:cntI L I l≤L.length:=List.countP_le_length
 unfold wI
 split <;> omega
theorem phiM_le (L:List Li) (I:Pq→Prop):∀M:List Li,phiM L M I≤M.length*(1+L.length)
 | []=>by simp [phiM]
 |l::M=>by
  have:=phiM_le L I M
  have:=wI_le L I l
  simp only [phiM,List.map_cons,List.sum_cons,List.length_cons,Nat.add_mul]at *
  omega
theorem size_lines {L:List Li}(hL:∀l∈L,l.ok){t:Tr}{I:Pq→Prop}(hI:Cvx I) (h:Prp t I) (k:t.lin L):sizeT t≤L.length*(1+L.length) :=
 Nat.le_trans (size_phi hL hI h k) (phiM_le L I L)
theorem joinT_prp {l:Li}{a b:Tr}{I:Pq→Prop}(h1:Lft I l) (h2:Rgt I l) (ha:Prp a fun q=>I q∧0<valL l q) (hb:Prp b fun q=>I q∧valL l q<0):Prp (joinT l a b) I:=by
 cases a with
 |leaf i =>
  cases b with
  |leaf j =>
   show Prp (if i=j then Tr.leaf i else Tr.node l (.leaf i) (.leaf j)) I
   split
   ·trivial
   ·exact⟨h1,h2,ha,hb⟩
  |node m x y=>exact⟨h1,h2,ha,hb⟩
 |node m x y=>exact⟨h1,h2,ha,hb⟩
theorem notT_prp:∀{t:Tr}{I:Pq→Prop},Prp t I→Prp (notT t) I
 | .leaf _,_,_=>trivial
 | .node _ _ _,_,⟨h1,h2,h3,h4⟩=>⟨h1,h2,notT_prp h3,notT_prp h4⟩
theorem restrI_prp:∀{t:Tr}{I:Pq→Prop},Prp (restrI t I) I
 | .leaf _,_=>trivial
 | .node l a b,I=>by
  unfold restrI
  split
  ·exact restrI_prp
  ·rename_i h1
   split
   ·exact restrI_prp
   ·rename_i h2
    exact joinT_prp (Classical.not_not.1 h2) (Classical.not_not.1 h1) restrI_prp restrI_prp
theorem mergeI_prp {op:Int}:∀{t b:Tr}{I:Pq→Prop},Prp (mergeI op t b I) I
 | .leaf i,b,I=>by
  unfold mergeI chooseI
  split
  ·trivial
  ·split
   ·trivial
   ·split
    ·exact notT_prp restrI_prp
    ·exact restrI_prp
 | .node l x y,b,I=>by
  unfold mergeI
  split
  ·exact mergeI_prp
  ·rename_i h1
   split
   ·exact mergeI_prp
   ·rename_i h2
    exact joinT_prp (Classical.not_not.1 h2) (Classical.not_not.1 h1) mergeI_prp mergeI_prp
theorem joinT_lin {L:List Li}{l:Li}(h:l∈L):∀{a b:Tr},a.lin L→b.lin L→(joinT l a b).lin L
 | .leaf i, .leaf j,ha,hb=>by
  show(if i=j then Tr.leaf i else Tr.node l (.leaf i) (.leaf j)).lin L
  split
  ·trivial
  ·exact⟨h,ha,hb⟩
 | .leaf i, .node m x y,ha,hb=>⟨h,ha,hb⟩
 | .node m x y,b,ha,hb=>by cases b <;> exact⟨h,ha,hb⟩
theorem notT_lin {L:List Li}:∀{t:Tr},t.lin L→(notT t).lin L
 | .leaf _,_=>trivial
 | .node _ _ _,⟨h,ha,hb⟩=>⟨h,notT_lin ha,notT_lin hb⟩
theorem restrI_lin {L:List Li}:∀{t:Tr}{I:Pq→Prop},t.lin L→(restrI t I).lin L
 | .leaf _,_,_=>trivial
 | .node l a b,I,⟨h,ha,hb⟩=>by
  unfold restrI
  split
  ·exact restrI_lin ha
  ·split
   ·exact restrI_lin hb
   ·exact joinT_lin h (restrI_lin ha) (restrI_lin hb)
theorem mergeI_lin {op:Int}{L:List Li}:∀{t b:Tr}{I:Pq→Prop},t.lin L→b.lin L→(mergeI op t b I).lin L
 | .leaf i,b,I,_,hb=>by
  unfold mergeI chooseI
  split
  ·trivial
  ·split
   ·trivial
   ·split
    ·exact notT_lin (restrI_lin hb)
    ·exact restrI_lin hb
 | .node l x y,b,I,⟨h,hx,hy⟩,hb=>by
  unfold mergeI
  split
  ·exact mergeI_lin hx hb
  ·split
   ·exact mergeI_lin hy hb
   ·exact joinT_lin h (mergeI_lin hx hb) (mergeI_lin hy hb)
end Go.Ab
namespace Go.Ab
open Go.Proofs
variable [Base]
theorem sq_pos {a b:Rat}(h:a≠0∨b≠0):0<a*a+b*b:=by
 have ha:0≤a*a:=by
  by_cases q:0≤a
  ·exact Rat.mul_nonneg q q
  ·have:=Rat.mul_nonneg (show 0≤-a by grind) (show 0≤-a by grind)
   grind
 have hb:0≤b*b:=by
  by_cases q:0≤b
  ·exact Rat.mul_nonneg q q
  ·have:=Rat.mul_nonneg (show 0≤-b by grind) (show 0≤-b by grind)
   grind
 by_cases e:a*a+b*b=0
 ·have e1:a*a=0:=by grind
  have e2:b*b=0:=by grind
  rcases Rat.mul_eq_zero.1 e1 with q|q <;> rcases Rat.mul_eq_zero.1 e2 with r|r <;> grind
 ·grind
theorem val_add (l:Li) (q d:Pq) (t:Rat):valL l (addP q t d)=valL l q+t*((l.a:Rat)*d.1+(l.b:Rat)*d.2):=by
 unfold valL addP;simp only;grind
theorem inn_near {q:Pq}(v:Pq):∀{ls:List Li},Inn ls q→∃t0:Rat,0<t0∧∀t,0<t→t≤t0→Inn ls (addP q t v)
 | [],_=>⟨1,by grind,fun _ _ _ l hl=>by cases hl⟩
 |l::ls,H=>by
  obtain⟨t1,h1,h2⟩:=inn_near v (ls:=ls) fun m hm=>H m (List.mem_cons_of_mem _ hm)
  have hV:=H l (List.mem_cons_self ..)
  generalize hK:(l.a:Rat)*v.1+(l.b:Rat)*v.2=K
  by_cases kp:0≤K
  ·refine⟨t1,h1,fun t p1 p2 m hm=>?_⟩
   rcases List.mem_cons.1 hm with rfl|hm
   ·rw [val_add,hK]
    have:=Rat.mul_nonneg (Rat.le_of_lt p1) kp
    grind
   ·exact h2 t p1 p2 m hm
  ·obtain⟨n1,n2⟩:=near_half hV (show K<0 by grind)
   by_cases c:t1≤-(valL l q/K)/2
   ·refine⟨t1,h1,fun t p1 p2 m hm=>?_⟩
    rcases List.mem_cons.1 hm with rfl|hm
    ·rw [val_add,hK]
     exact n2 t p1 (Rat.le_trans p2 c)
    ·exact h2 t p1 p2 m hm
   ·refine⟨-(valL l q/K)/2,by grind,fun t p1 p2 m hm=>?_⟩
    rcases List.mem_cons.1 hm with rfl|hm
    ·rw [val_add,hK]
     exact n2 t p1 p2
    ·exact h2 t p1 (by grind) m hm
theorem valL_neg' (m:Li) (q:Pq):valL m.neg q = - valL m q:=by
 unfold valL Li.neg
 simp only [Rat.intCast_neg]
 grind
theorem off_lines:∀(ms:List Li){ls:List Li}{q:Pq},(∀m∈ms,m.ok)→Inn ls q→∃r,Inn ls r∧∀m∈ms,valL m r≠0
 | [],_,q,_,h=>⟨q,h,fun _ hm=>by cases hm⟩
 |m::ms,ls,q,hms,h=>by
  have step:∃r,Inn ls r∧valL m r≠0:=by
   by_cases e:valL m q=0
   ·obtain⟨t,t1,t2⟩:=inn_near ((m.a:Rat),(m.b:Rat)) h
    refine⟨_,t2 t t1 (Rat.le_refl),?_⟩
    rw [val_add,e]
    have ab:(m.a:Rat)≠0∨(m.b:Rat)≠0:=by
     rcases(hms m (List.mem_cons_self ..)).2 with r|r
     ·exact Or.inl fun e=>r (Rat.intCast_eq_zero_iff.1 e)
     ·exact Or.inr fun e=>r (Rat.intCast_eq_zero_iff.1 e)
    have:=Rat.mul_pos t1 (sq_pos ab)
    simp only
    grind
   ·exact⟨q,h,e⟩
  obtain⟨r,r1,r2⟩:=step
  by_cases p:0<valL m r
  ·obtain⟨z,z1,z2⟩:=off_lines ms (ls:=m::ls) (q:=r) (fun x hx=>hms x (List.mem_cons_of_mem _ hx)) (fun x hx=>by
    rcases List.mem_cons.1 hx with rfl|hx
    ·exact p
    ·exact r1 x hx)
   refine⟨z,fun x hx=>z1 x (List.mem_cons_of_mem _ hx),fun x hx=>?_⟩
   rcases List.mem_cons.1 hx with rfl|hx
   ·have:=z1 x (List.mem_cons_self ..)
    grind
   ·exact z2 x hx
  ·obtain⟨z,z1,z2⟩:=off_lines ms (ls:=m.neg::ls) (q:=r) (fun x hx=>hms x (List.mem_cons_of_mem _ hx)) (fun x hx=>by
    rcases List.mem_cons.1 hx with rfl|hx
    ·rw [valL_neg'];grind
    ·exact r1 x hx)
   refine⟨z,fun x hx=>z1 x (List.mem_cons_of_mem _ hx),fun x hx=>?_⟩
   rcases List.mem_cons.1 hx with rfl|hx
   ·have:=z1 _ (List.mem_cons_self ..)
    rw [valL_neg']at this
    grind
   ·exact z2 x hx
def Off (L:List Li) (q:Pq):Prop:=∀l∈L,valL l q≠0
def OpP (I:Pq→Prop):Prop:=∃c:List Li,(∀l∈c,l.ok)∧∀q,I q↔Inn c q
theorem OpP.left {I:Pq→Prop}(h:OpP I){l:Li}(hl:l.ok):OpP fun q=>I q∧0<valL l q:=by
 obtain⟨c,h1,h2⟩:=h
 exact⟨c++[l],snoc_ok h1 hl,fun q=>by show(I q∧0<valL l q)↔_;rw [snoc_inn,h2]⟩
theorem OpP.right {I:Pq→Prop}(h:OpP I){l:Li}(hl:l.ok):OpP fun q=>I q∧valL l q<0:=by
 obtain⟨c,h1,h2⟩:=h
 exact⟨c++[l.neg],snoc_ok h1 hl.neg,fun q=>by show(I q∧valL l q<0)↔_;rw [snoc_inn,h2,neg_lt]⟩
theorem OpP.off {I:Pq→Prop}(h:OpP I){L:List Li}(hL:∀l∈L,l.ok){q:Pq}(hq:I q):∃r,I r∧Off L r:=by
 obtain⟨c,h1,h2⟩:=h
 obtain⟨r,r1,r2⟩:=off_lines L hL ((h2 q).1 hq)
 exact⟨r,(h2 r).2 r1,r2⟩
theorem inn_ex:∃q,Inn [] q:=⟨(0,0),(fun l h=>by cases h)⟩
theorem inn_all (q:Pq):Inn [] q:=fun l h=>by cases h
theorem nil_ok:∀l∈([]:List Li),l.ok:=fun l h=>by cases h
theorem restrT_i {t:Tr}(h:t.lok):restrT t []=restrI t (Inn []):=restrT_I h nil_ok inn_ex
theorem mergeT_i {op:Int}{t b:Tr}(h:t.lok) (k:b.lok):mergeT op t b []=mergeI op t b (Inn []):=mergeT_I h k nil_ok inn_ex
theorem lin_lok {L:List Li}(hL:∀l∈L,l.ok):∀{t:Tr},t.lin L→t.lok
 | .leaf _,_=>trivial
 | .node _ _ _,⟨h,a,b⟩=>⟨hL _ h,lin_lok hL a,lin_lok hL b⟩
theorem restrT_lin {L:List Li}(hL:∀l∈L,l.ok){t:Tr}(h:t.lin L):(restrT t []).lin L:=by
 rw [restrT_i (lin_lok hL h)];exact restrI_lin h
theorem mergeT_lin {op:Int}{L:List Li}(hL:∀l∈L,l.ok){t b:Tr}(h:t.lin L) (k:b.lin L):(mergeT op t b []).lin L:=by
 rw [mergeT_i (lin_lok hL h) (lin_lok hL k)];exact mergeI_lin h k
theorem Tr.lin.mono {L M:List Li}(hs:∀l∈L,l∈M):∀{t:Tr},t.lin L→t.lin M
 | .leaf _,_=>trivial
 | .node _ _ _,⟨h,a,b⟩=>⟨hs _ h,a.mono hs,b.mono hs⟩
theorem Tr.lin.all {L:List Li}{p:Li→Prop}(hp:∀l∈L,p l):∀{t:Tr},t.lin L→t.all p
 | .leaf _,_=>trivial
 | .node _ _ _,⟨h,a,b⟩=>⟨hp _ h,a.all hp,b.all hp⟩
def letterN (b:Nat):Bool:=decide (97≤b∧b≤122∨65≤b∧b≤90∨b=95)
abbrev u8 (b:Nat):SV:=lit (.int .u8 (b:Int))
def idxB (l:List UInt8) (b:Nat):Int:=match (List.range (⟨l.toArray⟩:ByteArray).size).find? fun i=>(⟨l.toArray⟩:ByteArray)[i]! == (b:Int).toNat.toUInt8 with
 |some i=>(i:Int)
 |none => -1
theorem run_idxB (l:List UInt8){b:Nat}(hb:b<256) (w:World):(Extern.BytealgIndexByte.indexByte #[.string ⟨l.toArray⟩, .int .u8 (b:Int)]).run Tryz.prog w = .ok (.int .i64 (idxB l b)) w:=by
 have hdef:Extern.BytealgIndexByte.indexByte #[.string ⟨l.toArray⟩, .int .u8 (b:Int)]=(match (List.range (⟨l.toArray⟩:ByteArray).size).find? fun i=>(⟨l.toArray⟩:ByteArray)[i]! == (b:Int).toNat.toUInt8 with
  |some i=>pure (goInt i)
  |none=>pure (goInt (-1))):=rfl
 rw [hdef]
 unfold idxB
 split <;> rfl
section
variable {F:Fr}{H:LH}{ty:TypeId}
theorem ov_idxB {x y:Operand}{l:List UInt8}{b:Nat}{tys:Array TypeId}(hx:ev F x=str l) (hy:ev F y=u8 b) (hb:b<256):OpV Tryz.prog (.call ⟨.value (.func 380),[x,y].toArray,tys⟩) ty F H (lit (.int .i64 (idxB l b))) :=
 OpV.pure fun m w o a ho _ _ _ h=>by
  have h0:=h x (by simp [Op.operands,Call.operands]);rw [hx,lit_p]at h0
  have h1:=h y (by simp [Op.operands,Call.operands]);rw [hy,lit_p]at h1
  have h8:=@run_callFunc_extern Tryz.prog 380 _ Extern.BytealgIndexByte.indexByte Tryz.func380 (by kernel_rfl) (by kernel_rfl) (by kernel_rfl) (by kernel_rfl)
  refine⟨_,?_,lit_p.2 rfl⟩
  have:=h8 #[a.eval x,a.eval y] w
  rw [h0,h1,run_idxB l hb]at this
  simp only [execOp,ho,resolve,Sem.run_bind,Sem.run_pure,Result.andThen_ok]
  have e1:a.eval (.func 380) = .func (.func 380) #[] #[]:=rfl
  simp only [e1,Deferred.ofValue,Sem.run_pure,Result.andThen_ok,invoke,List.map_toArray,List.map_cons,List.map_nil,Array.empty_append,Array.append_empty,h0,h1,this]
end
theorem sliteIdx_pu (l:List UInt8){b:Nat}(hb:b<256):Pu Tryz.prog 361 [str l,u8 b] (lit (.int .i64 (idxB l b))):=by
 refine Pu.intro Tryz.func361 rfl (by kernel_rfl) fun C=>?_
 repeat(refine A1 ⟨?_⟩;intros)
 refine Wo (ov_idxB rfl rfl hb) ?_
 repeat(refine A1 ⟨?_⟩;intros)
 exact E1
theorem sIdx_pu (l:List UInt8){b:Nat}(hb:b<256):Pu Tryz.prog 329 [str l,u8 b] (lit (.int .i64 (idxB l b))):=by
 refine Pu.intro Tryz.func329 rfl (by kernel_rfl) fun C=>?_
 repeat(first|(refine A1 ⟨?_⟩;intros)|refine W4 (sliteIdx_pu l hb) ⟨?_⟩)
 exact E1
def signs:List UInt8:=[40,41,123,125,44,59,61,43,45,42,47,94,126]
def clsN (b:Nat):Int :=
 if b=32∨b=9∨b=13∨b=10 then 1 else if b=35 then 2 else if 48≤b∧b≤57 then 4 else if 97≤b∧b≤122∨65≤b∧b≤90∨b=95 then 3 else if 0≤idxB signs b then 5 else 0
set_option maxHeartbeats 4000000 in
theorem classOf_pu {b:Nat}(hb:b<256):Pu Tryz.prog 280 [u8 b] (lit (.int .i64 (clsN b))):=by
 unfold clsN
 by_cases h1:b=32∨b=9∨b=13∨b=10
 ·rw [if_pos h1]
  rcases h1 with rfl|rfl|rfl|rfl <;>
  ·refine Pu.intro Tryz.func280 rfl (by kernel_rfl) fun C=>?_
   repeat(refine A1 ⟨?_⟩;intros)
   exact E1
 ·rw [if_neg h1]
  by_cases h2:b=35
  ·rw [if_pos h2]
   subst h2
   refine Pu.intro Tryz.func280 rfl (by kernel_rfl) fun C=>?_
   repeat(refine A1 ⟨?_⟩;intros)
   exact E1
  ·rw [if_neg h2]
   have ha:b≠32:=by omega
   have hc:b≠9:=by omega
   have hd:b≠13:=by omega
   have he:b≠10:=by omega
   clear h1
   by_cases h3:48≤b∧b≤57
   ·rw [if_pos h3]
    obtain⟨h3,h4⟩:=h3
    refine Pu.intro Tryz.func280 rfl (by kernel_rfl) fun C=>?_
    repeat(refine A1 ⟨?_⟩;intros)
    exact E1
   ·rw [if_neg h3]
    by_cases h4:97≤b∧b≤122
    ·rw [if_pos (.inl h4)]
     obtain⟨h4,h5⟩:=h4
     clear h3
     refine Pu.intro Tryz.func280 rfl (by kernel_rfl) fun C=>?_
     repeat(refine A1 ⟨?_⟩;intros)
     exact E1
    ·by_cases h5:65≤b∧b≤90
     ·rw [if_pos (.inr (.inl h5))]
      obtain⟨h5,h6⟩:=h5
      clear h3 h4
      refine Pu.intro Tryz.func280 rfl (by kernel_rfl) fun C=>?_
      repeat(refine A1 ⟨?_⟩;intros)
      exact E1
     ·by_cases h6:b=95
      ·rw [if_pos (.inr (.inr h6))]
       subst h6
       clear h3 h4 h5
       refine Pu.intro Tryz.func280 rfl (by kernel_rfl) fun C=>?_
       repeat(refine A1 ⟨?_⟩;intros)
       exact E1
      ·rw [if_neg (by omega)]
       have key:b<48∨(57<b∧b<65)∨(90<b∧b<97)∨122<b:=by omega
       have c:=sIdx_pu signs hb
       clear h3 h4 h5
       generalize idxB signs b=z at *
       by_cases hz:0≤z
       ·rw [if_pos hz]
        rcases key with P1|⟨P1,P2⟩|⟨P1,P2⟩|P1
        all_goals
         refine Pu.intro Tryz.func280 rfl (by kernel_rfl) fun C=>?_
         repeat(first|(refine A1 ⟨?_⟩;intros)|refine W4 c ⟨?_⟩)
         exact E1
       ·rw [if_neg hz]
        rcases key with P1|⟨P1,P2⟩|⟨P1,P2⟩|P1
        all_goals
         refine Pu.intro Tryz.func280 rfl (by kernel_rfl) fun C=>?_
         repeat(first|(refine A1 ⟨?_⟩;intros)|refine W4 c ⟨?_⟩)
         exact E1
end Go.Ab
