/- Texts laid one behind the other: ImT, PEach, PTwo, Merges, Open, RowKit, LaidKit, GInt. -/
import Derived.Test.YtgiifnbebppbgaaGreatDoorB16
import Derived.Test.YtgiifnbebppbgaaGreatDoorB32
import Derived.Test.YtgiifnbebppbgaaGreatDoorB33
import Derived.Test.YtgiifnbebppbgaaGreatDoorB28
import Derived.Test.YtgiifnbebppbgaaGreatDoorB03
import Derived.ProofKit
import Derived.OpenShut
import Derived.ChangeOld
import Derived.Below
import Derived.OpenVars
import Derived.Deep.Slices
import Derived.Test.YtgiifnbebppbgaaGreatDoorB11
import Derived.WalkKit
import Derived.Stop.LaidErr
import Derived.LaidMore
import Derived.Deep.DeepHandedRow
import Derived.Deep.DeepWitnessRowRef
set_option linter.unusedSectionVars false
set_option linter.unusedVariables false
set_option linter.unusedSimpArgs false
namespace Go.Ab
open Go.Proofs
variable [Base]
theorem im_val {m:M6 Rat}{l:Li}(h:m.det≠0) (hl:l.ok) (q:Pq):∃k:Rat,0<k∧valL (l.im m) q=k*valL l (m.inv.app q):=by
 have hne:=Li.im_ne h hl
 obtain⟨e1,e2,e3⟩:=prim_eq (c:=l.a*m.inv.c+l.b*m.inv.f+l.c) hne
 have hg:=g3_pos (c:=l.a*m.inv.c+l.b*m.inv.f+l.c) hne
 refine⟨_,Rat.inv_pos.2 hg,?_⟩
 unfold Li.im valL
 rw [←e1,←e2,←e3]
 generalize(g3 _ _ _)⁻¹=g
 unfold M6.app
 simp only
 grind
theorem pos_mul {k v:Rat}(hk:0<k):0<k*v↔0<v:=by
 constructor
 ·intro h
  by_cases c:0<v
  ·exact c
  ·have:=Rat.mul_nonneg (Rat.le_of_lt hk) (show 0≤-v by grind)
   grind
 ·exact Rat.mul_pos hk
theorem im_at {m:M6 Rat}(h:m.det≠0) (q:Pq):∀{t:Tr},t.lok→atT (t.im m) q=atT t (m.inv.app q)
 | .leaf _,_=>rfl
 | .node l a b,hl=>by
  obtain⟨k,hk,e⟩:=im_val h hl.1 q
  show(if 0<valL (l.im m) q then atT (a.im m) q else atT (b.im m) q)=if 0<valL l (m.inv.app q)then atT a (m.inv.app q)else atT b (m.inv.app q)
  rw [im_at h q hl.2.1,im_at h q hl.2.2,e]
  by_cases c:0<valL l (m.inv.app q)
  ·rw [if_pos c,if_pos ((pos_mul hk).2 c)]
  ·rw [if_neg c,if_neg fun d=>c ((pos_mul hk).1 d)]
theorem im_lin {m:M6 Rat}{L:List Li}:∀{t:Tr},t.lin L→(t.im m).lin (L.map (Li.im m))
 | .leaf _,_=>trivial
 | .node _ _ _,h=>⟨List.mem_map.2 ⟨_,h.1,rfl⟩,im_lin h.2.1,im_lin h.2.2⟩
theorem im_oks {m:M6 Rat}(h:m.det≠0){L:List Li}(hL:∀l∈L,l.ok):∀l∈L.map (Li.im m),l.ok:=fun l hl=>by
 obtain⟨k,hk,rfl⟩:=List.mem_map.1 hl
 exact Li.im_ok h (hL k hk)
theorem im_off {m:M6 Rat}(h:m.det≠0){L:List Li}(hL:∀l∈L,l.ok){q:Pq}(hq:Off (L.map (Li.im m)) q):Off L (m.inv.app q):=fun l hl e=>by
 obtain⟨k,hk,e1⟩:=im_val h (hL l hl) q
 exact hq _ (List.mem_map.2 ⟨l,hl,rfl⟩) (by rw [e1,e];grind)
theorem im_dep {m:M6 Rat}:∀t:Tr,depT (t.im m)=depT t
 | .leaf _=>rfl
 | .node l a b=>by simp only [Tr.im,depT,im_dep a,im_dep b]
theorem im_merge {m:M6 Rat}(h:m.det≠0){op:Int}(hop:1≤op∧op≤4){L:List Li}(hL:∀l∈L,l.ok){x y:Tr}(hx:x.lin L) (hy:y.lin L) :
  mergeT 4 ((mergeT op x y []).im m) (mergeT op (x.im m) (y.im m) []) [] = .leaf false:=by
 have hM:=im_oks h hL
 have hm:=mergeT_lin (op:=op) hL hx hy
 refine mergeT_const (by omega) hM (im_lin hm) (mergeT_lin hM (im_lin hx) (im_lin hy)) fun q hq=>?_
 have ho:=im_off h hL hq
 rw [im_at h q (lin_lok hL hm),mergeT_at hop hL hx hy ho,mergeT_at hop hM (im_lin hx) (im_lin hy) hq,im_at h q (lin_lok hL hx),im_at h q (lin_lok hL hy)]
 unfold opB
 simp
structure EcSt where
 st:List Tr
 cnt:Nat
 s:SV
 Hs:LH
def szL (l:List Tr):Nat:=(l.map sizeT).sum
def msL (l:List Tr):Nat:=(l.map fun t=>2*sizeT t+1).sum
theorem szL_snoc (l:List Tr) (x:Tr):szL (l++[x])=szL l+sizeT x:=by unfold szL;simp
theorem msL_snoc (l:List Tr) (x:Tr):msL (l++[x])=msL l+(2*sizeT x+1):=by unfold msL;simp
theorem msL_len:∀l:List Tr,l.length≤msL l
 | []=>Nat.le_refl _
 |x::l=>by
  have:=msL_len l
  unfold msL at *
  simp only [List.map_cons,List.sum_cons,List.length_cons]
  omega
set_option maxHeartbeats 8000000 in
theorem each_pu (b:Nat) (m:Nat) (t:Tr) (hm:m+sizeT t≤100000000):PuH Tryz.prog 240 [bt t,fnv 241 [] [lit (.pointer (some ⟨b,0,none⟩))]] [(b,iT,[lit (.int .i64 (m:Nat))])] (fun r H'=>r=Ab.tup []∧H'=[(b,iT,[lit (.int .i64 ((m+sizeT t:Nat):Int))])]) noX:=by
 refine PuH.intro Tryz.func240 rfl (by kernel_rfl) fun C hC=>?_
 repeat(refine A1 ⟨?_⟩;intros)
 rename_i b8
 refine WP.loopS (ι:=EcSt) (fun y=>Own ptT 1 y.st.length (y.st.map bt) y.s y.Hs∧y.cnt+szL y.st=m+sizeT t∧msL y.st≤2*sizeT t+1) (fun y=>msL y.st)
  (fun y=>fm [(1,fnv 241 [] [lit (.pointer (some ⟨b,0,none⟩))]),(4,y.s)]) (fun y=>y.Hs++[(b,iT,[lit (.int .i64 (y.cnt:Nat))])]) ⟨[t],m,lit (.slice (some ⟨b8,0,none⟩) 1 1),[(b8,ptT,[bt t])]⟩
  ⟨⟨rfl, .inr ⟨b8,1,Nat.le_refl _,by decide,rfl,rfl⟩⟩,by simp [szL],by simp [msL]⟩ lfA (List.Sublist.refl _) ?_
 rintro ⟨st,cnt,s,Hs⟩ ⟨hown,hsz,hms⟩ K hK
 simp only at hown hsz hms⊢
 have hco:=hown.co
 have hlen:=msL_len st
 rcases List.eq_nil_or_concat st with rfl|⟨st',x,rfl⟩
 ·have hown0:=hown
  simp only [szL,List.map_nil,List.sum_nil,Nat.add_zero]at hsz
  subst hsz
  simp only [List.length_nil]at hown0
  clear hK
  repeat(first|(refine A1 ⟨?_⟩;intros)|(refine Wo (ov_lenOwn hown0 rfl) ?_)|(refine Wdo (ov_lenOwn hown0 rfl) ?_)|(refine Wog (ov_lenOwn hown0 rfl) ?_)|(refine Wdog (ov_lenOwn hown0 rfl) ?_))
  exact endHN _ _ end0 (List.sublist_append_right _ _) ⟨rfl,rfl⟩
 ·rw [List.concat_eq_append]at *
  rw [szL_snoc]at hsz
  rw [msL_snoc]at hms
  have hl1:(st'++[x]).length=st'.length+1:=by simp
  rw [hl1]at hlen
  have hlb:st'.length+1≤300000000:=by have e:=msL_snoc st' x;rw [e]at hlen;omega
  obtain⟨b1,c1,hnc,hcm,rfl,rfl⟩:=hown.blk (by rw [hl1];omega)
  have hil:((st'++[x]).map bt).length=(st'++[x]).length*1:=by rw [List.length_map,Nat.mul_one]
  obtain⟨hownr,hle⟩:=Own.cut (T:=ptT) (j:=st'.length) (b:=b1) hil hnc hcm (by rw [hl1];omega)
  have htk:((st'++[x]).map bt).take (st'.length*1)=st'.map bt:=by rw [Nat.mul_one,List.map_append,List.take_left' (by simp)]
  have hgt:((st'++[x]).map bt++List.replicate (c1*1-(st'++[x]).length*1) top)[st'.length]? = some (bt x):=by
   rw [List.getElem?_append_left (by simp),List.map_append,List.getElem?_append_right (by simp)]
   simp
  rw [htk]at hownr hle
  have cf:=sizeF_pu b cnt (by omega) x
  rw [hl1]at hnc hle hgt⊢
  clear hown htk hil hlen
  simp only [List.cons_append,List.nil_append]
  cases x with
  |leaf i =>
   have d1:=isLeaf_leaf i
   have hgo:=fun F' H'=>hK F' H' ⟨st',cnt,lit (.slice (some ⟨b1,0,none⟩) st'.length c1),_⟩ ⟨hownr,by simp only [sizeT]at hsz⊢;omega,by simp only;omega⟩ (by simp only;rw [msL_snoc];omega)
   rw [show(if sizeT (.leaf i)=0 then 0 else 1)=0 from rfl,Nat.add_zero]at cf
   clear hK
   repeat(refine A1 ⟨?_⟩;intros)
   rw [show(((st'.length+1:Nat):Int)-1)=((st'.length:Nat):Int) by omega]
   refine Wo (ov_loadL rfl mmA hgt) ?_
   repeat(refine A1 ⟨?_⟩;intros)
   refine Wo (ov_slTL st'.length rfl rfl rfl (by omega)) ?_
   refine WPL.lowB (.here _) hle ?_
   repeat(refine A1 ⟨?_⟩;intros)
   refine WvT cf ?_
   rintro _ _ ⟨rfl,rfl⟩
   simp only [List.cons_append,List.nil_append]
   repeat(first|(refine A1 ⟨?_⟩;intros)|refine W4 d1 ⟨?_⟩)
   exact hgo _ _ lfA (List.Sublist.refl _)
  |node l u v =>
   have d1:=isLeaf_node l u v
   have hadd:∀s' H',Own ptT 1 (st'.length+2) (st'.map bt++[bt v,bt u]) s' H'→Own ptT 1 (st'++[v]++[u]).length ((st'++[v]++[u]).map bt) s' H':=fun s' H' h=>by
    rw [List.map_append,List.map_append,List.append_assoc]
    simpa using h
   have hgo:=fun s' H1 (h:Own ptT 1 (st'.length+2) (st'.map bt++[bt v,bt u]) s' H1) F' H'=>hK F' H' ⟨st'++[v]++[u],cnt+1,s',H1⟩ ⟨hadd s' H1 h,by simp only [sizeT,szL_snoc]at hsz⊢;omega,by simp only [sizeT,msL_snoc]at hms⊢;omega⟩ (by simp only [sizeT,msL_snoc];omega)
   rw [show(if sizeT (.node l u v)=0 then 0 else 1)=1 from if_neg (by simp only [sizeT];omega)]at cf
   have en:bt (.node l u v)=pt (bc (.node l u v)):=rfl
   rw [en,bc_node]at d1 cf hgt
   clear hK hadd en
   repeat(refine A1 ⟨?_⟩;intros)
   rw [show(((st'.length+1:Nat):Int)-1)=((st'.length:Nat):Int) by omega]
   refine Wo (ov_loadL rfl mmA hgt) ?_
   repeat(refine A1 ⟨?_⟩;intros)
   refine Wo (ov_slTL st'.length rfl rfl rfl (by omega)) ?_
   refine WPL.lowB (.here _) hle ?_
   repeat(refine A1 ⟨?_⟩;intros)
   refine WvT cf ?_
   rintro _ _ ⟨rfl,rfl⟩
   simp only [List.cons_append,List.nil_append]
   repeat(first|(refine AS ⟨?_⟩;intros)|(refine O1 ⟨?_⟩;intros)|(refine Wcx (d1) ?_)|(refine Wcgx (d1) ?_))
   refine WdZ 11 [0,1,2,3,4,5,6,7,8,9,10] [10] [(b1,ptT,st'.map bt++List.replicate (c1*1-st'.length*1) top)] [(b,iT,[lit (.int .i64 ((cnt+1:Nat):Int))])] ?_
   refine ZkD 10 ?_
   repeat(first|(refine Wo (ov_bsK (r:=[(0,[bt v]),(1,[bt u])]) (cs:=[bt v,bt u]) (.cons (sv:=bt v) rfl inferInstance (.cons (sv:=bt u) rfl inferInstance .nil))) ?_)|(refine Wdo (ov_bsK (r:=[(0,[bt v]),(1,[bt u])]) (cs:=[bt v,bt u]) (.cons (sv:=bt v) rfl inferInstance (.cons (sv:=bt u) rfl inferInstance .nil))) ?_)|(refine A1 ⟨?_⟩;intros))
   refine mkZ0 ?_
   refine ZkAK (k0:=2) (ds:=[bt v,bt u]) hownr (Tk.same _) (by omega) (fun s' H' hown'=>?_)
   refine ZkN ?_
   have hco':=hown'.co
   replace hgo:=hgo s' H' hown'
   clear hown'
   rw [List.append_nil]
   repeat(refine A1 ⟨?_⟩;intros)
   exact hgo _ _ lfA (List.Sublist.refl _)
theorem bsize_pu (t:Tr) (h:sizeT t≤100000000):Pu Tryz.prog 177 [bt t] (lit (.int .i64 (sizeT t:Nat))):=by
 refine PuH.toPu ?_
 refine PuH.intro Tryz.func177 rfl (by kernel_rfl) fun C hC=>?_
 repeat(refine A1 ⟨?_⟩;intros)
 rename_i b3
 have c:=each_pu b3 0 t (by omega)
 rw [Nat.zero_add]at c
 repeat(refine A1 ⟨?_⟩;intros)
 refine WfT c ?_
 rintro _ _ ⟨rfl,rfl⟩
 simp only [List.cons_append,List.nil_append]
 repeat(refine A1 ⟨?_⟩;intros)
 exact endHR _ _ (end1 (RV.tmp rfl) (Le.refl _)) (List.nil_sublist _) rfl
structure LnE (L:List Li) (LL:Nat):Prop where
 ok:∀l∈L,l.ok
 le:∀l∈L,l.le LL
 l1:1≤LL
 l2:LL≤500
 len:L.length≤100
theorem LnE.all {L:List Li}{LL:Nat}(h:LnE L LL){t:Tr}(k:t.lin L):t.all fun l=>l.le LL:=Tr.lin.all h.le k
theorem LnE.sz {L:List Li}{LL:Nat}(h:LnE L LL):L.length*(1+L.length)≤100*101:=Nat.mul_le_mul h.len (by have:=h.len;omega)
theorem limited2_pu {L:List Li}{LL:Nat}(h:LnE L LL) (op:Int) (hop:1≤op∧op≤4){a b:Tr}(ha:a.lin L) (hb:b.lin L) (da:depT a≤500) (db:depT b≤500):Pu Tryz.prog 109 [lit (.int .i64 op),bt a,bt b] (Ab.tup [bt (mergeT op a b []),lit .nilIface]):=by
 have c1:=depth_pu a (by omega)
 have c2:=depth_pu b (by omega)
 have c3:=merge_pu h.l1 h.l2 op hop b (h.all hb) a [] (h.all ha) (fun s hs=>by cases hs) (by simp only [List.length_nil];omega)
 have c3':=c3.arg (l':=[lit (.int .i64 op),bt a,bt b,lit (.slice none 0 0)]) ⟨Le.refl _,Le.refl _,Le.refl _,le_nilS,trivial⟩
 rw [merge_same bsPos (lin_lok h.ok ha) (lin_lok h.ok hb)]at c3'
 have hg:=mergeT_lines (op:=op) h.ok ha hb
 have hm:=h.sz
 have c4:=bsize_pu (mergeT op a b []) (by omega)
 generalize mergeT op a b []=r at *
 generalize L.length*(1+L.length)=q at *
 clear c3 ha hb h
 refine Pu.intro Tryz.func109 rfl (by kernel_rfl) fun C=>?_
 repeat(first|(refine A1 ⟨?_⟩;intros)|refine W4 c1 ⟨?_⟩|refine W4 c2 ⟨?_⟩|refine W4 c3' ⟨?_⟩|refine W4 c4 ⟨?_⟩)
 ((first|refine endR ?_|refine endN ?_);exact end2 (RV.tmp rfl) (RV.tmp rfl) (Le.refl _))
theorem two2_pu {L:List Li}{LL:Nat}(h:LnE L LL) (op:Int) (hop:1≤op∧op≤4){a b:Tr}(ha:a.lin L) (hb:b.lin L) (da:depT a≤500) (db:depT b≤500):Pu Tryz.prog 53 [lit (.int .i64 op),bt a,bt b] (Ab.tup [bt (mergeT op a b []),lit .nilIface]):=by
 have c:=limited2_pu h op hop ha hb da db
 clear ha hb h
 refine Pu.intro Tryz.func53 rfl (by kernel_rfl) fun C=>?_
 repeat(first|(refine A1 ⟨?_⟩;intros)|refine W4 c ⟨?_⟩)
 ((first|refine endR ?_|refine endN ?_);exact end2 (RV.tmp rfl) (RV.tmp rfl) (Le.refl _))
theorem operator_pu (op:Int) (hop:1≤op∧op≤4):Pu Tryz.prog 52 [lit (.int .i64 op)] (lit (.bool true)):=by
 refine Pu.intro Tryz.func52 rfl (by kernel_rfl) fun C=>?_
 repeat(refine A1 ⟨?_⟩;intros)
 exact E1
theorem size_T:∀t:Tr,t.size=sizeT t
 | .leaf _=>rfl
 | .node l a b=>by rw [Tr.size_node,size_T a,size_T b];rfl
theorem LnE.of {L:List Li}{LL:Nat}(h:LnE L LL){t:Tr}(k:t.lin L) (hs:sizeT t≤60000):Pu Tryz.prog 51 [tq t] (Ab.tup [bt t,lit (.bool true)]) :=
 bof_pu t (Tr.lin.all (p:=fun l=>l.ok∧l.le 100000) (fun l hl=>⟨h.ok l hl,(h.le l hl).gr (by have:=h.l2;omega)⟩) k) (by rw [size_T];exact hs)
theorem pmerge_pu {L:List Li}{LL:Nat}(h:LnE L LL) (op:Int) (hop:1≤op∧op≤4){a b:Tr}(ha:a.lin L) (hb:b.lin L) (da:depT a≤500) (db:depT b≤500) (sa:sizeT a≤60000) (sb:sizeT b≤60000):Pu Tryz.prog 15 [lit (.int .i64 op),tq a,tq b] (Ab.tup [tq (mergeT op a b []),lit .nilIface]):=by
 have c1:=h.of ha sa
 have c2:=h.of hb sb
 have c3:=operator_pu op hop
 have c4:=two2_pu h op hop ha hb da db
 have hg:=mergeT_lines (op:=op) h.ok ha hb
 have hm:=h.sz
 have c5:=tapi_pu (mergeT op a b []) (Tr.lin.all (fun l hl=>(h.le l hl).gr (by have:=h.l2;omega)) (mergeT_lin h.ok ha hb)) (by rw [size_T];omega)
 generalize mergeT op a b []=r at *
 clear ha hb h hg hm
 refine Pu.intro Tryz.func15 rfl (by kernel_rfl) fun C=>?_
 repeat(first|(refine A1 ⟨?_⟩;intros)|refine W4 c1 ⟨?_⟩|refine W4 c2 ⟨?_⟩|refine W4 c3 ⟨?_⟩|refine W4 c4 ⟨?_⟩|refine W4 c5 ⟨?_⟩)
 ((first|refine endR ?_|refine endN ?_);exact end2 RVa (RV.tmp rfl) (Le.refl _))
abbrev prS (a b:Tr):SV:=ag [bt a,bt b]
theorem rread_pu {L:List Li}{LL:Nat}(h:LnE L LL){a b:Tr}(ha:a.lin L) (hb:b.lin L) (sa:sizeT a≤60000) (sb:sizeT b≤60000):Pu Tryz.prog 57 [tq a,tq b] (Ab.tup [prS a b,lit .nilIface]):=by
 have c1:=h.of ha sa
 have c2:=h.of hb sb
 clear ha hb h
 refine Pu.intro Tryz.func57 rfl (by kernel_rfl) fun C=>?_
 repeat(first|(refine A1 ⟨?_⟩;intros)|refine W4 c1 ⟨?_⟩|refine W4 c2 ⟨?_⟩)
 ((first|refine endR ?_|refine endN ?_);exact end2 RVa (RV.tmp rfl) (Le.refl _))
theorem none_pu {L:List Li}{LL:Nat}(h:LnE L LL) (op:Int) (hop:1≤op∧op≤4){a b:Tr}(ha:a.lin L) (hb:b.lin L) (da:depT a≤500) (db:depT b≤500) (he:mergeT op a b [] = .leaf false):Pu Tryz.prog 116 [prS a b,lit (.int .i64 op)] (Ab.tup [lit (.bool true),lit .nilIface]):=by
 have c:=two2_pu h op hop ha hb da db
 have d1:=isLeaf_leaf false
 rw [he]at c
 simp only [bt,bc_leaf]at c d1⊢
 clear ha hb h
 refine Pu.intro Tryz.func116 rfl (by kernel_rfl) fun C=>?_
 repeat(first|(refine A1 ⟨?_⟩;intros)|refine W4 c ⟨?_⟩|refine W4 d1 ⟨?_⟩)
 ((first|refine endR ?_|refine endN ?_);exact end2 (RV.tmp rfl) (RV.tmp rfl) (Le.refl _))
theorem equal_pu {L:List Li}{LL:Nat}(h:LnE L LL){a b:Tr}(ha:a.lin L) (hb:b.lin L) (da:depT a≤500) (db:depT b≤500) (sa:sizeT a≤60000) (sb:sizeT b≤60000) (he:mergeT 4 a b [] = .leaf false):Pu Tryz.prog 17 [tq a,tq b] (Ab.tup [lit (.bool true),lit .nilIface]):=by
 have c1:=rread_pu h ha hb sa sb
 have c2:=none_pu h 4 (by omega) ha hb da db he
 have c3:Pu Tryz.prog 58 [prS a b] (Ab.tup [lit (.bool true),lit .nilIface]):=by
  clear c1
  refine Pu.intro Tryz.func58 rfl (by kernel_rfl) fun C=>?_
  repeat(first|(refine A1 ⟨?_⟩;intros)|refine W4 c2 ⟨?_⟩)
  ((first|refine endR ?_|refine endN ?_);exact end2 (RV.tmp rfl) (RV.tmp rfl) (Le.refl _))
 clear ha hb h c2
 refine Pu.intro Tryz.func17 rfl (by kernel_rfl) fun C=>?_
 repeat(first|(refine A1 ⟨?_⟩;intros)|refine W4 c1 ⟨?_⟩|refine W4 c3 ⟨?_⟩)
 ((first|refine endR ?_|refine endN ?_);exact end2 (RV.tmp rfl) (RV.tmp rfl) (Le.refl _))
theorem tmod4m (z:Int) : -3≤z.tmod 4∧z.tmod 4≤3:=by
 have h1:(z.tmod 4).natAbs=z.natAbs%4:=Int.natAbs_tmod z 4
 omega
set_option maxRecDepth 20000 in
set_option maxHeartbeats 8000000 in
theorem merges_pu (zs:List Int) (hz:zs.length≤9223372036854775807) (op:Int) (hop : -9223372036854775808≤op∧op≤9223372036854775807):Pu Tryz.prog 3 [nsl .i64 zs,lit (.int .i64 op)] (lit (.bool true)):=by
 have hk:(zs.take (min zs.length 400)).length≤400:=by simp;omega
 have hnew:=new_pu zs hz
 generalize zs.take (min zs.length 400)=ys at *
 have hmap:=tmap_pu ys hk
 have hreg:=tregion_pu ys hk 0 (by omega)
 rw [show(12*2^0:Nat)=12 from rfl,show(((0:Nat):Int))=0 from rfl]at hreg
 clear hz
 refine Pu.intro Tryz.func3 rfl (by kernel_rfl) fun C=>?_
 repeat(refine A1 ⟨?_⟩;intros)
 refine WPL.callN hnew rfl rfl fun bb=>?_
 repeat(refine A1 ⟨?_⟩;intros)
 refine Wtx hmap mmA fun ma=>?_
 obtain⟨m,hm⟩:=ma
 simp only []
 have c5:=mdet_pu (hm.le_mono (L':=30) (by omega)) (by omega)
 rw [show m.a*m.e-m.b*m.d=m.det by unfold M6.det;grind]at c5
 have hd:=M6.det_ht hm
 have c6:=rs_pu m.det (by omega)
 clear hd
 by_cases hz:m.det=0
 ·have hs:m.det.num.sign=0:=by rw [hz];rfl
  rw [hs]at c6
  repeat(first|(refine A1 ⟨?_⟩;intros)|refine W4 c5 ⟨?_⟩|refine W4 c6 ⟨?_⟩|refine W4 known26 ⟨?_⟩)
  exact E1
 ·have hs:m.det.num.sign≠0:=fun e=>hz (Rat.num_eq_zero.1 (Int.sign_eq_zero_iff_zero.1 e))
  have c1:=writeM_pu hm (by omega)
  generalize m.det.num.sign=sg at *
  have hb1:=tmod4m op
  obtain⟨o,ho⟩:∃o,o=1+(op.tmod 4+4)%4:=⟨_,rfl⟩
  have hoo:1≤o∧o≤4:=by omega
  repeat(first|(refine A1 ⟨?_⟩;intros)|refine W4 c5 ⟨?_⟩|refine W4 c6 ⟨?_⟩)
  rw [←ho]
  clear ho hb1 hop
  repeat(first|(refine A1 ⟨?_⟩;intros)|refine W4 c1 ⟨?_⟩)
  refine Wtx hreg mmA fun x=>?_
  obtain⟨x,L1,x1,x2,x3⟩:=x
  simp only []
  have y1:depT x≤12:=Nat.le_trans x3.dep x1
  have y2:=x3.size (sm_oks x2)
  have y3:L1.length*(1+L1.length)≤12*13:=Nat.mul_le_mul x1 (by omega)
  have w1:=rwrite_pu x (Tr.lin.all (fun l hl=>(x2 l hl).ile) x3.1) (by rw [size_T];omega)
  repeat(first|(refine A1 ⟨?_⟩;intros)|refine W4 w1 ⟨?_⟩)
  refine Wtx hreg mmA fun y=>?_
  obtain⟨y,L2,u1,u2,u3⟩:=y
  simp only []
  have v1:depT y≤12:=Nat.le_trans u3.dep u1
  have v2:=u3.size (sm_oks u2)
  have v3:L2.length*(1+L2.length)≤12*13:=Nat.mul_le_mul u1 (by omega)
  have w2:=rwrite_pu y (Tr.lin.all (fun l hl=>(u2 l hl).ile) u3.1) (by rw [size_T];omega)
  have hL:∀l∈L1++L2,l.sm:=fun l hl=>(List.mem_append.1 hl).elim (x2 l) (u2 l)
  have lx:=Tr.lin.mono (M:=L1++L2) (fun l hl=>List.mem_append_left _ hl) x3.1
  have ly:=Tr.lin.mono (M:=L1++L2) (fun l hl=>List.mem_append_right _ hl) u3.1
  have hLl:(L1++L2).length≤24:=by rw [List.length_append];omega
  clear x3 u3 x2 u2 x1 u1
  generalize L1++L2=L at *
  have hE:LnE L 1:=⟨sm_oks hL,fun l hl=>(hL l hl).2,by omega,by omega,by omega⟩
  have hE':LnE (L.map (Li.im m)) 400:=⟨im_oks hz hE.ok,fun l hl=>by
   obtain⟨k,hk,rfl⟩:=List.mem_map.1 hl
   exact Li.im_le hm (hE.le k hk) (by omega),by omega,by omega,by rw [List.length_map];omega⟩
  have lr:=mergeT_lin (op:=o) hE.ok lx ly
  have sr:=mergeT_lines (op:=o) hE.ok lx ly
  have sq:L.length*(1+L.length)≤24*25:=Nat.mul_le_mul hLl (by omega)
  have dr:=(Gd.merge (op:=o) hE.ok lx ly).dep
  have ix:=im_lin (m:=m) lx
  have iy:=im_lin (m:=m) ly
  have sx:(x.im m).size=x.size:=Tr.im_size m x
  have sy:(y.im m).size=y.size:=Tr.im_size m y
  have sr2:((mergeT o x y []).im m).size=(mergeT o x y []).size:=Tr.im_size m _
  have ls:=mergeT_lines (op:=o) hE'.ok ix iy
  have ld:=(Gd.merge (op:=o) hE'.ok ix iy).dep
  rw [List.length_map]at ls ld
  have d1:=pmerge_pu hE o hoo lx ly (by omega) (by omega) (by omega) (by omega)
  have all1:∀{t:Tr},t.lin L→t.all fun l=>l.ok∧l.le 1:=fun h=>Tr.lin.all (fun l hl=>hL l hl) h
  have d2:=aTree_t hm (by omega) (by omega) hz (all1 lr) (by rw [size_T];omega)
  have d3:=aTree_t hm (by omega) (by omega) hz (all1 lx) (by rw [size_T];omega)
  have d4:=aTree_t hm (by omega) (by omega) hz (all1 ly) (by rw [size_T];omega)
  have d5:=pmerge_pu hE' o hoo ix iy (by rw [im_dep];omega) (by rw [im_dep];omega) (by rw [←size_T,sx,size_T];omega) (by rw [←size_T,sy,size_T];omega)
  have d6:=equal_pu hE' (im_lin lr) (mergeT_lin hE'.ok ix iy) (by rw [im_dep];omega) (by omega) (by rw [←size_T,sr2,size_T];omega) (by omega) (im_merge hz hoo hE.ok lx ly)
  clear all1 ls ld sr2 sx sy ix iy dr sq sr lr hE hE' hL lx ly v1 v2 v3 y1 y2 y3
  generalize mergeT o (x.im m) (y.im m) []=c at *
  generalize(mergeT o x y []).im m=b at *
  generalize mergeT o x y []=a at *
  generalize x.im m=x' at *
  generalize y.im m=y' at *
  repeat(first|(refine A1 ⟨?_⟩;intros)|refine W4 w2 ⟨?_⟩|refine W4 d1 ⟨?_⟩|refine W4 d2 ⟨?_⟩|refine W4 d3 ⟨?_⟩|refine W4 d4 ⟨?_⟩|refine W4 d5 ⟨?_⟩|refine W4 d6 ⟨?_⟩|refine W4 known26 ⟨?_⟩)
  exact E1
open Go.ChangeShapes Go.WideShapes Go.ChangeAt Go.RowKit
section
variable {H:Type}{enc:TypeId×Value→H}{P:Program}{w:World}{sp:Nat→Bool}{held:Bool}
def memOf (w:World):Mem:=fun b=>w.heap[b]?
theorem memOf_in (w:World) (h:Base.mem.le (memOf w)):MemIn (memOf w) w:=⟨fun _ _ h=>h,h⟩
def Opn (enc:TypeId×Value→H) (P:Program) (w:World) (sp:Nat→Bool) (held:Bool) (T:TypeId) (G:List SV→Prop):Prop :=
 ∀fuel cs x,DataW.trod enc P w 0 sp held fuel T cs=some x→∃svs,G svs∧All2 (memOf w) svs cs
inductive Cat:List (List SV→Prop)→List SV→Prop
 |nil:Cat [] []
 |cons {G:List SV→Prop}{Gs:List (List SV→Prop)}{a b:List SV}(h:G a) (k:Cat Gs b):Cat (G::Gs) (a++b)
def GInt (k:IntKind):List SV→Prop:=fun l=>∃n,(Lit.int k n).wf=true∧l=[lit (.int k n)]
def GInts (k:IntKind):List SV→Prop:=fun l=>∃zs:List Int,(∀z∈zs,(Lit.int k z).wf=true)∧zs.length≤maxLen∧l=[nsl k zs]
def GSl (k:Nat) (G:List SV→Prop):List SV→Prop:=fun l=>∃es:List (List SV),(∀e∈es,G e∧e.length=k)∧es.length≤maxLen∧l=[sl es.flatten es.length]
theorem all2_one {m:Mem}{s:SV}{v:Value}(h:s.p m v) (f:v.oneCell'=true):All2 m [s] [v]:=⟨⟨h,f⟩,trivial⟩
theorem opn_int {T:TypeId}{k:IntKind} [hT:TIn P T k]:Opn enc P w sp held T (GInt k):=fun fuel cs x h=>by
 obtain⟨n,rfl,_,hw⟩:=DataW.trod_int hT.h h
 exact⟨_,⟨n,hw,rfl⟩,all2_one (lit_p.2 rfl) rfl⟩
def laid (P:Program):List Field→Nat→Nat→Bool
 | [],o,n=>Nat.beq o n
 |f::fs,o,n=>Nat.beq f.offset o&&laid P fs (o+P.cellsOf f.type) n
inductive Opns (enc:TypeId×Value→H) (P:Program) (w:World) (sp:Nat→Bool) (held:Bool):List TypeId→List (List SV→Prop)→Prop
 |nil:Opns enc P w sp held [] []
 |cons {T:TypeId}{G:List SV→Prop}{Ts:List TypeId}{Gs:List (List SV→Prop)}(h:Opn enc P w sp held T G) (k:Opns enc P w sp held Ts Gs):Opns enc P w sp held (T::Ts) (G::Gs)
theorem cells_get {a:Addr}{n:Nat}{cs:List Value}(h:w.cells? 0 a n=some cs):cs.length=n∧∀j,j<n→w.cell? (a.add j)=cs[j]?:=by
 unfold World.cells? at h
 rw [if_pos (Nat.zero_le _)]at h
 have hl:=mapM_some_length h
 refine⟨by simpa using hl,fun j hj=>?_⟩
 have:=mapM_some_get h j j (by simp [hj])
 simpa using this
theorem flat_range {m:Mem}{f:Nat→List SV}{k:Nat}{vs:List Value}:∀{n:Nat},(∀i,i<n→(f i).length=k∧All2 m (f i) ((vs.drop (i*k)).take k))→All2 m ((List.range n).map f).flatten (vs.take (n*k))
 |0,_=>by simp [All2]
 |n+1,h=>by
  have h1:=flat_range (n:=n) fun i hi=>h i (by omega)
  have h2:=(h n (by omega)).2
  have:=h1.append h2
  rw [List.range_succ,List.map_append,List.flatten_append,show(n+1)*k=n*k+k from by rw [Nat.add_mul,Nat.one_mul],List.take_add]
  simpa using this
theorem opn_slice {T e:TypeId}{k:Nat}{G:List SV→Prop} [hT:TSl P T e] (hk:P.cellsOf e=k) (hk0:0<k) (hG:Opn enc P w sp held e G):Opn enc P w sp held T (GSl k G):=fun fuel cs x h=>by
 rcases Deep.open_slice hT.h h with⟨rfl,_⟩|⟨a,len,cap,m,n,Dd,Pl,rfl,_,hlc,hcm,hm,_,hx⟩
 ·exact⟨_,⟨[],by simp,by simp,rfl⟩,all2_one (sl_mk (by simp) (by simp [maxLen]) (.inl rfl)) rfl⟩
 ·have hlm:len≤m:=by rw [hm];split <;> omega
  have hcell:∀i,i<len→∃l,G l∧l.length=k∧∃cs',w.cells? 0 (a.add (i*k)) k=some cs'∧All2 (memOf w) l cs':=fun i hi=>by
   obtain⟨cs',h1,h2⟩:=hx i (by omega)
   rw [hk]at h1
   obtain⟨l,g1,g2⟩:=hG _ _ _ h2
   exact⟨l,g1,by rw [←g2.length,(cells_get h1).1],cs',h1,g2⟩
  have hch:∀i:Nat,∃l,i<len→G l∧l.length=k∧∃cs',w.cells? 0 (a.add (i*k)) k=some cs'∧All2 (memOf w) l cs':=fun i=>by
   by_cases hi:i<len
   ·obtain⟨l,hl⟩:=hcell i hi
    exact⟨l,fun _=>hl⟩
   ·exact⟨[],fun h=>absurd h hi⟩
  obtain⟨f,hf⟩:=Classical.axiomOfChoice hch
  refine⟨_,⟨(List.range len).map f,fun l hl=>?_,by simp;omega,rfl⟩,all2_one (v := .slice (some a) len cap) ?_ rfl⟩
  ·obtain⟨i,hi,rfl⟩:=List.mem_map.1 hl
   have:=hf i (by simpa using hi)
   exact⟨this.1,this.2.1⟩
  ·rw [List.length_map,List.length_range]
   refine sl_mk hlc hcm ?_
   rcases Nat.eq_zero_or_pos len with h0|h0
   ·left;subst h0;rfl
   ·right
    obtain⟨_,hl0,cs0,hc0,_⟩:=hf 0 h0
    have hcc:=(cells_get hc0).2 0 hk0
    rw [Nat.zero_mul]at hcc
    have hcl:=(cells_get hc0).1
    rw [List.getElem?_eq_getElem (by omega)]at hcc
    obtain⟨b,off,spot⟩:=a
    have hs:spot=none:=by simpa [Addr.add] using World.cell?_spot hcc
    subst hs
    simp only [add_none,Nat.add_zero]at hcc
    have hb:∃arr T fz,w.heap[b]? = some (.cells arr T fz):=by
     unfold World.cell? at hcc
     cases hbb:w.heap[b]? with
     |none=>simp [hbb]at hcc
     |some o=>cases o with
      |cells arr T fz=>exact⟨arr,T,fz,rfl⟩
      |_=>simp [hbb]at hcc
    obtain⟨arr,T',fz,hb⟩:=hb
    refine⟨b,off,rfl,arr,T',fz,hb,?_⟩
    have hfl:((List.range len).map f).flatten.length=len*k:=by
     have:∀n,n≤len→((List.range n).map f).flatten.length=n*k:=by
      intro n
      induction n with
      |zero=>intro _;simp
      |succ n ih=>intro hn;rw [List.range_succ,List.map_append,List.flatten_append,List.length_append,ih (by omega)];simp [(hf n (by omega)).2.1,Nat.add_mul]
     exact this len (Nat.le_refl _)
    rw [hfl]
    refine flat_range fun i hi=>?_
    obtain⟨_,hl,cs',hc,ha⟩:=hf i hi
    refine⟨hl,?_⟩
    have hcs:cs'=((arr.toList.drop off).drop (i*k)).take k:=by
     obtain⟨g1,g2⟩:=cells_get hc
     apply List.ext_getElem?
     intro j
     by_cases hj:j<k
     ·have h1:=g2 j hj
      simp only [add_none]at h1
      rw [cell_of w b _ arr _ _ hb]at h1
      rw [List.getElem?_take_of_lt hj,List.getElem?_drop,List.getElem?_drop,←h1]
      simp [Nat.add_assoc]
     ·rw [List.getElem?_eq_none (by omega),List.getElem?_eq_none (by rw [List.length_take];omega)]
    rw [←hcs];exact ha
theorem opn_ints {T e:TypeId}{k:IntKind} [hT:TSl P T e] [hE:TIn P e k] (hk:P.cellsOf e=1):Opn enc P w sp held T (GInts k):=fun fuel cs x h=>by
 obtain⟨svs,⟨es,hes,hl,rfl⟩,ha⟩:=opn_slice (k:=1) hk (by omega) (opn_int (k:=k)) fuel cs x h
 refine⟨_,?_,ha⟩
 have:∃zs:List Int,(∀z∈zs,(Lit.int k z).wf=true)∧es=zs.map fun z=>[lit (.int k z)]:=by
  clear ha hl
  induction es with
  |nil=>exact⟨[],by simp,rfl⟩
  |cons e es ih =>
   obtain⟨zs,h1,h2⟩:=ih fun x hx=>hes x (by simp [hx])
   obtain⟨⟨z,hz,rfl⟩,_⟩:=hes e (by simp)
   exact⟨z::zs,by simpa using ⟨hz,h1⟩,by rw [h2];rfl⟩
 obtain⟨zs,h1,rfl⟩:=this
 refine⟨zs,h1,by simpa using hl,?_⟩
 have hfl:(zs.map fun z=>[lit (.int k z)]).flatten=zs.map fun z=>lit (.int k z):=by
  clear hl hes ha h1
  induction zs with
  |nil=>rfl
  |cons z zs ih=>simp [ih]
 rw [hfl,List.length_map]
 unfold nsl;rfl
end
end Go.Ab
namespace Go.Ab
open Go.Proofs
variable [Base]
open Go.ChangeShapes Go.WideShapes Go.ChangeAt Go.RowKit
theorem calls_of {P:Program}{f:FuncId}{args:List SV}{W:World}{vs:List Value}(hB:Base.mem.le (memOf W)) (h:Pu P f args (lit (.bool true))) (ha:ArgsOk (memOf W) args vs) :
  Calls P f vs.toArray W fun e w'=>e = .returned (.bool true)∧Below W.heap.size W w':=by
 unfold Pu at h
 refine(h.2 _ W vs (memOf_in W hB) ha).mono ?_
 rintro e w' ⟨v,m',rfl,hv,_,hr⟩
 rw [lit_p]at hv
 subst hv
 exact⟨rfl,hr.os,hr.tape,hr.output,hr.size,fun k hk=>hr.block k hk (by simp)⟩
theorem own0:ownKnob Tryz.prog.godebug=none:=by kernel_rfl
theorem laidOut0:laidOutB Tryz.prog=true:=by kernel_rfl
section
variable {H:Type}{enc:TypeId×Value→H}{W:World}{sp:Nat→Bool}{held:Bool}
end
end Go.Ab
namespace Go.Ab
open Go.Proofs
variable [Base]
open Go.ChangeShapes Go.WideShapes Go.ChangeAt Go.RowKit
abbrev baseOf (W:World):Base:=⟨memOf W⟩
end Go.Ab
namespace Go.Ab
open Go.Proofs
variable [Base]
open Go.ChangeShapes Go.WideShapes Go.ChangeAt Go.RowKit
theorem gint_i64 {l:List SV}(h:GInt .i64 l):∃z:Int,(-9223372036854775808≤z∧z≤9223372036854775807)∧l=[lit (.int .i64 z)]:=by
 obtain⟨z,hz,rfl⟩:=h
 refine⟨z,?_,rfl⟩
 simp only [Lit.wf,IntKind.min,IntKind.max,IntKind.signed,IntKind.bits,Bool.and_eq_true,decide_eq_true_eq]at hz
 simp at hz
 omega
end Go.Ab
