/- Texts laid one behind the other: Tree, RTree, RTreeW, RTreeS, LateC, TreeB, AffT, GmB, CvxE, CvxI. -/
import Derived.Test.YthinbooccdccfaaGreatDoorB11
import Derived.Test.YthinbooccdccfaaGreatDoorLate
import Derived.Test.YthinbooccdccfaaGreatDoorB15
import Derived.Test.YthinbooccdccfaaGreatDoorB08
set_option linter.unusedSectionVars false
set_option linter.unusedVariables false
set_option linter.unusedSimpArgs false
namespace Go.Ab
open Go.Proofs
variable [Base]
inductive Tr where
 |leaf (i:Bool)
 |node (l:Li) (a b:Tr)
abbrev lfc (a b c:Rat):List SV:=[lit (.int .i64 (r0 a)),lit (.int .i64 (r1 a)),r2 a,lit (.int .i64 (r0 b)),lit (.int .i64 (r1 b)),r2 b,lit (.int .i64 (r0 c)),lit (.int .i64 (r1 c)),r2 c]
def bc:Tr→List SV
 | .leaf i=>[lit (.int .i64 0),lit (.int .i64 0),lit (.pointer none),lit (.int .i64 0),lit (.int .i64 0),lit (.pointer none),lit (.int .i64 0),lit (.int .i64 0),lit (.pointer none),lit (.pointer none),lit (.pointer none),lit (.bool i)]
 | .node l a b=>[lit (.int .i64 (r0 l.a)),lit (.int .i64 (r1 l.a)),r2 l.a,lit (.int .i64 (r0 l.b)),lit (.int .i64 (r1 l.b)),r2 l.b,lit (.int .i64 (r0 l.c)),lit (.int .i64 (r1 l.c)),r2 l.c,pt (bc a),pt (bc b),lit (.bool false)]
theorem bc_leaf (i:Bool):bc (.leaf i)=[lit (.int .i64 0),lit (.int .i64 0),lit (.pointer none),lit (.int .i64 0),lit (.int .i64 0),lit (.pointer none),lit (.int .i64 0),lit (.int .i64 0),lit (.pointer none),lit (.pointer none),lit (.pointer none),lit (.bool i)]:=rfl
theorem bc_node (l:Li) (a b:Tr):bc (.node l a b)=[lit (.int .i64 (r0 l.a)),lit (.int .i64 (r1 l.a)),r2 l.a,lit (.int .i64 (r0 l.b)),lit (.int .i64 (r1 l.b)),r2 l.b,lit (.int .i64 (r0 l.c)),lit (.int .i64 (r1 l.c)),r2 l.c,pt (bc a),pt (bc b),lit (.bool false)]:=rfl
abbrev bt (t:Tr):SV:=pt (bc t)
theorem PuN.toPt {P:Program}{f:FuncId}{T:TypeId}{args cs:List SV}(h:PuN P f T args cs):Pu P f args (pt cs):=by
 unfold Pu
 exact⟨h.1,fun m w vs hm ha=>(h.2 m w vs hm ha).mono fun _ w' ⟨b,m',e,hb,h1,h2,⟨arr,h3,h4⟩,h5⟩=>by
  have hle:m'.le (fun x=>if x=b then w'.heap[b]? else m' x):=fun x o hx=>by
   show(if x=b then w'.heap[b]? else m' x)=some o
   rw [if_neg (fun e=>by rw [e]at hx;rw [h2]at hx;cases hx)];exact hx
  refine⟨_,(fun x=>if x=b then w'.heap[b]? else m' x),e,pub_pt (arr:=arr) (T:=T) _ (by show(if b=b then w'.heap[b]? else m' b)=_;rw [if_pos rfl];exact h3) (h4.mono hle),⟨fun x o hx=>?_,Mem.le_trans h1.base hle⟩,⟨Mem.le_trans h5.le hle,fun x hx hnx=>?_,h5.os,h5.tape,h5.output,h5.size,h5.block⟩⟩
  ·by_cases hxb:x=b
   ·subst hxb;simp only [if_true]at hx;exact hx
   ·simp only [if_neg hxb]at hx;exact h1 x o hx
  ·show(if x=b then w'.heap[b]? else m' x)=_
   rw [if_neg (by omega)];exact h5.old x hx hnx⟩
theorem leaf_pu (i:Bool):Pu Tryz.prog 197 [lit (.bool i)] (bt (.leaf i)):=by
 unfold bt
 rw [bc_leaf]
 apply PuN.toPt (T:=186)
 refine PuN.intro Tryz.func197 rfl (by kernel_rfl) fun C=>?_
 repeat(refine A1 ⟨?_⟩;intros)
 exact endNwR _ _ (end1 (RV.tmp rfl) (Le.refl _)) List.mem_cons_self (LeL.refl _)
theorem isLeaf_leaf (i:Bool):Pu Tryz.prog 86 [bt (.leaf i)] (lit (.bool true)):=by
 unfold bt
 rw [bc_leaf]
 refine Pu.intro Tryz.func86 rfl (by kernel_rfl) fun C=>?_
 repeat(refine A1 ⟨?_⟩;intros)
 exact E1
theorem isLeaf_node (l:Li) (a b:Tr):Pu Tryz.prog 86 [bt (.node l a b)] (lit (.bool false)):=by
 unfold bt
 rw [bc_node]
 refine Pu.intro Tryz.func86 rfl (by kernel_rfl) fun C=>?_
 repeat(refine A1 ⟨?_⟩;intros)
 exact E1
theorem bnew_pu (l:Li) (a b:Tr):Pu Tryz.prog 147 [lf l.a l.b l.c,bt a,bt b] (bt (.node l a b)):=by
 unfold bt
 rw [bc_node]
 apply PuN.toPt (T:=186)
 refine PuN.intro Tryz.func147 rfl (by kernel_rfl) fun C=>?_
 repeat(refine A1 ⟨?_⟩;intros)
 exact endNwR _ _ (end1 (RV.tmp rfl) (Le.refl _)) List.mem_cons_self (LeL.refl _)
def Tr.size:Tr→Nat
 | .leaf _=>0
 | .node _ a b=>1+a.size+b.size
theorem Tr.size_node (l:Li) (a b:Tr):(Tr.node l a b).size=1+a.size+b.size:=rfl
def Tr.root (k:Nat):Tr→Int
 | .leaf true => -2
 | .leaf false => -1
 | .node _ _ _=>k
def nd (l:Li) (i j:Int):List SV:=[lit (.bool (decide (l.a<0))),nat l.a.natAbs,lit (.bool (decide (l.b<0))),nat l.b.natAbs,lit (.bool (decide (l.c<0))),nat l.c.natAbs,lit (.int .i64 i),lit (.int .i64 j)]
def Tr.rows (k:Nat):Tr→List SV
 | .leaf _=>[]
 | .node l a b=>nd l (a.root (k+1)) (b.root (k+1+a.size))++a.rows (k+1)++b.rows (k+1+a.size)
theorem Tr.rows_len:∀(t:Tr) (k:Nat),(t.rows k).length=t.size*8
 | .leaf _,_=>rfl
 | .node _ a b,k=>by simp only [Tr.rows,Tr.size,List.length_append,rows_len a,rows_len b,nd,List.length_cons,List.length_nil];omega
def Tr.all (p:Li→Prop):Tr→Prop
 | .leaf _=>True
 | .node l a b=>p l∧a.all p∧b.all p
instance tyF:TY Tryz.prog 182 1 8 [lit .nilFunc] false:=⟨⟨[.nilFunc],by kernel_rfl,rfl,rfl,rfl⟩,by kernel_rfl⟩
theorem set_mid6 {cs rest:List SV}{k:Nat}{x0 x1 x2 x3 x4 x5 x6 x7 v:SV}(h:cs.length=k):spl (cs++(x0::x1::x2::x3::x4::x5::x6::x7::rest)) (0+k+6) [v]=cs++(x0::x1::x2::x3::x4::x5::v::x7::rest):=by
 subst h
 simp only [spl,Nat.zero_add]
 rw [List.set_append_right _ _ (by omega),Nat.add_sub_cancel_left]
 rfl
theorem set_mid7 {cs rest:List SV}{k:Nat}{x0 x1 x2 x3 x4 x5 x6 x7 v:SV}(h:cs.length=k):spl (cs++(x0::x1::x2::x3::x4::x5::x6::x7::rest)) (0+k+7) [v]=cs++(x0::x1::x2::x3::x4::x5::x6::v::rest):=by
 subst h
 simp only [spl,Nat.zero_add]
 rw [List.set_append_right _ _ (by omega),Nat.add_sub_cancel_left]
 rfl
theorem ble_mid {cs rest:List SV}{k j:Nat}{x0 x1 x2 x3 x4 x5 x6 x7:SV}(h:cs.length=k) (hj:j<8):Nat.ble (0+k+j+1) (cs++(x0::x1::x2::x3::x4::x5::x6::x7::rest)).length=true:=by
 rw [Nat.ble_eq,List.length_append];simp only [List.length_cons];omega
theorem api1_pu:∀(t:Tr) (_:t.all fun l=>l.le 1000000) (out fn n0:Nat) (cs:List SV) (s:SV) (Hs:LH) (_:Own 124 8 n0 cs s Hs) (_:n0+t.size≤1000000) (r0':Int),
  PuH Tryz.prog 85 [bt t,lit (.pointer (some ⟨out,0,none⟩)),lit (.pointer (some ⟨fn,0,none⟩))]
   ((out,38,[lit (.int .i64 r0'),s])::(fn,182,[fnv 85 [] [lit (.pointer (some ⟨out,0,none⟩)),lit (.pointer (some ⟨fn,0,none⟩))]])::Hs)
   (fun r H=>r=lit (.int .i64 (t.root n0))∧∃s' H',Own 124 8 (n0+t.size) (cs++t.rows n0) s' H'∧
    H=(out,38,[lit (.int .i64 r0'),s'])::(fn,182,[fnv 85 [] [lit (.pointer (some ⟨out,0,none⟩)),lit (.pointer (some ⟨fn,0,none⟩))]])::H') noX:=by
 intro t
 induction t with
 |leaf i =>
  intro _ out fn n0 cs s Hs hown _ r0'
  have c1:=isLeaf_leaf i
  have hfin:Own 124 8 (n0+(Tr.leaf i).size) (cs++(Tr.leaf i).rows n0) s Hs:=by
   simpa [Tr.size,Tr.rows] using hown
  unfold bt at *
  rw [bc_leaf]at *
  cases i with
  |true =>
   refine PuH.intro Tryz.func85 rfl (by kernel_rfl) fun C hC=>?_
   repeat(first|(refine A1 ⟨?_⟩;intros)|refine W4 c1 ⟨?_⟩)
   exact endHR _ _ (end1 (RV.tmp rfl) (Le.refl _)) (List.Sublist.refl _) ⟨rfl,_,_,hfin,rfl⟩
  |false =>
   refine PuH.intro Tryz.func85 rfl (by kernel_rfl) fun C hC=>?_
   repeat(first|(refine A1 ⟨?_⟩;intros)|refine W4 c1 ⟨?_⟩)
   exact endHR _ _ (end1 (RV.tmp rfl) (Le.refl _)) (List.Sublist.refl _) ⟨rfl,_,_,hfin,rfl⟩
 |node l a b iha ihb =>
  intro hall out fn n0 cs s Hs hown hsz r0'
  obtain⟨hl,hla,hlb⟩:=hall
  have c1:=isLeaf_node l a b
  have c2:=lapi_pu l hl
  haveI:=hown.co
  rw [Tr.size_node]at hsz
  unfold bt at *
  rw [bc_node]at *
  refine PuH.intro Tryz.func85 rfl (by kernel_rfl) fun C hC=>?_
  repeat(first|(refine A1 ⟨?_⟩;intros)|refine W4 c1 ⟨?_⟩)
  refine Wo (ov_lenOwn hown rfl) ?_
  repeat(first|(refine AS ⟨?_⟩;intros)|(refine O1 ⟨?_⟩;intros)|(refine Wcx (c1) ?_)|(refine Wcgx (c1) ?_))
  refine WdN 9 ?_
  repeat(first|(refine A1 ⟨?_⟩;intros)|refine W4 c2 ⟨?_⟩)
  simp only [List.drop_succ_cons,List.drop_zero]
  refine Wown hown (by omega) (fun s1 H1 o1=>?_)
  have o1':=o1
  obtain⟨_,⟨h1,_⟩|⟨b1,k1,_,_,rfl,rfl⟩⟩:=o1
  ·omega
  simp only [List.cons_append,List.nil_append]
  repeat(first|(refine AS ⟨?_⟩;intros)|(refine O1 ⟨?_⟩;intros)|(refine Wcx (c2) ?_)|(refine Wcgx (c2) ?_))
  refine WdN 5 ?_
  repeat(refine A1 ⟨?_⟩;intros)
  simp only [List.drop_succ_cons,List.drop_zero]
  refine WvT (iha hla out fn (n0+1) _ _ _ o1' (by omega) r0') ?_
  rintro _ _ ⟨rfl,s2,H2,o2,rfl⟩
  have o2':=o2
  obtain⟨_,⟨h2,_⟩|⟨b2,k2,_,_,rfl,rfl⟩⟩:=o2
  ·omega
  simp only [List.cons_append,List.nil_append]
  repeat(first|(refine AS ⟨?_⟩;intros)|(refine O1 ⟨?_⟩;intros)|(refine Wcx (c2) ?_)|(refine Wcgx (c2) ?_))
  refine WdN 5 ?_
  repeat(refine A1 ⟨?_⟩;intros)
  simp only [List.drop_succ_cons,List.drop_zero]
  refine WvT (ihb hlb out fn (n0+1+a.size) _ _ _ o2' (by omega) r0') ?_
  rintro _ _ ⟨rfl,s3,H3,o3,rfl⟩
  simp only [List.cons_append,List.nil_append]
  obtain⟨hlen,⟨h0,_⟩|⟨b3,c3,hc3,hm3,rfl,rfl⟩⟩:=o3
  ·omega
  have hcl:=hown.1
  simp only [List.append_assoc,List.cons_append,List.nil_append]
  repeat(first|(refine AS ⟨?_⟩;intros)|(refine O1 ⟨?_⟩;intros)|(refine Wcx (c2) ?_)|(refine Wcgx (c2) ?_))
  refine WdL 8 3 ?_
  repeat(refine A1 ⟨?_⟩;intros)
  refine dL0 ?_
  refine Gv ?_ ?_
  ·(repeat(first|exact LOk.nil|refine Lsk ?_|refine Lcv ?_))
  refine Gv ?_ ?_
  ·(repeat(first|exact LOk.nil|refine Lsk ?_|refine Lcv ?_))
  refine Gs (b:=b3) (o:=0+n0*8+6) (sv:=lit (.int .i64 (a.root (n0+1)))) rfl rfl rfl (.there _ (.there _ (.there _ (.here _)))) (set_mid6 hcl) (ble_mid hcl (by decide)) ?_ ?_
  ·(repeat(first|exact LOk.nil|refine Lsk ?_|refine Lcv ?_))
  refine Gn ?_ ?_
  ·(repeat(first|exact LOk.nil|refine Lsk ?_|refine Lcv ?_))
  repeat(refine A1 ⟨?_⟩;intros)
  refine WPL.store (b:=b3) (o:=0+n0*8+7) (sv:=lit (.int .i64 (b.root (n0+1+a.size)))) rfl rfl rfl (.there _ (.there _ (.there _ (.here _)))) (set_mid7 hcl) (ble_mid hcl (by decide)) ?_
  repeat(refine A1 ⟨?_⟩;intros)
  refine endHR _ _ (end1 (RV.tmp rfl) (Le.refl _)) (List.Sublist.cons _ (List.Sublist.refl _)) ⟨rfl,_,_,⟨?_, .inr ⟨b3,c3,?_,hm3,?_,?_⟩⟩,rfl⟩
  ·rw [List.length_append,hown.1,Tr.rows_len,Nat.add_mul]
  ·rw [Tr.size_node];omega
  ·rw [show n0+(Tr.node l a b).size=n0+1+a.size+b.size from by rw [Tr.size_node];omega]
  ·rw [show n0+(Tr.node l a b).size=n0+1+a.size+b.size from by rw [Tr.size_node];omega]
   simp only [Tr.rows,nd,List.append_assoc,List.cons_append,List.nil_append]
theorem All2.repl {m:Mem}{x y:SV}{c2:List SV}(h:∀v,x.p m v→y.p m v):∀{c1:List SV}{l:List Value},All2 m (c1++x::c2) l→All2 m (c1++y::c2) l
 | [],[],k=>k.elim
 | [],_::_,k=>⟨⟨h _ k.1.1,k.1.2⟩,k.2⟩
 |_::_,[],k=>k.elim
 |_::_,_::_,k=>⟨k.1,All2.repl h k.2⟩
theorem St.pubC {C:Ctx}{n:Nat}{F:Fr}{H H1 H':LH}{a:Act}{w:World}{b o:Nat}{T To:TypeId}{cs c1 c2:List SV}{v:Value}{s':SV}(hs:St C n F H a w) (hdel:HDel b T cs H H1)
  (hu:HUpd o To (c1++lit v::c2) (c1++s'::c2) H1 H') (hsv:∀(m:Mem) (arr:Array Value),m b=some (.cells arr T (0,0))→All2 m cs arr.toList→s'.p m v):St C n F H' a w:=by
 obtain⟨hdef,hn,m,h1,h2,h3,h4,h5⟩:=hs
 obtain⟨hmb,arr,hb,hall⟩:=h2.2 _ hdel.mem
 have hle:m.le (fun x=>if x=b then w.heap[b]? else m x):=fun x o hx=>by
  show(if x=b then w.heap[b]? else m x)=some o
  rw [if_neg (fun e=>by rw [e]at hx;rw [hmb]at hx;cases hx)];exact hx
 have hk:=hdel.keys h2.1
 have hval:s'.p (fun x=>if x=b then w.heap[b]? else m x) v:=hsv _ arr (by show(if b=b then w.heap[b]? else m b)=_;rw [if_pos rfl];exact hb) (hall.mono hle)
 refine⟨hdef,hn,(fun x=>if x=b then w.heap[b]? else m x),⟨fun x o hx=>?_,Mem.le_trans h1.base hle⟩,⟨hu.keys▸hk.1,fun e he=>?_⟩,⟨Mem.le_trans h3.le hle,fun x hx hnx=>?_,h3.os,h3.tape,h3.output,h3.size,h3.block⟩,
  fun e he=>?_,fun t=>(F t).mono hle (h5 t)⟩
 ·by_cases hxb:x=b
  ·subst hxb;simp only [if_true]at hx;exact hx
  ·simp only [if_neg hxb]at hx;exact h1 x o hx
 ·rcases hu.mem' hk.1 e he with rfl|⟨he',hne⟩
  ·obtain⟨q1,arr',q2,q3⟩:=h2.2 _ (hdel.sub _ hu.mem)
   refine⟨?_,arr',q2,(q3.mono hle).repl fun u hu'=>?_⟩
   ·show(if o=b then w.heap[b]? else m o)=none
    rw [if_neg (hk.2 _ hu.mem)];exact q1
   ·rw [lit_p]at hu';subst hu';exact hval
  ·obtain⟨q1,arr',q2,q3⟩:=h2.2 e (hdel.sub e he')
   exact⟨by show(if e.1=b then w.heap[b]? else m e.1)=none;rw [if_neg (hk.2 e he')];exact q1,arr',q2,q3.mono hle⟩
 ·have hxb:x≠b:=fun e=>by
   subst e
   rcases h4 _ hdel.mem with h|h
   ·exact hnx h
   ·exact absurd hx (Nat.not_lt.2 h)
  show(if x=b then w.heap[b]? else m x)=_
  rw [if_neg hxb];exact h3.old x hx hnx
 ·have:e.1∈H'.map (·.1):=List.mem_map.2 ⟨e,he,rfl⟩
  rw [hu.keys]at this
  obtain⟨e',he',hk'⟩:=List.mem_map.1 this
  exact hk'▸h4 e' (hdel.sub e' he')
theorem WPL.pubC {P:Program}{C:Ctx}{n:Nat}{F:Fr}{H H1 H':LH}{ops:Array Oper}{K:Fr→LH→Prop}{l:List Oper}{b o:Nat}{T To:TypeId}{cs c1 c2:List SV}{v:Value}{s':SV}(hdel:HDel b T cs H H1)
  (hu:HUpd o To (c1++lit v::c2) (c1++s'::c2) H1 H') (hsv:∀(m:Mem) (arr:Array Value),m b=some (.cells arr T (0,0))→All2 m cs arr.toList→s'.p m v) (k:WPL P C n ops l K F H'):WPL P C n ops l K F H:=by
 unfold WPL at *
 exact fun a w hs=>k a w (hs.pubC hdel hu hsv)
abbrev tq (t:Tr):SV:=ag [lit (.int .i64 (t.root 0)),sl (t.rows 0) t.size]
theorem pub_own {m:Mem}{arr:Array Value}{b:Nat}{T:TypeId}{cs:List SV}{j n c:Nat}(hm:m b=some (.cells arr T (0,0))) (ha:All2 m (cs++List.replicate j top) arr.toList) (h1:n≤c) (h2:c≤maxLen):(sl cs n).p m (.slice (some ⟨b,0,none⟩) n c):=by
 refine sl_mk h1 h2 (.inr ⟨b,0,rfl,arr,T,(0,0),hm,?_⟩)
 rw [List.drop_zero]
 exact ha.split.1
theorem tapi_pu (t:Tr) (hall:t.all fun l=>l.le 1000000) (hsz:t.size≤1000000):Pu Tryz.prog 37 [bt t] (tq t):=by
 have c:=fun out fn=>api1_pu t hall out fn 0 [] _ [] (Own.nil 124 8) (by omega) 0
 refine Pu.intro Tryz.func37 rfl (by kernel_rfl) fun C=>?_
 repeat(refine A1 ⟨?_⟩;intros)
 rename_i b1 b2 b3
 refine Ss ?_
 refine Ws (sv:=fnv 85 [] [lit (.pointer (some ⟨b2,0,none⟩)),lit (.pointer (some ⟨b3,0,none⟩))]) ?_
 repeat(refine A1 ⟨?_⟩;intros)
 refine WvT (c _ _) ?_
 rintro _ _ ⟨rfl,s',H',ho,rfl⟩
 simp only [List.cons_append,List.nil_append,Nat.zero_add]at ho⊢
 obtain⟨hlen,⟨h0,rfl,rfl⟩|⟨b,cc,h1,h2,rfl,rfl⟩⟩:=ho
 ·have hr:t.rows 0=[]:=List.eq_nil_of_length_eq_zero (by rw [hlen,h0])
  have hle:Le (lit (.slice none 0 0)) (sl (t.rows 0) t.size):=fun m v hv=>by
   rw [lit_p]at hv;subst hv;rw [hr,h0]
   exact sl_mk (Nat.le_refl _) (by decide) (.inl rfl)
  repeat(refine A1 ⟨?_⟩;intros)
  exact endR (end1 (RV.cellA rfl List.mem_cons_self rfl rfl) (Le.ag ⟨Le.refl _,hle,trivial⟩))
 ·refine WPL.pubC (c1:=[lit (.int .i64 0)]) (c2:=[]) (s':=sl (t.rows 0) t.size) (.there _ (.there _ (.there _ (.here _)))) (.there _ (.here _)) (fun m arr hm ha=>pub_own hm ha h1 h2) ?_
  simp only [List.cons_append,List.nil_append]
  repeat(refine A1 ⟨?_⟩;intros)
  exact endR (end1 (RV.cellA rfl List.mem_cons_self rfl rfl) (Le.refl _))
section
variable {P:Program}{C:Ctx}{n:Nat}{F Fe:Fr}{H:LH}{ops:Array Oper}
theorem wp_monoX {o:Oper}{a:Act}{w:World}{next:Act→World→Prop}{Q Q':Exit→Act→World→Prop}(hp:∀c a w,Q' (.panic c) a w→Q (.panic c) a w) (ho:∀a w,Q' .outgrown a w→Q .outgrown a w) (h:o.wp P a w next Q'):o.wp P a w next Q:=by
 unfold Oper.wp at *
 generalize(execOp a.eval o).run P w=r at *
 cases r with
 |ok n w' =>
  cases n <;> simp only [Oper.upon]at h⊢<;>
   first
    |exact h
    |exact Calls.mono h (fun e w'' he=>by cases e <;> first|exact he|exact hp _ _ _ he|exact he.imp fun a h=>h.imp fun w h=>ho a w h)
 |halt x w'=>cases x <;> simp only [Oper.upon]at h⊢<;> first|exact hp _ _ _ h|exact h
theorem TS.ofWPL {i:Nat}{o:Oper}{sv:SV}{H':LH}(ho:ops[i]? = some o) (h:∀F,(∀t,t∈o.looksAt ops→Fe t=F t)→WPL P ⟨C.ks,C.m,C.w,noX,C.dfs⟩ n ops [o] (fun F' H2=>F'=dstf o F sv∧H2=H') F H):TS P C n ops i o Fe H sv H':=by
 intro F hF a w hst Q' K' hK'
 have h1:=h F hF
 unfold WPL at h1
 have h2:=h1 a w hst (fun e a w=>match e with
  | .normal=>K' a w
  | .panic c=>Q' (.panic c) a w
  | .outgrown=>Q' .outgrown a w
  |_=>False) ⟨fun a' w' F' H2 hs' hk=>by
   obtain⟨rfl,rfl⟩:=hk
   exact hK' a' w' hs',fun ch a' w' hp=>by obtain⟨_,_,_,_,_,_,_,_,_,_,_,hf⟩:=hp;exact hf.elim⟩
 unfold wpOp
 simp only [ho]
 unfold wpList at h2
 split
 ·rename_i hw
  rw [if_pos hw]at h2
  rcases h2 with h2|h2
  ·exact .inl (wp_monoX (fun _ _ _ h=>h) (fun _ _ h=>h) h2)
  ·exact .inr ⟨h2.1,h2.2⟩
 ·rename_i hw
  rw [if_neg hw]at h2
  exact h2
theorem TS.callH {i d:Nat}{f:FuncId}{l:List Operand}{tys:Array TypeId}{ty:TypeId}{pos:String}{aft:Array Edge}{svs:List SV}{Hin Hout Rs:LH}{res:SV}(ho:ops[i]? = some ⟨some d, .call ⟨.value (.func f),l.toArray,tys⟩,ty,pos,aft,none⟩) (hd:Nat.blt d n=true)
  (hc:PuH P f svs Hin (fun r H=>r=res∧H=Hout) noX) (hs:Tk H Hin Rs) (ha:l.map (ev Fe)=svs):TS P C n ops i ⟨some d, .call ⟨.value (.func f),l.toArray,tys⟩,ty,pos,aft,none⟩ Fe H res (Rs++Hout):=by
 refine TS.ofWPL ho fun F hF=>?_
 refine WfT hc ?_ ?_ hs hd
 ·rintro _ _ ⟨rfl,rfl⟩
  exact WPL.nil ⟨rfl,rfl⟩
 ·rw [←ha]
  refine List.map_congr_left fun x hx=>?_
  exact ev_looks (by simp [Op.operands,Call.operands,hx]) hF
theorem Gc {k q i d:Nat}{late:List NO'}{K:Fr→LH→Prop}{r:List Oper}{f:FuncId}{l:List Operand}{tys:Array TypeId}{ty:TypeId}{pos:String}{aft:Array Edge}{svs:List SV}{Hin Hout Rs:LH}{res:SV}
  (hc:PuH P f svs Hin (fun r H=>r=res∧H=Hout) noX) (hs:Tk H Hin Rs) (hl:LOk P ops k q n H F late) (h:Stg P C n ops k q late K (i+1) r (upd F d res) (Rs++Hout))
  (ha:l.map (ev F)=svs:=by exact rfl) (ho:ops[i]? = some ⟨some d, .call ⟨.value (.func f),l.toArray,tys⟩,ty,pos,aft,none⟩:=by exact rfl) (hd:Nat.blt d n=true:=by exact rfl) :
  Stg P C n ops k q late K i (⟨some d, .call ⟨.value (.func f),l.toArray,tys⟩,ty,pos,aft,none⟩::r) F H:=⟨hl,_,(TS.callH ho hd hc hs ha).toR,by rintro _ _ ⟨rfl,rfl⟩;exact h⟩
end
def marks (k n:Nat):List SV:=List.replicate k (lit (.bool true))++List.replicate (n-k) (lit (.bool false))
theorem marks_len {k n:Nat}(h:k≤n):(marks k n).length=n:=by unfold marks;simp;omega
theorem marks_set {k n:Nat}(h:k<n):(marks k n).set k (lit (.bool true))=marks (k+1) n:=by
 unfold marks
 rw [List.set_append_right _ _ (by simp),List.length_replicate,Nat.sub_self,show n-k=(n-(k+1))+1 from by omega,List.replicate_succ,List.set_cons_zero,List.replicate_succ',List.append_assoc]
 rfl
theorem marks_get {k n:Nat}(h:k<n):(marks k n)[k]? = some (lit (.bool false)):=by
 unfold marks
 rw [List.getElem?_append_right (by simp),List.length_replicate,Nat.sub_self,show n-k=(n-(k+1))+1 from by omega,List.replicate_succ]
 rfl
def At (all:List SV) (k:Nat) (t:Tr):Prop:=(all.drop (k*8)).take (t.size*8)=t.rows k
theorem At.node {all:List SV}{k:Nat}{l:Li}{a b:Tr}(h:At all k (.node l a b)):(all.drop (k*8)).take 8=nd l (a.root (k+1)) (b.root (k+1+a.size))∧At all (k+1) a∧At all (k+1+a.size) b:=by
 unfold At at h⊢
 rw [Tr.size_node]at h
 simp only [Tr.rows]at h
 have hn:(nd l (a.root (k+1)) (b.root (k+1+a.size))).length=8:=rfl
 have h1:=congrArg (List.take 8) h
 rw [List.take_take,Nat.min_eq_left (by omega),List.append_assoc,List.take_left' hn]at h1
 have h2:=congrArg (List.drop 8) h
 rw [List.drop_take,List.drop_drop,List.append_assoc,List.drop_left' hn]at h2
 rw [show k*8+8=(k+1)*8 from by omega,show(1+a.size+b.size)*8-8=a.size*8+b.size*8 from by omega]at h2
 have ha:=Tr.rows_len a (k+1)
 have h3:=congrArg (List.take (a.size*8)) h2
 rw [List.take_take,Nat.min_eq_left (by omega),List.take_left' ha]at h3
 have h4:=congrArg (List.drop (a.size*8)) h2
 rw [List.drop_take,List.drop_drop,List.drop_left' ha]at h4
 rw [show(k+1)*8+a.size*8=(k+1+a.size)*8 from by omega,Nat.add_sub_cancel_left]at h4
 exact⟨h1,h3,h4⟩
abbrev tbrdC (all:List SV) (n s k:Nat):List SV:=[sl all n,lit (.slice (some ⟨s,0,none⟩) n n),lit (.int .i64 (k:Int)),lit (.bool false)]
theorem tbpart_pu:∀(t:Tr) (_:t.all fun l=>l.ok∧l.le 100000) (all:List SV) (n k r s:Nat) (_:At all k t) (_:k+t.size≤n) (_:n≤1000000) (_:all.length=n*8),
  PuH Tryz.prog 144 [lit (.pointer (some ⟨r,0,none⟩)),lit (.int .i64 (t.root k))] [(r,268,tbrdC all n s k),(s,4,marks k n)]
   (fun res H=>res=bt t∧H=[(r,268,tbrdC all n s (k+t.size)),(s,4,marks (k+t.size) n)]) noX:=by
 intro t
 induction t with
 |leaf i =>
  intro _ all n k r s _ _ _ _
  have c1:=leaf_pu i
  cases i with
  |true =>
   simp only [Tr.root]
   refine PuH.intro Tryz.func144 rfl (by kernel_rfl) fun C hC=>?_
   repeat(first|(refine A1 ⟨?_⟩;intros)|refine W4 c1 ⟨?_⟩)
   exact endHR _ _ (end1 (RV.tmp rfl) (Le.refl _)) (List.Sublist.refl _) ⟨rfl,rfl⟩
  |false =>
   simp only [Tr.root]
   refine PuH.intro Tryz.func144 rfl (by kernel_rfl) fun C hC=>?_
   repeat(first|(refine A1 ⟨?_⟩;intros)|refine W4 c1 ⟨?_⟩)
   exact endHR _ _ (end1 (RV.tmp rfl) (Le.refl _)) (List.Sublist.refl _) ⟨rfl,rfl⟩
 |node l a b iha ihb =>
  intro hall all n k r s hat hkn hn hlen
  obtain⟨⟨hok,hle⟩,hla,hlb⟩:=hall
  obtain⟨h1,hA,hB⟩:=hat.node
  rw [Tr.size_node]at hkn
  have c2:=lnOf_pu hok hle
  have hg:=marks_get (k:=k) (n:=n) (by omega)
  have hs:spl (marks k n) k [lit (.bool true)]=marks (k+1) n:=by simp only [spl];exact marks_set (by omega)
  simp only [nd]at h1
  have hml:=marks_len (k:=k) (n:=n) (by omega)
  have hne:all≠[]:=fun e=>by rw [e]at hlen;simp at hlen;omega
  simp only [Tr.root]
  refine PuH.intro Tryz.func144 rfl (by kernel_rfl) fun C hC=>?_
  repeat(refine A1 ⟨?_⟩;intros)
  refine WgE ?_
  refine Wo (ov_loadL rfl mmA hg) ?_
  repeat(refine A1 ⟨?_⟩;intros)
  refine WPL.store (b:=s) (o:=k) (sv:=lit (.bool true)) (cs':=marks (k+1) n) rfl rfl rfl (.there _ (.here _)) hs (by rw [Nat.ble_eq,hml];omega) ?_
  repeat(refine A1 ⟨?_⟩;intros)
  refine Wo (ov_idxS rfl rfl (by omega) (by omega) h1 hne) ?_
  repeat(first|(refine A1 ⟨?_⟩;intros)|refine W4 c2 ⟨?_⟩)
  refine WfT (iha hla all n (k+1) r s hA (by omega) hn hlen) ?_
  rintro _ _ ⟨rfl,rfl⟩
  simp only [List.cons_append,List.nil_append]
  repeat(first|(refine AS ⟨?_⟩;intros)|(refine O1 ⟨?_⟩;intros)|(refine Wcx (c2) ?_)|(refine Wcgx (c2) ?_))
  refine WdL 5 1 ?_
  repeat(refine A1 ⟨?_⟩;intros)
  refine dL0 ?_
  have c3:=ihb hlb all n (k+1+a.size) r s hB (by omega) hn hlen
  have c4:=bnew_pu l a b
  refine Gc c3 (.skip _ (.skip _ (.same _))) ?_ ?_
  ·(repeat(first|exact LOk.nil|refine Lsk ?_|refine Lcv ?_))
  simp only [List.cons_append,List.nil_append]
  refine Gn ?_ ?_
  ·(repeat(first|exact LOk.nil|refine Lsk ?_|refine Lcv ?_))
  repeat(first|(refine A1 ⟨?_⟩;intros)|refine W4 c4 ⟨?_⟩)
  rw [show k+1+a.size+b.size=k+(Tr.node l a b).size from by rw [Tr.size_node];omega]
  exact endHR _ _ (end1 (RV.tmp rfl) (Le.refl _)) (List.Sublist.cons _ (List.Sublist.cons _ (List.Sublist.refl _))) ⟨rfl,rfl⟩
theorem At.all (t:Tr):At (t.rows 0) 0 t:=by
 unfold At
 rw [Nat.zero_mul,List.drop_zero,←Tr.rows_len t 0,List.take_length]
theorem bof_pu (t:Tr) (hall:t.all fun l=>l.ok∧l.le 100000) (hsz:t.size≤60000):Pu Tryz.prog 79 [tq t] (Ab.tup [bt t,lit (.bool true)]):=by
 have c:=fun r s=>tbpart_pu t hall (t.rows 0) t.size 0 r s (At.all t) (by omega) (by omega) (t.rows_len 0)
 simp only [Nat.zero_add]at c
 refine Pu.intro Tryz.func79 rfl (by kernel_rfl) fun C=>?_
 repeat(first|(refine AS ⟨?_⟩;intros)|(refine O1 ⟨?_⟩;intros)|(refine Wcx (leaf_pu true) ?_)|(refine Wcgx (leaf_pu true) ?_))
 refine WdN 6 ?_
 repeat(refine A1 ⟨?_⟩;intros)
 refine Wdnew (nk_make rfl rfl (by omega) (by omega)) ?_
 repeat(refine A1 ⟨?_⟩;intros)
 rename_i b1 s r
 refine WfT (c r s) ?_
 rintro _ _ ⟨rfl,rfl⟩
 simp only [List.cons_append,List.nil_append]
 repeat(refine A1 ⟨?_⟩;intros)
 ((first|refine endR ?_|refine endN ?_);exact end2 (RV.tmp rfl) (RV.tmp rfl) (Le.refl _))
def sampleS (s:Spn):Rat:=if s.nl&&s.nh then 0 else if s.nl then s.hi-1 else if s.nh then s.lo+1 else midR s.lo s.hi
abbrev Fg:=Li×Spn
def edgeStep (l m:Li) (s:Spn):Spn :=
 if 0<(crossP (dirL m) (dirL l)).num.sign then(if s.nl=true∨0<(parL l (meetP l m)-s.lo).num.sign then⟨parL l (meetP l m),s.hi,false,s.nh⟩else s)
 else if s.nh=true∨(parL l (meetP l m)-s.hi).num.sign<0 then⟨s.lo,parL l (meetP l m),s.nl,false⟩else s
def spBad (s:Spn):Bool := !s.nl && !s.nh&&decide (0≤(s.lo-s.hi).num.sign)
def edgeGo (l:Li) (i:Nat):Nat→List Li→Spn→Spn×Bool
 |_,[],s=>(s,true)
 |k,m::c,s=>if k=i∨cmpL l m=0 then edgeGo l i (k+1) c s
  else if detL l m=0 then(if 0<sideL m (baseL l)then edgeGo l i (k+1) c s else(s,false))
  else if spBad (edgeStep l m s)then(edgeStep l m s,false)else edgeGo l i (k+1) c (edgeStep l m s)
def edgeC (c:List Li) (i:Nat):Spn×Bool:=edgeGo (c.getD i ⟨0,0,0⟩) i 0 c Spn.full
def nearStep (p v:Pq) (s:Rat) (a:Li):Rat :=
 if(valL a (addP p 1 v)-valL a p).num.sign=0∨sideL a p=0 then s
 else if 0<(-(valL a p/(valL a (addP p 1 v)-valL a p))).num.sign∧(-(valL a p/(valL a (addP p 1 v)-valL a p))/2-s).num.sign<0 then -(valL a p/(valL a (addP p 1 v)-valL a p))/2 else s
def nearP (l:List Li) (p v:Pq):Pq:=addP p (l.foldl (nearStep p v) 1) v
def innerAt (c:List Li) (i:Nat) (l:Li):Pq:=nearP c (atL l (sampleS (edgeC c i).1)) (-(dirL l).2,(dirL l).1)
def innerGo (c:List Li):Nat→List Li→Option Pq
 |_,[]=>none
 |i,l::r=>if(edgeC c i).2 then some (innerAt c i l)else innerGo c (i+1) r
def innerC (c:List Li):Option Pq:=if c=[]then some (0,0)else innerGo c 0 c
abbrev alt (l m:Li):Bool:=decide (angP (dirL l) (dirL m)<0)
def canonStep (c:List Li) (out:List Li) (i:Nat):List Li:=if(edgeC c i).2 then insB alt out (c.getD i ⟨0,0,0⟩)else out
def canonC (c:List Li):List Li:=(List.range c.length).foldl (canonStep c) []
def placeC (c:List Li) (l:Li):Int:=if(innerC (c++[l])).isSome then(if(innerC (c++[l.neg])).isSome then 0 else 1)else -1
def joinT (l:Li):Tr→Tr→Tr
 | .leaf i, .leaf j=>if i=j then .leaf i else .node l (.leaf i) (.leaf j)
 |a,b => .node l a b
abbrev withC (c:List Li) (l:Li):List Li:=canonC (c++[l])
def restrT:Tr→List Li→Tr
 | .leaf i,_ => .leaf i
 | .node l a b,c=>if placeC c l=1 then restrT a c else if placeC c l = -1 then restrT b c else joinT l (restrT a (withC c l)) (restrT b (withC c l.neg))
def notT:Tr→Tr
 | .leaf i => .leaf (!i)
 | .node l a b => .node l (notT a) (notT b)
def chooseT (op:Int) (i:Bool) (b:Tr) (c:List Li):Tr :=
 if op=1∧i=true then .leaf true else if(op=2∨op=3)∧i=false then .leaf false else if(op=3∨op=4)∧i=true then notT (restrT b c)else restrT b c
def mergeT (op:Int):Tr→Tr→List Li→Tr
 | .leaf i,b,c=>chooseT op i b c
 | .node l x y,b,c=>if placeC c l=1 then mergeT op x b c else if placeC c l = -1 then mergeT op y b c else joinT l (mergeT op x b (withC c l)) (mergeT op y b (withC c l.neg))
theorem rsign_pos {x:Rat}:0<x.num.sign↔0<x:=by rw [Int.sign_pos_iff];exact rnum_pos
theorem rnum_neg {x:Rat}:x.num<0↔x<0:=by
 have h1:0≤x.num↔0≤x:=Rat.num_nonneg
 constructor
 ·intro h
  exact Rat.not_le.1 fun k=>by have:=h1.2 k;omega
 ·intro h
  have:¬0≤x.num:=fun k=>Rat.not_le.2 h (h1.1 k)
  omega
theorem rsign_neg {x:Rat}:x.num.sign<0↔x<0:=by rw [Int.sign_neg_iff];exact rnum_neg
theorem rsign_nn {x:Rat}:0≤x.num.sign↔0≤x:=by
 rw [←Int.not_lt,rsign_neg,Rat.not_lt]
theorem den_dir (l:Li):dotP (dirL l) (dirL l)=(l.a:Rat)*l.a+l.b*l.b:=by unfold dotP dirL;simp only;grind
theorem bf_mul {l:Li}(h:l.ok):l.bf*((l.a:Rat)*l.a+l.b*l.b) = -l.c:=by
 have hn:=nrm_pos h
 unfold Li.bf
 rw [show(l.b:Rat)*l.b + -(l.a:Rat) * -(l.a:Rat)=(l.a:Rat)*l.a+l.b*l.b by grind]
 generalize(l.a:Rat)*l.a+l.b*l.b=n at *
 rw [Rat.neg_mul,Rat.div_mul_cancel (by grind)]
theorem par_mul {l:Li}(h:l.ok) (p:Pq):parL l p*((l.a:Rat)*l.a+l.b*l.b)=p.1*l.b-p.2*l.a:=by
 have hn:=nrm_pos h
 unfold parL
 rw [den_dir,Rat.div_mul_cancel (by grind)]
 unfold dotP dirL;simp only;grind
theorem at_eq {l:Li}(t:Rat):atL l t=(l.bf*l.a+t*l.b,l.bf*l.b-t*l.a):=by
 unfold atL addP baseL dirL;refine Prod.ext ?_ ?_ <;> simp only <;> grind
theorem at_on {l:Li}(h:l.ok) (t:Rat):valL l (atL l t)=0:=by
 have hb:=bf_mul h
 rw [at_eq];unfold valL;simp only;grind
theorem at_par {l:Li}(h:l.ok){p:Pq}(hp:valL l p=0):atL l (parL l p)=p:=by
 have hn:=nrm_pos h
 have hb:=bf_mul h
 have hq:=par_mul h p
 rw [at_eq]
 obtain⟨x,y⟩:=p
 have hc:(l.c:Rat) = -(l.a*x+l.b*y):=by unfold valL at hp;simp only at hp;grind
 generalize parL l (x,y)=t at *
 generalize l.bf=f at *
 simp only at hq
 rw [hc]at hb
 generalize(l.a:Rat)=a at *
 generalize(l.b:Rat)=b at *
 have hne:a*a+b*b≠0:=by grind
 simp only [Prod.mk.injEq]
 constructor
 ·refine ra_can hne ?_
  have:(a*a+b*b)*(f*a+t*b)=(f*(a*a+b*b))*a+(t*(a*a+b*b))*b:=by grind
  rw [this,hb,hq];grind
 ·refine ra_can hne ?_
  have:(a*a+b*b)*(f*b-t*a)=(f*(a*a+b*b))*b-(t*(a*a+b*b))*a:=by grind
  rw [this,hb,hq];grind
theorem meet_on {l m:Li}(h:detL l m≠0):valL l (meetP l m)=0∧valL m (meetP l m)=0:=by
 have e1:∀x:Rat,x/detL l m*detL l m=x:=fun x=>Rat.div_mul_cancel h
 obtain⟨x,hx⟩:∃x,x=((l.b:Rat)*m.c-m.b*l.c)/detL l m:=⟨_,rfl⟩
 obtain⟨y,hy⟩:∃y,y=((m.a:Rat)*l.c-l.a*m.c)/detL l m:=⟨_,rfl⟩
 have hx':x*detL l m=(l.b:Rat)*m.c-m.b*l.c:=by rw [hx];exact e1 _
 have hy':y*detL l m=(m.a:Rat)*l.c-l.a*m.c:=by rw [hy];exact e1 _
 have:meetP l m=(x,y):=by unfold meetP;rw [←hx,←hy]
 rw [this]
 clear e1 hx hy this
 constructor
 ·refine ra_can h ?_
  unfold valL
  have:detL l m*((l.a:Rat)*x+l.b*y+l.c)=l.a*(x*detL l m)+l.b*(y*detL l m)+l.c*detL l m:=by grind
  simp only
  rw [this,hx',hy'];unfold detL;grind
 ·refine ra_can h ?_
  unfold valL
  have:detL l m*((m.a:Rat)*x+m.b*y+m.c)=m.a*(x*detL l m)+m.b*(y*detL l m)+m.c*detL l m:=by grind
  simp only
  rw [this,hx',hy'];unfold detL;grind
def slp (l m:Li):Rat:=(m.a:Rat)*l.b-m.b*l.a
theorem slp_cross (l m:Li):crossP (dirL m) (dirL l)=slp l m:=by unfold crossP dirL slp;simp only;grind
theorem slp_det (l m:Li):detL l m = - slp l m:=by unfold detL slp;grind
theorem valL_at (l m:Li) (t:Rat):valL m (atL l t)=valL m (baseL l)+t*slp l m:=by
 rw [at_eq];unfold valL slp baseL;simp only;grind
theorem valL_at2 {l m:Li}(hl:l.ok) (h:detL l m≠0) (t:Rat):valL m (atL l t)=(t-parL l (meetP l m))*slp l m:=by
 obtain⟨h1,h2⟩:=meet_on h
 have h3:=at_par hl h1
 have h4:=valL_at l m (parL l (meetP l m))
 rw [h3,h2]at h4
 rw [valL_at];grind
def InS (s:Spn) (t:Rat):Prop:=(s.nl=true∨s.lo<t)∧(s.nh=true∨t<s.hi)
theorem midR_in {x y:Rat}(h:x<y):x<midR x y∧midR x y<y:=by unfold midR;grind
theorem sample_in {s:Spn}(h:spBad s=false):InS s (sampleS s):=by
 obtain⟨lo,hi,nl,nh⟩:=s
 unfold spBad at h
 unfold InS sampleS
 cases nl <;> cases nh <;> simp only [Bool.and_self,Bool.false_eq_true,if_false,if_true,Bool.and_true,Bool.and_false,true_or,false_or,true_and,and_true]
 ·have h':lo<hi:=by
   have:¬0≤(lo-hi).num.sign:=of_decide_eq_false h
   rw [rsign_nn]at this;grind
  exact midR_in h'
 ·grind
 ·grind
theorem spBad_in {s:Spn}{t:Rat}(h:InS s t):spBad s=false:=by
 unfold spBad
 cases h1:s.nl with
 |true=>rfl
 |false =>
  cases h2:s.nh with
  |true=>rfl
  |false =>
   obtain⟨a,b⟩:=h
   rw [h1]at a;rw [h2]at b
   have a:=a.resolve_left (by decide)
   have b:=b.resolve_left (by decide)
   have:¬0≤(s.lo-s.hi).num.sign:=by rw [rsign_nn];grind
   rw [decide_eq_false this];rfl
theorem mul_pos_r {x k:Rat}(hk:0<k):0<x*k↔0<x:=by
 rw [Rat.mul_comm];exact Rat.mul_pos_iff_of_pos_left hk
theorem edgeStep_in {l m:Li}(hl:l.ok) (h:detL l m≠0) (s:Spn) (t:Rat):InS (edgeStep l m s) t↔InS s t∧0<valL m (atL l t):=by
 rw [valL_at2 hl h]
 unfold edgeStep
 rw [slp_cross]
 generalize parL l (meetP l m)=u
 have hk:slp l m≠0:=fun e=>h (by rw [slp_det,e];rfl)
 generalize slp l m=k at *
 clear h
 by_cases h0:0<k.num.sign
 ·rw [if_pos h0,mul_pos_r (rsign_pos.1 h0)]
  split
  ·rename_i h1
   rw [rsign_pos]at h1
   unfold InS;simp only
   constructor
   ·rintro ⟨a,b⟩
    have a:=a.resolve_left (by decide)
    refine⟨⟨?_,b⟩,by grind⟩
    rcases h1 with h1|h1
    ·exact .inl h1
    ·right;grind
   ·rintro ⟨⟨a,b⟩,c⟩
    exact⟨.inr (by grind),b⟩
  ·rename_i h1
   rw [not_or,rsign_pos]at h1
   constructor
   ·intro h
    refine⟨h,?_⟩
    have:=h.1.resolve_left h1.1
    grind
   ·exact And.left
 ·rw [if_neg h0]
  rw [rsign_pos]at h0
  have hk':0 < -k:=by grind
  have e:(t-u)*k=(u-t) * -k:=by grind
  rw [e,mul_pos_r hk']
  split
  ·rename_i h1
   rw [rsign_neg]at h1
   unfold InS;simp only
   constructor
   ·rintro ⟨a,b⟩
    have b:=b.resolve_left (by decide)
    refine⟨⟨a,?_⟩,by grind⟩
    rcases h1 with h1|h1
    ·exact .inl h1
    ·right;grind
   ·rintro ⟨⟨a,b⟩,c⟩
    exact⟨a, .inr (by grind)⟩
  ·rename_i h1
   rw [not_or,rsign_neg]at h1
   constructor
   ·intro h
    refine⟨h,?_⟩
    have:=h.2.resolve_left h1.1
    grind
   ·exact And.left
theorem val_par {l m:Li}(h:detL l m=0) (t:Rat):valL m (atL l t)=valL m (baseL l):=by
 have:slp l m=0:=by rw [slp_det]at h;grind
 rw [valL_at,this];grind
theorem edgeGo_ok {l:Li}(hl:l.ok) (i:Nat):∀(c:List Li) (k:Nat) (s:Spn),(∃t,InS s t)→c[i-k]? = some l∨i<k→
  ((edgeGo l i k c s).2=true→(∀t,InS (edgeGo l i k c s).1 t↔InS s t∧∀m∈c,m≠l→0<valL m (atL l t))∧∃t,InS (edgeGo l i k c s).1 t)∧
  ((edgeGo l i k c s).2=false→∀t,InS s t→∃m∈c,m≠l∧valL m (atL l t)≤0)
 | [],k,s,hs,_=>⟨fun _=>⟨fun t=>by simp [edgeGo],hs⟩,fun h=>by cases h⟩
 |m::c,k,s,hs,hi=>by
  have hi':c[i-(k+1)]? = some l∨i<k+1:=by
   rcases hi with h|h
   ·by_cases e:i≤k
    ·exact .inr (by omega)
    ·left
     rw [show i-k=i-(k+1)+1 by omega,List.getElem?_cons_succ]at h
     exact h
   ·exact .inr (by omega)
  unfold edgeGo
  by_cases h0:k=i∨cmpL l m=0
  ·rw [if_pos h0]
   have hml:m=l:=by
    rcases h0 with h0|h0
    ·rcases hi with h|h
     ·rw [h0,Nat.sub_self]at h;simpa using h
     ·omega
    ·exact(cmpL_zero.1 h0).symm
   obtain⟨a,b⟩:=edgeGo_ok hl i c (k+1) s hs hi'
   refine⟨fun h=>⟨fun t=>?_,(a h).2⟩,fun h t ht=>?_⟩
   ·rw [(a h).1 t]
    constructor
    ·rintro ⟨h1,h2⟩
     refine⟨h1,fun m' hm' hne=>?_⟩
     rcases List.mem_cons.1 hm' with e|e
     ·exact absurd (e.trans hml) hne
     ·exact h2 m' e hne
    ·rintro ⟨h1,h2⟩
     exact⟨h1,fun m' hm'=>h2 m' (List.mem_cons_of_mem _ hm')⟩
   ·obtain⟨m',h1,h2⟩:=b h t ht
    exact⟨m',List.mem_cons_of_mem _ h1,h2⟩
  ·rw [if_neg h0]
   rw [not_or,cmpL_zero]at h0
   have hne:m≠l:=fun e=>h0.2 e.symm
   by_cases hd:detL l m=0
   ·rw [if_pos hd]
    have hv:=val_par hd
    by_cases hsd:0<sideL m (baseL l)
    ·rw [if_pos hsd]
     have hsd':0<valL m (baseL l):=rsign_pos.1 hsd
     obtain⟨a,b⟩:=edgeGo_ok hl i c (k+1) s hs hi'
     refine⟨fun h=>⟨fun t=>?_,(a h).2⟩,fun h t ht=>?_⟩
     ·rw [(a h).1 t]
      constructor
      ·rintro ⟨h1,h2⟩
       refine⟨h1,fun m' hm' hne=>?_⟩
       rcases List.mem_cons.1 hm' with e|e
       ·rw [e,hv];exact hsd'
       ·exact h2 m' e hne
      ·rintro ⟨h1,h2⟩
       exact⟨h1,fun m' hm'=>h2 m' (List.mem_cons_of_mem _ hm')⟩
     ·obtain⟨m',h1,h2⟩:=b h t ht
      exact⟨m',List.mem_cons_of_mem _ h1,h2⟩
    ·rw [if_neg hsd]
     refine⟨fun h=>(by cases h),fun _ t _=>⟨m,List.mem_cons_self,hne,?_⟩⟩
     rw [hv]
     exact Rat.not_lt.1 fun k=>hsd (rsign_pos.2 k)
   ·rw [if_neg hd]
    have hst:=edgeStep_in hl hd s
    cases hb:spBad (edgeStep l m s)with
    |true =>
     rw [if_pos rfl]
     refine⟨fun h=>(by cases h),fun _ t ht=>⟨m,List.mem_cons_self,hne,Rat.not_lt.1 fun k=>?_⟩⟩
     rw [spBad_in ((hst t).2 ⟨ht,k⟩)]at hb;cases hb
    |false =>
     rw [if_neg (by decide)]
     obtain⟨a,b⟩:=edgeGo_ok hl i c (k+1) (edgeStep l m s) ⟨_,sample_in hb⟩ hi'
     refine⟨fun h=>⟨fun t=>?_,(a h).2⟩,fun h t ht=>?_⟩
     ·rw [(a h).1 t,hst]
      constructor
      ·rintro ⟨⟨h1,h3⟩,h2⟩
       refine⟨h1,fun m' hm' hne=>?_⟩
       rcases List.mem_cons.1 hm' with e|e
       ·rw [e];exact h3
       ·exact h2 m' e hne
      ·rintro ⟨h1,h2⟩
       exact⟨⟨h1,h2 m List.mem_cons_self hne⟩,fun m' hm'=>h2 m' (List.mem_cons_of_mem _ hm')⟩
     ·by_cases hm:0<valL m (atL l t)
      ·obtain⟨m',h1,h2⟩:=b h t ((hst t).2 ⟨ht,hm⟩)
       exact⟨m',List.mem_cons_of_mem _ h1,h2⟩
      ·exact⟨m,List.mem_cons_self,hne,Rat.not_lt.1 hm⟩
theorem edgeC_t {c:List Li}{i:Nat}{l:Li}(hl:l.ok) (hi:c[i]? = some l) (h:(edgeC c i).2=true):(∀t,InS (edgeC c i).1 t↔∀m∈c,m≠l→0<valL m (atL l t))∧∃t,InS (edgeC c i).1 t:=by
 have e:c.getD i ⟨0,0,0⟩=l:=by rw [List.getD_eq_getElem?_getD,hi];rfl
 unfold edgeC at h⊢
 rw [e]at h⊢
 obtain⟨a,b⟩:=(edgeGo_ok hl i c 0 Spn.full ⟨0, .inl rfl, .inl rfl⟩ (.inl (by rw [Nat.sub_zero];exact hi))).1 h
 exact⟨fun t=>(a t).trans ⟨fun h=>h.2,fun h=>⟨⟨.inl rfl, .inl rfl⟩,h⟩⟩,b⟩
theorem edgeC_edg {c:List Li}{i:Nat}{l:Li}(hl:l.ok) (hi:c[i]? = some l):(edgeC c i).2=true↔Edg c l:=by
 constructor
 ·intro h
  obtain⟨a,t,b⟩:=edgeC_t hl hi h
  exact⟨atL l t,at_on hl t,(a t).1 b⟩
 ·rintro ⟨r,h1,h2⟩
  cases h:(edgeC c i).2 with
  |true=>rfl
  |false =>
   have e:c.getD i ⟨0,0,0⟩=l:=by rw [List.getD_eq_getElem?_getD,hi];rfl
   unfold edgeC at h
   rw [e]at h
   obtain⟨m,hm,hne,hv⟩:=(edgeGo_ok hl i c 0 Spn.full ⟨0, .inl rfl, .inl rfl⟩ (.inl (by rw [Nat.sub_zero];exact hi))).2 h (parL l r) ⟨.inl rfl, .inl rfl⟩
   rw [at_par hl h1]at hv
   exact absurd (h2 m hm hne) (Rat.not_lt.2 hv)
theorem halfP_sgn (v:Pq):halfP v=if v.1.num.sign=0∧v.2.num.sign=0 then 0 else if 0<v.2.num.sign∨v.2.num.sign=0∧0<v.1.num.sign then 1 else 2:=by
 unfold halfP
 simp only [rsign_zero,rsign_pos]
theorem add_lin (a:Li) (p v:Pq) (t:Rat):valL a (addP p t v)=valL a p+t*(valL a (addP p 1 v)-valL a p):=by unfold valL addP;simp only;grind
theorem val_norm (a l:Li) (p:Pq):valL a (addP p 1 (-(dirL l).2,(dirL l).1))-valL a p=(a.a:Rat)*l.a+a.b*l.b:=by unfold valL addP dirL;simp only;grind
theorem near_half {V K:Rat}(hV:0<V) (hK:K<0):0 < -(V/K)∧∀s,0<s→s≤-(V/K)/2→0<V+s*K:=by
 obtain⟨u,hu⟩:∃u,u = -(V/K):=⟨_,rfl⟩
 have e:u * -K=V:=by rw [hu,Rat.neg_mul,Rat.mul_neg,Rat.neg_neg];exact Rat.div_mul_cancel (by grind)
 rw [←hu]
 clear hu
 have h0:0<u:=by
  rcases Rat.le_total (a:=u) (b:=0)with k|k
  ·have:=Rat.mul_nonneg (show 0≤-u by grind) (show 0≤-K by grind)
   grind
  ·by_cases e':u=0
   ·rw [e']at e;grind
   ·grind
 refine⟨h0,fun s hs h=>?_⟩
 have:=Rat.mul_nonneg (show 0≤u/2-s by grind) (show 0≤-K by grind)
 have e2:u/2 * -K=V/2:=by grind
 grind
theorem nearStep_le (p v:Pq) (s:Rat) (a:Li) (hs:0<s):0<nearStep p v s a∧nearStep p v s a≤s∧(valL a p≠0→valL a (addP p 1 v)-valL a p≠0→0 < -(valL a p/(valL a (addP p 1 v)-valL a p))→nearStep p v s a≤-(valL a p/(valL a (addP p 1 v)-valL a p))/2):=by
 unfold nearStep sideL
 generalize -(valL a p/(valL a (addP p 1 v)-valL a p))=u
 generalize valL a (addP p 1 v)-valL a p=k
 split
 ·rename_i h
  rw [rsign_zero,rsign_zero]at h
  exact⟨hs,Rat.le_refl,fun a b _=>(h.elim b a).elim⟩
 ·split
  ·rename_i h
   rw [rsign_pos,rsign_neg]at h
   exact⟨by grind,by grind,fun _ _ _=>Rat.le_refl⟩
  ·rename_i h
   rw [rsign_pos,rsign_neg]at h
   exact⟨hs,Rat.le_refl,fun _ _ h'=>by grind⟩
theorem nearFold (p v:Pq):∀(c:List Li) (s:Rat),0<s→0<c.foldl (nearStep p v) s∧c.foldl (nearStep p v) s≤s∧∀a∈c,valL a p≠0→valL a (addP p 1 v)-valL a p≠0→0 < -(valL a p/(valL a (addP p 1 v)-valL a p))→c.foldl (nearStep p v) s≤-(valL a p/(valL a (addP p 1 v)-valL a p))/2
 | [],s,hs=>⟨hs,Rat.le_refl,fun a h=>by cases h⟩
 |m::c,s,hs=>by
  obtain⟨a1,a2,a3⟩:=nearStep_le p v s m hs
  obtain⟨b1,b2,b3⟩:=nearFold p v c _ a1
  rw [List.foldl_cons]
  refine⟨b1,Rat.le_trans b2 a2,fun a ha h1 h2 h3=>?_⟩
  rcases List.mem_cons.1 ha with e|e
  ·rw [e]at h1 h2 h3⊢
   exact Rat.le_trans b2 (a3 h1 h2 h3)
  ·exact b3 a e h1 h2 h3
theorem innerAt_inn {c:List Li}{i:Nat}{l:Li}(hl:l.ok) (hi:c[i]? = some l) (h:(edgeC c i).2=true):Inn c (innerAt c i l):=fun m hm=>by
 obtain⟨a,t,b⟩:=edgeC_t hl hi h
 have hs:=sample_in (spBad_in b)
 unfold innerAt nearP
 obtain⟨p,hp⟩:∃p,p=atL l (sampleS (edgeC c i).1):=⟨_,rfl⟩
 have hz:valL l p=0:=by rw [hp];exact at_on hl _
 have hv:=(a _).1 hs
 rw [←hp]at hv⊢
 obtain⟨n1,_,n3⟩:=nearFold p (-(dirL l).2,(dirL l).1) c 1 (by decide)
 rw [add_lin]
 by_cases hml:m=l
 ·rw [hml,val_norm,hz,Rat.zero_add]
  exact Rat.mul_pos n1 (nrm_pos hl)
 ·have h1:=hv m hm hml
  have h3:=n3 m hm (fun e=>by rw [e]at h1;exact absurd h1 (by decide))
  generalize List.foldl (nearStep p (-(dirL l).2,(dirL l).1)) 1 c=s at *
  generalize valL m (addP p 1 (-(dirL l).2,(dirL l).1))-valL m p=k at *
  by_cases hk:k<0
  ·obtain⟨g1,g2⟩:=near_half h1 hk
   exact g2 s n1 (h3 (by grind) g1)
  ·have:=Rat.mul_nonneg (Rat.le_of_lt n1) (Rat.not_lt.1 hk)
   grind
theorem innerGo_ok {c:List Li}(hc:∀l∈c,l.ok):∀(d:List Li) (i:Nat),(∀k l,d[k]? = some l→c[i+k]? = some l)→
  (∀p,innerGo c i d=some p→Inn c p)∧(innerGo c i d=none→∀l∈d,¬Edg c l)
 | [],_,_=>⟨fun p h=>(by cases h),fun _ l h=>(by cases h)⟩
 |l::d,i,hd=>by
  have hi:c[i]? = some l:=by have:=hd 0 l rfl;simpa using this
  have hl:l.ok:=hc l (List.mem_of_getElem? hi)
  unfold innerGo
  cases h:(edgeC c i).2 with
  |true =>
   rw [if_pos rfl]
   exact⟨fun p e=>(Option.some.inj e)▸innerAt_inn hl hi h,fun e=>(by cases e)⟩
  |false =>
   rw [if_neg (by decide)]
   obtain⟨a,b⟩:=innerGo_ok hc d (i+1) (fun k l h=>by rw [show i+1+k=i+(k+1) by omega];exact hd (k+1) l (by rw [List.getElem?_cons_succ];exact h))
   refine⟨a,fun e l' hl'=>?_⟩
   rcases List.mem_cons.1 hl' with e'|e'
   ·rw [e',←edgeC_edg hl hi,h];decide
   ·exact b e l' e'
theorem innerC_inn {c:List Li}(hc:∀l∈c,l.ok){p:Pq}(h:innerC c=some p):Inn c p:=by
 unfold innerC at h
 split at h
 ·rename_i e
  rw [e];intro l hl;cases hl
 ·exact(innerGo_ok hc c 0 (fun k l h=>by rw [Nat.zero_add];exact h)).1 p h
theorem innerC_some {c:List Li}(hc:∀l∈c,l.ok):(innerC c).isSome=true↔∃q,Inn c q:=by
 constructor
 ·intro h
  obtain⟨p,hp⟩:=Option.isSome_iff_exists.1 h
  exact⟨p,innerC_inn hc hp⟩
 ·rintro ⟨q,hq⟩
  by_cases e:c=[]
  ·unfold innerC;rw [if_pos e];rfl
  ·cases h:innerC c with
   |some p=>rfl
   |none =>
    unfold innerC at h
    rw [if_neg e]at h
    obtain⟨m,hm,hE⟩:=Inn.edge hc hq e
    exact absurd hE ((innerGo_ok hc c 0 (fun k l h=>by rw [Nat.zero_add];exact h)).2 h m hm)
theorem canon_fold (c:List Li):∀(l:List Nat) (out:List Li) (y:Li),y∈l.foldl (canonStep c) out↔(∃i∈l,(edgeC c i).2=true∧y=c.getD i ⟨0,0,0⟩)∨y∈out
 | [],out,y=>by simp
 |i::l,out,y=>by
  rw [List.foldl_cons,canon_fold c l]
  unfold canonStep
  cases h:(edgeC c i).2 with
  |true =>
   rw [if_pos rfl,insB_mem]
   constructor
   ·rintro (⟨j,hj,h1,h2⟩|h1|h1)
    ·exact .inl ⟨j,List.mem_cons_of_mem _ hj,h1,h2⟩
    ·exact .inl ⟨i,List.mem_cons_self,h,h1⟩
    ·exact .inr h1
   ·rintro (⟨j,hj,h1,h2⟩|h1)
    ·rcases List.mem_cons.1 hj with e|e
     ·rw [e]at h2;exact .inr (.inl h2)
     ·exact .inl ⟨j,e,h1,h2⟩
    ·exact .inr (.inr h1)
  |false =>
   rw [if_neg (by decide)]
   constructor
   ·rintro (⟨j,hj,h1,h2⟩|h1)
    ·exact .inl ⟨j,List.mem_cons_of_mem _ hj,h1,h2⟩
    ·exact .inr h1
   ·rintro (⟨j,hj,h1,h2⟩|h1)
    ·rcases List.mem_cons.1 hj with e|e
     ·rw [e,h]at h1;cases h1
     ·exact .inl ⟨j,e,h1,h2⟩
    ·exact .inr h1
theorem canonC_mem {c:List Li}(hc:∀l∈c,l.ok){y:Li}:y∈canonC c↔y∈c∧Edg c y:=by
 unfold canonC
 rw [canon_fold]
 constructor
 ·rintro (⟨i,hi,h1,h2⟩|h)
  ·have hi:=List.mem_range.1 hi
   have e:=List.getElem?_eq_getElem hi
   have e2:c.getD i ⟨0,0,0⟩=c[i]:=by rw [List.getD_eq_getElem?_getD,e];rfl
   have hm:c[i]∈c:=List.getElem_mem hi
   rw [h2,e2]
   exact⟨hm,(edgeC_edg (hc _ hm) e).1 h1⟩
  ·cases h
 ·rintro ⟨h1,h2⟩
  obtain⟨i,hi,e⟩:=List.mem_iff_getElem.1 h1
  have e1:c[i]? = some y:=by rw [List.getElem?_eq_getElem hi,e]
  exact .inl ⟨i,List.mem_range.2 hi,(edgeC_edg (hc y h1) e1).2 h2,by rw [List.getD_eq_getElem?_getD,e1];rfl⟩
theorem canonC_inn {c:List Li}(hc:∀l∈c,l.ok) (hn:∃q,Inn c q) (p:Pq):Inn (canonC c) p↔Inn c p:=by
 obtain⟨q,hq⟩:=hn
 exact⟨fun h=>Inn.kept hc hq (fun m hm he=>(canonC_mem hc).2 ⟨hm,he⟩) h,fun h l hl=>h l ((canonC_mem hc).1 hl).1⟩
theorem neg_val (l:Li) (p:Pq):valL l.neg p = - valL l p:=by
 unfold valL Li.neg;simp only [Rat.intCast_neg];grind
theorem Li.ok.neg {l:Li}(h:l.ok):l.neg.ok:=by
 refine⟨?_,?_⟩
 ·show Nat.gcd (Nat.gcd (-l.a).natAbs (-l.b).natAbs) (-l.c).natAbs=1
  rw [Int.natAbs_neg,Int.natAbs_neg,Int.natAbs_neg];exact h.1
 ·rcases h.2 with k|k
  ·left;show -l.a≠0;omega
  ·right;show -l.b≠0;omega
def Lft (I:Pq→Prop) (l:Li):Prop:=∃q,I q∧0<valL l q
def Rgt (I:Pq→Prop) (l:Li):Prop:=∃q,I q∧valL l q<0
theorem snoc_inn {c:List Li}{l:Li}{q:Pq}:Inn (c++[l]) q↔Inn c q∧0<valL l q:=by
 unfold Inn
 constructor
 ·intro h
  exact⟨fun m hm=>h m (List.mem_append_left _ hm),h l (List.mem_append_right _ List.mem_cons_self)⟩
 ·rintro ⟨h1,h2⟩ m hm
  rcases List.mem_append.1 hm with hm|hm
  ·exact h1 m hm
  ·rw [List.mem_singleton]at hm;rw [hm];exact h2
theorem snoc_ok {c:List Li}{l:Li}(hc:∀l∈c,l.ok) (hl:l.ok):∀m∈c++[l],m.ok:=fun m hm=>by
 rcases List.mem_append.1 hm with hm|hm
 ·exact hc m hm
 ·rw [List.mem_singleton]at hm;rw [hm];exact hl
theorem inner_left {c:List Li}{l:Li}(hc:∀l∈c,l.ok) (hl:l.ok):(innerC (c++[l])).isSome=true↔Lft (Inn c) l:=by
 rw [innerC_some (snoc_ok hc hl)]
 exact⟨fun⟨q,h⟩=>⟨q,snoc_inn.1 h⟩,fun⟨q,h⟩=>⟨q,snoc_inn.2 h⟩⟩
theorem inner_right {c:List Li}{l:Li}(hc:∀l∈c,l.ok) (hl:l.ok):(innerC (c++[l.neg])).isSome=true↔Rgt (Inn c) l:=by
 rw [inner_left hc hl.neg]
 unfold Lft Rgt
 have:∀q,0<valL l.neg q↔valL l q<0:=fun q=>by rw [neg_val];grind
 simp only [this]
theorem Inn.side {c:List Li}{l:Li}(hl:l.ok){q:Pq}(hq:Inn c q):Lft (Inn c) l∨Rgt (Inn c) l:=by
 by_cases h:valL l q<0
 ·exact .inr ⟨q,hq,h⟩
 ·obtain⟨e,he,hs⟩:=smallE (fun j=>valL j q) (fun j=>(j.a:Rat)*l.a+j.b*l.b) c hq
  refine .inl ⟨(q.1+e*l.a,q.2+e*l.b),fun j hj=>by rw [val_nudge];exact hs j hj e he Rat.le_refl,?_⟩
  rw [val_nudge]
  have:=Rat.mul_pos he (nrm_pos hl)
  grind
theorem placeC_spec {c:List Li}{l:Li}(hc:∀l∈c,l.ok) (hl:l.ok) :
  (placeC c l=0↔Lft (Inn c) l∧Rgt (Inn c) l)∧(placeC c l=1↔Lft (Inn c) l∧¬Rgt (Inn c) l)∧(placeC c l = -1↔¬Lft (Inn c) l):=by
 have h1:=inner_left hc hl
 have h2:=inner_right hc hl
 unfold placeC
 cases e1:(innerC (c++[l])).isSome with
 |true =>
  cases e2:(innerC (c++[l.neg])).isSome with
  |true =>
   have a:=h1.1 e1
   have b:=h2.1 e2
   simp [a,b]
  |false =>
   have a:=h1.1 e1
   have b:¬Rgt (Inn c) l:=fun h=>by have:=h2.2 h;rw [e2]at this;cases this
   simp [a,b]
 |false =>
  have a:¬Lft (Inn c) l:=fun h=>by have:=h1.2 h;rw [e1]at this;cases this
  simp [a]
end Go.Ab
