/- Texts laid one behind the other: Ex, TapeB, Tree, RTree, RTreeW, RTreeS, LateC, TreeB, AffT. -/
import Derived.Test.YtgiifnbebppbgaaGreatDoorB03
import Derived.Test.YtgiifnbebppbgaaGreatDoorB15
import Derived.Test.YtgiifnbebppbgaaGreatDoorB13
import Derived.Test.YtgiifnbebppbgaaGreatDoorLate
set_option linter.unusedSectionVars false
set_option linter.unusedVariables false
set_option linter.unusedSimpArgs false
namespace Go.Ab
open Go.Proofs
variable [Base]
section
variable {P:Program}{F:Fr}{H:LH}{ty:TypeId}
theorem ArgsOk.exAt {m:Mem}{α:Type}{g:α→SV}:∀{pre post:List SV}{vs:List Value},ArgsOk m (pre++ex g::post) vs→∃x,ArgsOk m (pre++g x::post) vs
 | [],_,[],h=>h.elim
 | [],_,v::vs,h=>by
  have h1:=h.1
  unfold ex at h1
  obtain⟨x,hx⟩:=h1
  exact⟨x,hx,h.2⟩
 |_::_,_,[],h=>h.elim
 |s::pre,post,v::vs,h=>by
  obtain⟨x,hx⟩:=ArgsOk.exAt (pre:=pre) (post:=post) h.2
  exact⟨x,h.1,hx⟩
theorem ex_mk {α:Type}{m:Mem}{v:Value}{g:α→SV}(x:α) (h:(g x).p m v):(ex g).p m v:=by unfold ex;exact⟨x,h⟩
theorem Le.exL {α:Type}{g:α→SV}{s:SV}(h:∀x,Le (g x) s):Le (Ab.ex g) s:=fun m v hv=>by
 unfold Ab.ex at hv
 obtain⟨x,hx⟩:=hv
 exact h x m v hx
theorem Pu.exAt {f:FuncId}{α:Type}(pre post:List SV){g r:α→SV}(x0:α) (h:∀x,Pu P f (pre++g x::post) (r x)):Pu P f (pre++ex g::post) (ex r):=by
 unfold Pu at *
 exact⟨(h x0).1,fun m w vs hm ha=>by
  obtain⟨x,hx⟩:=ha.exAt
  exact((h x).2 m w vs hm hx).mono fun _ _ ⟨v,m',e,hp,k⟩=>⟨v,m',e,ex_mk x hp,k⟩⟩
theorem OpV.mono' {op:Op}{s s':SV}(h:OpV P op ty F H s) (k:Le s s'):OpV P op ty F H s':=by
 unfold OpV at *
 exact fun m w o a ho hty h1 h2 h3 K Q hK=>h m w o a ho hty h1 h2 h3 K Q fun v m' w' hp=>hK v m' w' (k _ _ hp)
theorem OpV.exc {op:Op}{α:Type}(t:Nat){f:α→SV}{s:SV}(x0:α) (hf:F t=ex f) (h:∀x,OpV P op ty (upd F t (f x)) H s):OpV P op ty F H s:=by
  unfold OpV at *
  intro m w o a ho hty h1 h2 h3 K Q hK
  have key:∃x:α,(.tmp t∈op.operands→(f x).p m (a.eval (.tmp t))):=by
   by_cases ht : .tmp t∈op.operands
   ·have h0:=h3 t ht
    rw [hf]at h0
    unfold ex at h0
    obtain⟨x,hx⟩:=h0
    exact⟨x,fun _=>hx⟩
   ·exact⟨x0,fun k=>(ht k).elim⟩
  obtain⟨x,hx⟩:=key
  refine h x m w o a ho hty h1 h2 (fun t' ht'=>?_) K Q hK
  by_cases e:t'=t
  ·subst e;rw [upd_eq];exact hx ht'
  ·rw [upd_ne e];exact h3 t' ht'
theorem OpV.exd {op:Op}{α:Type}(t:Nat){f g:α→SV}(x0:α) (hf:F t=ex f) (h:∀x,OpV P op ty (upd F t (f x)) H (g x)):OpV P op ty F H (ex g) :=
 OpV.exc t x0 hf fun x=>(h x).mono' fun _ _ hp=>ex_mk x hp
end
theorem rsame_pu (x y u v:Rat) (hx:ht x≤3000000) (hy:ht y≤3000000) (hu:ht u≤3000000) (hv:ht v≤3000000):Pu Tryz.prog 138 [rp x y,rp u v] (lit (.bool (decide (x=u∧y=v)))):=by
 have c1:=rc_pu x u hx hu
 have c2:=rc_pu y v hy hv
 have e1:=sub_sign_zero (x:=x) (y:=u)
 have e2:=sub_sign_zero (x:=y) (y:=v)
 generalize(x-u).num.sign=s at *
 generalize(y-v).num.sign=t at *
 clear hx hy hu hv
 by_cases h1:x=u
 ·have hs:=e1.2 h1
  by_cases h2:y=v
  ·have ht:=e2.2 h2
   rw [decide_eq_true ⟨h1,h2⟩]
   clear e1 e2
   subst hs ht
   refine Pu.intro Tryz.func138 rfl (by kernel_rfl) fun C=>?_
   repeat(first|(refine A1 ⟨?_⟩;intros)|refine W4 c1 ⟨?_⟩|refine W4 c2 ⟨?_⟩)
   exact E1
  ·have ht:t≠0:=fun e=>h2 (e2.1 e)
   rw [decide_eq_false (fun h=>h2 h.2)]
   clear e1 e2
   subst hs
   refine Pu.intro Tryz.func138 rfl (by kernel_rfl) fun C=>?_
   repeat(first|(refine A1 ⟨?_⟩;intros)|refine W4 c1 ⟨?_⟩|refine W4 c2 ⟨?_⟩)
   exact E1
 ·have hs:s≠0:=fun e=>h1 (e1.1 e)
  rw [decide_eq_false (fun h=>h1 h.1)]
  clear e1 e2
  refine Pu.intro Tryz.func138 rfl (by kernel_rfl) fun C=>?_
  repeat(first|(refine A1 ⟨?_⟩;intros)|refine W4 c1 ⟨?_⟩|refine W4 c2 ⟨?_⟩)
  exact E1
abbrev intP:SV:=ex fun p:{p:Int×Int // p.1.natAbs≤4∧p.2.natAbs≤4}=>rp (p.1.1:Rat) (p.1.2:Rat)
abbrev intV:SV:=ex fun p:{p:Int×Int // (p.1.natAbs≤4∧p.2.natAbs≤4)∧(p.1≠0∨p.2≠0)}=>rp (p.1.1:Rat) (p.1.2:Rat)
theorem tp_pu (zs:List Int) (hz:zs.length≤400):PuT 72 zs [] intP:=by
 refine PuM.intro Tryz.func72 rfl (by kernel_rfl) fun C b=>?_
 repeat(refine A1 ⟨?_⟩;intros)
 refine Wtx (next_pu zs hz 9 (by omega) (by omega)) mmA fun x=>?_
 obtain⟨x,hx⟩:=x
 simp only []
 repeat(refine A1 ⟨?_⟩;intros)
 refine Wtx (next_pu zs hz 9 (by omega) (by omega)) mmA fun y=>?_
 obtain⟨y,hy⟩:=y
 simp only []
 repeat(first|(refine A1 ⟨?_⟩;intros)|refine W4 (xy_pu ((x:Int)-4) ((y:Int)-4) (by omega) (by omega) (by omega) (by omega)) ⟨?_⟩)
 exact endMR () _ (end1 (RV.cellA rfl mmA rfl rfl) (Le.ex ⟨((x:Int)-4,(y:Int)-4),by simp only;omega,by simp only;omega⟩ (Le.refl _))) mmA (LeL.refl _)
theorem ht_i (z:Int) (h:z.natAbs≤1000):ht (z:Rat)≤1:=ht_int z (by omega)
theorem leZP:LeL [ag [lit (.bool false),lit (.slice none 0 0),lit (.slice none 0 0),lit (.bool false),lit (.slice none 0 0),lit (.slice none 0 0)]] [rp 0 0] :=
 ⟨Le.ag (by repeat(first|exact trivial|refine⟨?_,?_⟩|exact Le.refl _|exact leN0|exact leD0)),trivial⟩
theorem int_zero {z:Int}:((z:Rat)=0)↔z=0:=by constructor <;> intro h <;> exact_mod_cast h
theorem tv_pu (zs:List Int) (hz:zs.length≤400):PuT 75 zs [] intV:=by
 refine PuM.intro Tryz.func75 rfl (by kernel_rfl) fun C b=>?_
 repeat(refine A1 ⟨?_⟩;intros)
 refine Wtx (tp_pu zs hz) mmA fun p=>?_
 obtain⟨⟨x,y⟩,hx,hy⟩:=p
 simp only at hx hy
 simp only []
 have h0:=ht_zero
 have hx':=ht_i x (by omega)
 have hy':=ht_i y (by omega)
 have c1:=(rsame_pu x y 0 0 (by omega) (by omega) (by omega) (by omega)).arg (l':=[rp x y,ag [lit (.bool false),lit (.slice none 0 0),lit (.slice none 0 0),lit (.bool false),lit (.slice none 0 0),lit (.slice none 0 0)]]) ⟨Le.refl _,leZP⟩
 have c2:=xy_pu 1 0 (by omega) (by omega) (by omega) (by omega)
 by_cases h:x=0∧y=0
 ·rw [decide_eq_true (show(x:Rat)=0∧(y:Rat)=0 from⟨int_zero.2 h.1,int_zero.2 h.2⟩)]at c1
  clear h hx' hy' h0
  repeat(first|(refine A1 ⟨?_⟩;intros)|refine W4 c1 ⟨?_⟩|refine W4 c2 ⟨?_⟩)
  exact endMR () _ (end1 (RV.cellA rfl mmA rfl rfl) (Le.ex ⟨(1,0),by decide,by decide⟩ (Le.refl _))) mmA (LeL.refl _)
 ·rw [decide_eq_false (show¬((x:Rat)=0∧(y:Rat)=0)from fun e=>h ⟨int_zero.1 e.1,int_zero.1 e.2⟩)]at c1
  have hv:x≠0∨y≠0:=by omega
  clear h hx' hy' h0
  repeat(first|(refine A1 ⟨?_⟩;intros)|refine W4 c1 ⟨?_⟩|refine W4 c2 ⟨?_⟩)
  exact endMR () _ (end1 (RV.cellA rfl mmA rfl rfl) (Le.ex ⟨(x,y),⟨hx,hy⟩,hv⟩ (Le.refl _))) mmA (LeL.refl _)
abbrev smallL:SV:=ex fun l:{l:Li // l.ok∧l.le 1}=>lq l.1
theorem thr_int (x y u v:Int):thr x y ((x:Rat)+1*u) ((y:Rat)+1*v)=prim ((-v:Int):Rat) ((u:Int):Rat) ((v*x-u*y:Int):Rat):=by
 unfold thr
 push_cast
 congr 1 <;> grind
theorem il_le (z:Int) (h:z.natAbs≤1000):il z≤1:=len_le (k:=1) (by simp;omega)
theorem mul_le4 {a b:Int}(ha:a.natAbs≤4) (hb:b.natAbs≤4):(a*b).natAbs≤16:=by rw [Int.natAbs_mul];exact Nat.mul_le_mul ha hb
theorem lthr_pu {x y u v:Int}(hx:x.natAbs≤4) (hy:y.natAbs≤4) (hu:u.natAbs≤4) (hv:v.natAbs≤4) (hne:u≠0∨v≠0) :
  (∃l:Li,l.ok∧l.le 1∧l=thr x y ((x:Rat)+1*u) ((y:Rat)+1*v))∧Pu Tryz.prog 74 [rp x y,rq 1,rp u v] (rp ((x:Rat)+1*u) ((y:Rat)+1*v))∧
  Pu Tryz.prog 73 [rp x y,rp ((x:Rat)+1*u) ((y:Rat)+1*v)] (Ab.tup [lq (thr x y ((x:Rat)+1*u) ((y:Rat)+1*v)),lit (.bool true)]):=by
 have hx':=ht_i x (by omega)
 have hy':=ht_i y (by omega)
 have hu':=ht_i u (by omega)
 have hv':=ht_i v (by omega)
 have h1:=ht_one
 have a:=gadd_pu x y 1 u v (by omega) (by omega) (by omega) (by omega) (by omega)
 have k1:=ht_mul 1 (u:Rat)
 have k2:=ht_mul 1 (v:Rat)
 have k3:=ht_add (x:Rat) (1*u)
 have k4:=ht_add (y:Rat) (1*v)
 have t:=through_pu (x:=x) (y:=y) (u:=(x:Rat)+1*u) (v:=(y:Rat)+1*v) (L:=10) (by omega) (by omega) (by omega) (by omega) (by omega) (by
  rw [show(x:Rat)+1*u-x=u from by grind,show(y:Rat)+1*v-y=v from by grind]
  rcases hne with h|h
  ·exact .inl fun e=>h (int_zero.1 e)
  ·exact .inr fun e=>h (int_zero.1 e))
 refine⟨?_,a,t⟩
 rw [thr_int]
 have hne' : -v≠0∨u≠0:=by omega
 have hm1:=mul_le4 hv hx
 have hm2:=mul_le4 hu hy
 have hok:(prim ((-v:Int):Rat) ((u:Int):Rat) ((v*x-u*y:Int):Rat)).ok:=prim_ok (by
  rcases hne' with h|h
  ·exact .inl fun e=>h (int_zero.1 e)
  ·exact .inr fun e=>h (int_zero.1 e))
 obtain⟨q1,q2,q3⟩:=prim_abs (v*x-u*y) hne'
 generalize v*x=e1 at *
 generalize u*y=e2 at *
 exact⟨_,hok,⟨il_le _ (by omega),il_le _ (by omega),il_le _ (by omega)⟩,rfl⟩
theorem tl_pu (zs:List Int) (hz:zs.length≤400):PuT 23 zs [] smallL:=by
 refine PuM.intro Tryz.func23 rfl (by kernel_rfl) fun C b=>?_
 repeat(refine A1 ⟨?_⟩;intros)
 refine Wtx (tp_pu zs hz) mmA fun p=>?_
 obtain⟨⟨x,y⟩,hx,hy⟩:=p
 simp only at hx hy
 simp only []
 have x0:{p:Int×Int // (p.1.natAbs≤4∧p.2.natAbs≤4)∧(p.1≠0∨p.2≠0)}:=⟨(1,0),by decide,by decide⟩
 repeat(first|(refine A1 ⟨?_⟩;intros)|refine W4 rof1 ⟨?_⟩)
 refine Wdo (ov_callT (tv_pu zs hz) rfl mmA) ?_
 refine Wdc (Pu.exAt [rp x y,rq 1] [] x0 fun v=>(lthr_pu hx hy v.2.1.1 v.2.1.2 v.2.2).2.1) ?_
 refine Wdc (Pu.exAt [rp x y] [] x0 fun v=>(lthr_pu hx hy v.2.1.1 v.2.1.2 v.2.2).2.2) ?_
 refine Wdo (OpV.exd 15 x0 rfl fun v=>Ov0) ?_
 refine Wdo (OpV.exd 8 x0 rfl fun v=>Ov0) ?_
 refine Wdo (OpV.exc 8 x0 rfl fun v=>Ov0) ?_
 repeat(refine A1 ⟨?_⟩;intros)
 refine WPL.exd (d:=16) rfl fun v=>?_
 obtain⟨⟨l,hok,hle,e⟩,_⟩:=lthr_pu hx hy v.2.1.1 v.2.1.2 v.2.2
 rw [←e]
 repeat(refine A1 ⟨?_⟩;intros)
 exact endMR () _ (end1 (RV.cellA rfl mmA rfl rfl) (Le.ex ⟨l,hok,hle⟩ (Le.refl _))) mmA (LeL.refl _)
inductive Tr where
 |leaf (i:Bool)
 |node (l:Li) (a b:Tr)
abbrev lfc (a b c:Rat):List SV:=[lit (.int .i64 (r0 a)),lit (.int .i64 (r1 a)),r2 a,lit (.int .i64 (r0 b)),lit (.int .i64 (r1 b)),r2 b,lit (.int .i64 (r0 c)),lit (.int .i64 (r1 c)),r2 c]
def bc:Tr→List SV
 | .leaf i=>[lit (.int .i64 0),lit (.int .i64 0),lit (.pointer none),lit (.int .i64 0),lit (.int .i64 0),lit (.pointer none),lit (.int .i64 0),lit (.int .i64 0),lit (.pointer none),lit (.pointer none),lit (.pointer none),lit (.bool i)]
 | .node l a b=>[lit (.int .i64 (r0 l.a)),lit (.int .i64 (r1 l.a)),r2 l.a,lit (.int .i64 (r0 l.b)),lit (.int .i64 (r1 l.b)),r2 l.b,lit (.int .i64 (r0 l.c)),lit (.int .i64 (r1 l.c)),r2 l.c,pt (bc a),pt (bc b),lit (.bool false)]
theorem bc_leaf (i:Bool):bc (.leaf i)=[lit (.int .i64 0),lit (.int .i64 0),lit (.pointer none),lit (.int .i64 0),lit (.int .i64 0),lit (.pointer none),lit (.int .i64 0),lit (.int .i64 0),lit (.pointer none),lit (.pointer none),lit (.pointer none),lit (.bool i)]:=rfl
theorem bc_node (l:Li) (a b:Tr):bc (.node l a b)=[lit (.int .i64 (r0 l.a)),lit (.int .i64 (r1 l.a)),r2 l.a,lit (.int .i64 (r0 l.b)),lit (.int .i64 (r1 l.b)),r2 l.b,lit (.int .i64 (r0 l.c)),lit (.int .i64 (r1 l.c)),r2 l.c,pt (bc a),pt (bc b),lit (.bool false)]:=rfl
abbrev bt (t:Tr):SV:=pt (bc t)
theorem PuN.toPt {P:Program}{f:FuncId}{T:TypeId}{args cs:List SV}(h:PuN P f T args cs):Pu P f args (pt cs):=by
 unfold Pu
 exact⟨h.1,fun m w vs hm ha=>(h.2 m w vs hm ha).mono fun _ w' ⟨b,m',e,hb,h1,h2,⟨arr,h3,h4⟩,h5⟩=>by
  have hle:m'.le (fun x=>if x=b then w'.heap[b]? else m' x):=fun x o hx=>by
   show(if x=b then w'.heap[b]? else m' x)=some o
   rw [if_neg (fun e=>by rw [e]at hx;rw [h2]at hx;cases hx)];exact hx
  refine⟨_,(fun x=>if x=b then w'.heap[b]? else m' x),e,pub_pt (arr:=arr) (T:=T) _ (by show(if b=b then w'.heap[b]? else m' b)=_;rw [if_pos rfl];exact h3) (h4.mono hle),⟨fun x o hx=>?_,Mem.le_trans h1.base hle⟩,⟨Mem.le_trans h5.le hle,fun x hx hnx=>?_,h5.os,h5.tape,h5.output,h5.size,h5.block⟩⟩
  ·by_cases hxb:x=b
   ·subst hxb;simp only [if_true]at hx;exact hx
   ·simp only [if_neg hxb]at hx;exact h1 x o hx
  ·show(if x=b then w'.heap[b]? else m' x)=_
   rw [if_neg (by omega)];exact h5.old x hx hnx⟩
theorem leaf_pu (i:Bool):Pu Tryz.prog 174 [lit (.bool i)] (bt (.leaf i)):=by
 unfold bt
 rw [bc_leaf]
 apply PuN.toPt (T:=198)
 refine PuN.intro Tryz.func174 rfl (by kernel_rfl) fun C=>?_
 repeat(refine A1 ⟨?_⟩;intros)
 exact endNwR _ _ (end1 (RV.tmp rfl) (Le.refl _)) List.mem_cons_self (LeL.refl _)
theorem isLeaf_leaf (i:Bool):Pu Tryz.prog 111 [bt (.leaf i)] (lit (.bool true)):=by
 unfold bt
 rw [bc_leaf]
 refine Pu.intro Tryz.func111 rfl (by kernel_rfl) fun C=>?_
 repeat(refine A1 ⟨?_⟩;intros)
 exact E1
theorem isLeaf_node (l:Li) (a b:Tr):Pu Tryz.prog 111 [bt (.node l a b)] (lit (.bool false)):=by
 unfold bt
 rw [bc_node]
 refine Pu.intro Tryz.func111 rfl (by kernel_rfl) fun C=>?_
 repeat(refine A1 ⟨?_⟩;intros)
 exact E1
theorem bnew_pu (l:Li) (a b:Tr):Pu Tryz.prog 114 [lf l.a l.b l.c,bt a,bt b] (bt (.node l a b)):=by
 unfold bt
 rw [bc_node]
 apply PuN.toPt (T:=198)
 refine PuN.intro Tryz.func114 rfl (by kernel_rfl) fun C=>?_
 repeat(refine A1 ⟨?_⟩;intros)
 exact endNwR _ _ (end1 (RV.tmp rfl) (Le.refl _)) List.mem_cons_self (LeL.refl _)
def Tr.size:Tr→Nat
 | .leaf _=>0
 | .node _ a b=>1+a.size+b.size
theorem Tr.size_node (l:Li) (a b:Tr):(Tr.node l a b).size=1+a.size+b.size:=rfl
def Tr.root (k:Nat):Tr→Int
 | .leaf true => -2
 | .leaf false => -1
 | .node _ _ _=>k
def nd (l:Li) (i j:Int):List SV:=[lit (.bool (decide (l.a<0))),nat l.a.natAbs,lit (.bool (decide (l.b<0))),nat l.b.natAbs,lit (.bool (decide (l.c<0))),nat l.c.natAbs,lit (.int .i64 i),lit (.int .i64 j)]
def Tr.rows (k:Nat):Tr→List SV
 | .leaf _=>[]
 | .node l a b=>nd l (a.root (k+1)) (b.root (k+1+a.size))++a.rows (k+1)++b.rows (k+1+a.size)
theorem Tr.rows_len:∀(t:Tr) (k:Nat),(t.rows k).length=t.size*8
 | .leaf _,_=>rfl
 | .node _ a b,k=>by simp only [Tr.rows,Tr.size,List.length_append,rows_len a,rows_len b,nd,List.length_cons,List.length_nil];omega
def Tr.all (p:Li→Prop):Tr→Prop
 | .leaf _=>True
 | .node l a b=>p l∧a.all p∧b.all p
instance tyF:TY Tryz.prog 194 1 8 [lit .nilFunc] false:=⟨⟨[.nilFunc],by kernel_rfl,rfl,rfl,rfl⟩,by kernel_rfl⟩
theorem set_mid6 {cs rest:List SV}{k:Nat}{x0 x1 x2 x3 x4 x5 x6 x7 v:SV}(h:cs.length=k):spl (cs++(x0::x1::x2::x3::x4::x5::x6::x7::rest)) (0+k+6) [v]=cs++(x0::x1::x2::x3::x4::x5::v::x7::rest):=by
 subst h
 simp only [spl,Nat.zero_add]
 rw [List.set_append_right _ _ (by omega),Nat.add_sub_cancel_left]
 rfl
theorem set_mid7 {cs rest:List SV}{k:Nat}{x0 x1 x2 x3 x4 x5 x6 x7 v:SV}(h:cs.length=k):spl (cs++(x0::x1::x2::x3::x4::x5::x6::x7::rest)) (0+k+7) [v]=cs++(x0::x1::x2::x3::x4::x5::x6::v::rest):=by
 subst h
 simp only [spl,Nat.zero_add]
 rw [List.set_append_right _ _ (by omega),Nat.add_sub_cancel_left]
 rfl
theorem ble_mid {cs rest:List SV}{k j:Nat}{x0 x1 x2 x3 x4 x5 x6 x7:SV}(h:cs.length=k) (hj:j<8):Nat.ble (0+k+j+1) (cs++(x0::x1::x2::x3::x4::x5::x6::x7::rest)).length=true:=by
 rw [Nat.ble_eq,List.length_append];simp only [List.length_cons];omega
theorem api1_pu:∀(t:Tr) (_:t.all fun l=>l.le 1000000) (out fn n0:Nat) (cs:List SV) (s:SV) (Hs:LH) (_:Own 165 8 n0 cs s Hs) (_:n0+t.size≤1000000) (r0':Int),
  PuH Tryz.prog 110 [bt t,lit (.pointer (some ⟨out,0,none⟩)),lit (.pointer (some ⟨fn,0,none⟩))]
   ((out,47,[lit (.int .i64 r0'),s])::(fn,194,[fnv 110 [] [lit (.pointer (some ⟨out,0,none⟩)),lit (.pointer (some ⟨fn,0,none⟩))]])::Hs)
   (fun r H=>r=lit (.int .i64 (t.root n0))∧∃s' H',Own 165 8 (n0+t.size) (cs++t.rows n0) s' H'∧
    H=(out,47,[lit (.int .i64 r0'),s'])::(fn,194,[fnv 110 [] [lit (.pointer (some ⟨out,0,none⟩)),lit (.pointer (some ⟨fn,0,none⟩))]])::H') noX:=by
 intro t
 induction t with
 |leaf i =>
  intro _ out fn n0 cs s Hs hown _ r0'
  have c1:=isLeaf_leaf i
  have hfin:Own 165 8 (n0+(Tr.leaf i).size) (cs++(Tr.leaf i).rows n0) s Hs:=by
   simpa [Tr.size,Tr.rows] using hown
  unfold bt at *
  rw [bc_leaf]at *
  cases i with
  |true =>
   refine PuH.intro Tryz.func110 rfl (by kernel_rfl) fun C hC=>?_
   repeat(first|(refine A1 ⟨?_⟩;intros)|refine W4 c1 ⟨?_⟩)
   exact endHR _ _ (end1 (RV.tmp rfl) (Le.refl _)) (List.Sublist.refl _) ⟨rfl,_,_,hfin,rfl⟩
  |false =>
   refine PuH.intro Tryz.func110 rfl (by kernel_rfl) fun C hC=>?_
   repeat(first|(refine A1 ⟨?_⟩;intros)|refine W4 c1 ⟨?_⟩)
   exact endHR _ _ (end1 (RV.tmp rfl) (Le.refl _)) (List.Sublist.refl _) ⟨rfl,_,_,hfin,rfl⟩
 |node l a b iha ihb =>
  intro hall out fn n0 cs s Hs hown hsz r0'
  obtain⟨hl,hla,hlb⟩:=hall
  have c1:=isLeaf_node l a b
  have c2:=lapi_pu l hl
  haveI:=hown.co
  rw [Tr.size_node]at hsz
  unfold bt at *
  rw [bc_node]at *
  refine PuH.intro Tryz.func110 rfl (by kernel_rfl) fun C hC=>?_
  repeat(first|(refine A1 ⟨?_⟩;intros)|refine W4 c1 ⟨?_⟩)
  refine Wo (ov_lenOwn hown rfl) ?_
  repeat(first|(refine AS ⟨?_⟩;intros)|(refine O1 ⟨?_⟩;intros)|(refine Wcx (c1) ?_)|(refine Wcgx (c1) ?_))
  refine WdN 9 ?_
  repeat(first|(refine A1 ⟨?_⟩;intros)|refine W4 c2 ⟨?_⟩)
  simp only [List.drop_succ_cons,List.drop_zero]
  refine Wown hown (by omega) (fun s1 H1 o1=>?_)
  have o1':=o1
  obtain⟨_,⟨h1,_⟩|⟨b1,k1,_,_,rfl,rfl⟩⟩:=o1
  ·omega
  simp only [List.cons_append,List.nil_append]
  repeat(first|(refine AS ⟨?_⟩;intros)|(refine O1 ⟨?_⟩;intros)|(refine Wcx (c2) ?_)|(refine Wcgx (c2) ?_))
  refine WdN 5 ?_
  repeat(refine A1 ⟨?_⟩;intros)
  simp only [List.drop_succ_cons,List.drop_zero]
  refine WvT (iha hla out fn (n0+1) _ _ _ o1' (by omega) r0') ?_
  rintro _ _ ⟨rfl,s2,H2,o2,rfl⟩
  have o2':=o2
  obtain⟨_,⟨h2,_⟩|⟨b2,k2,_,_,rfl,rfl⟩⟩:=o2
  ·omega
  simp only [List.cons_append,List.nil_append]
  repeat(first|(refine AS ⟨?_⟩;intros)|(refine O1 ⟨?_⟩;intros)|(refine Wcx (c2) ?_)|(refine Wcgx (c2) ?_))
  refine WdN 5 ?_
  repeat(refine A1 ⟨?_⟩;intros)
  simp only [List.drop_succ_cons,List.drop_zero]
  refine WvT (ihb hlb out fn (n0+1+a.size) _ _ _ o2' (by omega) r0') ?_
  rintro _ _ ⟨rfl,s3,H3,o3,rfl⟩
  simp only [List.cons_append,List.nil_append]
  obtain⟨hlen,⟨h0,_⟩|⟨b3,c3,hc3,hm3,rfl,rfl⟩⟩:=o3
  ·omega
  have hcl:=hown.1
  simp only [List.append_assoc,List.cons_append,List.nil_append]
  repeat(first|(refine AS ⟨?_⟩;intros)|(refine O1 ⟨?_⟩;intros)|(refine Wcx (c2) ?_)|(refine Wcgx (c2) ?_))
  refine WdL 8 3 ?_
  repeat(refine A1 ⟨?_⟩;intros)
  refine dL0 ?_
  refine Gv ?_ ?_
  ·(repeat(first|exact LOk.nil|refine Lsk ?_|refine Lcv ?_))
  refine Gv ?_ ?_
  ·(repeat(first|exact LOk.nil|refine Lsk ?_|refine Lcv ?_))
  refine Gs (b:=b3) (o:=0+n0*8+6) (sv:=lit (.int .i64 (a.root (n0+1)))) rfl rfl rfl (.there _ (.there _ (.there _ (.here _)))) (set_mid6 hcl) (ble_mid hcl (by decide)) ?_ ?_
  ·(repeat(first|exact LOk.nil|refine Lsk ?_|refine Lcv ?_))
  refine Gn ?_ ?_
  ·(repeat(first|exact LOk.nil|refine Lsk ?_|refine Lcv ?_))
  repeat(refine A1 ⟨?_⟩;intros)
  refine WPL.store (b:=b3) (o:=0+n0*8+7) (sv:=lit (.int .i64 (b.root (n0+1+a.size)))) rfl rfl rfl (.there _ (.there _ (.there _ (.here _)))) (set_mid7 hcl) (ble_mid hcl (by decide)) ?_
  repeat(refine A1 ⟨?_⟩;intros)
  refine endHR _ _ (end1 (RV.tmp rfl) (Le.refl _)) (List.Sublist.cons _ (List.Sublist.refl _)) ⟨rfl,_,_,⟨?_, .inr ⟨b3,c3,?_,hm3,?_,?_⟩⟩,rfl⟩
  ·rw [List.length_append,hown.1,Tr.rows_len,Nat.add_mul]
  ·rw [Tr.size_node];omega
  ·rw [show n0+(Tr.node l a b).size=n0+1+a.size+b.size from by rw [Tr.size_node];omega]
  ·rw [show n0+(Tr.node l a b).size=n0+1+a.size+b.size from by rw [Tr.size_node];omega]
   simp only [Tr.rows,nd,List.append_assoc,List.cons_append,List.nil_append]
theorem All2.repl {m:Mem}{x y:SV}{c2:List SV}(h:∀v,x.p m v→y.p m v):∀{c1:List SV}{l:List Value},All2 m (c1++x::c2) l→All2 m (c1++y::c2) l
 | [],[],k=>k.elim
 | [],_::_,k=>⟨⟨h _ k.1.1,k.1.2⟩,k.2⟩
 |_::_,[],k=>k.elim
 |_::_,_::_,k=>⟨k.1,All2.repl h k.2⟩
theorem St.pubC {C:Ctx}{n:Nat}{F:Fr}{H H1 H':LH}{a:Act}{w:World}{b o:Nat}{T To:TypeId}{cs c1 c2:List SV}{v:Value}{s':SV}(hs:St C n F H a w) (hdel:HDel b T cs H H1)
  (hu:HUpd o To (c1++lit v::c2) (c1++s'::c2) H1 H') (hsv:∀(m:Mem) (arr:Array Value),m b=some (.cells arr T (0,0))→All2 m cs arr.toList→s'.p m v):St C n F H' a w:=by
 obtain⟨hdef,hn,m,h1,h2,h3,h4,h5⟩:=hs
 obtain⟨hmb,arr,hb,hall⟩:=h2.2 _ hdel.mem
 have hle:m.le (fun x=>if x=b then w.heap[b]? else m x):=fun x o hx=>by
  show(if x=b then w.heap[b]? else m x)=some o
  rw [if_neg (fun e=>by rw [e]at hx;rw [hmb]at hx;cases hx)];exact hx
 have hk:=hdel.keys h2.1
 have hval:s'.p (fun x=>if x=b then w.heap[b]? else m x) v:=hsv _ arr (by show(if b=b then w.heap[b]? else m b)=_;rw [if_pos rfl];exact hb) (hall.mono hle)
 refine⟨hdef,hn,(fun x=>if x=b then w.heap[b]? else m x),⟨fun x o hx=>?_,Mem.le_trans h1.base hle⟩,⟨hu.keys▸hk.1,fun e he=>?_⟩,⟨Mem.le_trans h3.le hle,fun x hx hnx=>?_,h3.os,h3.tape,h3.output,h3.size,h3.block⟩,
  fun e he=>?_,fun t=>(F t).mono hle (h5 t)⟩
 ·by_cases hxb:x=b
  ·subst hxb;simp only [if_true]at hx;exact hx
  ·simp only [if_neg hxb]at hx;exact h1 x o hx
 ·rcases hu.mem' hk.1 e he with rfl|⟨he',hne⟩
  ·obtain⟨q1,arr',q2,q3⟩:=h2.2 _ (hdel.sub _ hu.mem)
   refine⟨?_,arr',q2,(q3.mono hle).repl fun u hu'=>?_⟩
   ·show(if o=b then w.heap[b]? else m o)=none
    rw [if_neg (hk.2 _ hu.mem)];exact q1
   ·rw [lit_p]at hu';subst hu';exact hval
  ·obtain⟨q1,arr',q2,q3⟩:=h2.2 e (hdel.sub e he')
   exact⟨by show(if e.1=b then w.heap[b]? else m e.1)=none;rw [if_neg (hk.2 e he')];exact q1,arr',q2,q3.mono hle⟩
 ·have hxb:x≠b:=fun e=>by
   subst e
   rcases h4 _ hdel.mem with h|h
   ·exact hnx h
   ·exact absurd hx (Nat.not_lt.2 h)
  show(if x=b then w.heap[b]? else m x)=_
  rw [if_neg hxb];exact h3.old x hx hnx
 ·have:e.1∈H'.map (·.1):=List.mem_map.2 ⟨e,he,rfl⟩
  rw [hu.keys]at this
  obtain⟨e',he',hk'⟩:=List.mem_map.1 this
  exact hk'▸h4 e' (hdel.sub e' he')
theorem WPL.pubC {P:Program}{C:Ctx}{n:Nat}{F:Fr}{H H1 H':LH}{ops:Array Oper}{K:Fr→LH→Prop}{l:List Oper}{b o:Nat}{T To:TypeId}{cs c1 c2:List SV}{v:Value}{s':SV}(hdel:HDel b T cs H H1)
  (hu:HUpd o To (c1++lit v::c2) (c1++s'::c2) H1 H') (hsv:∀(m:Mem) (arr:Array Value),m b=some (.cells arr T (0,0))→All2 m cs arr.toList→s'.p m v) (k:WPL P C n ops l K F H'):WPL P C n ops l K F H:=by
 unfold WPL at *
 exact fun a w hs=>k a w (hs.pubC hdel hu hsv)
abbrev tq (t:Tr):SV:=ag [lit (.int .i64 (t.root 0)),sl (t.rows 0) t.size]
theorem pub_own {m:Mem}{arr:Array Value}{b:Nat}{T:TypeId}{cs:List SV}{j n c:Nat}(hm:m b=some (.cells arr T (0,0))) (ha:All2 m (cs++List.replicate j top) arr.toList) (h1:n≤c) (h2:c≤maxLen):(sl cs n).p m (.slice (some ⟨b,0,none⟩) n c):=by
 refine sl_mk h1 h2 (.inr ⟨b,0,rfl,arr,T,(0,0),hm,?_⟩)
 rw [List.drop_zero]
 exact ha.split.1
theorem tapi_pu (t:Tr) (hall:t.all fun l=>l.le 1000000) (hsz:t.size≤1000000):Pu Tryz.prog 54 [bt t] (tq t):=by
 have c:=fun out fn=>api1_pu t hall out fn 0 [] _ [] (Own.nil 165 8) (by omega) 0
 refine Pu.intro Tryz.func54 rfl (by kernel_rfl) fun C=>?_
 repeat(refine A1 ⟨?_⟩;intros)
 rename_i b1 b2 b3
 refine Ss ?_
 refine Ws (sv:=fnv 110 [] [lit (.pointer (some ⟨b2,0,none⟩)),lit (.pointer (some ⟨b3,0,none⟩))]) ?_
 repeat(refine A1 ⟨?_⟩;intros)
 refine WvT (c _ _) ?_
 rintro _ _ ⟨rfl,s',H',ho,rfl⟩
 simp only [List.cons_append,List.nil_append,Nat.zero_add]at ho⊢
 obtain⟨hlen,⟨h0,rfl,rfl⟩|⟨b,cc,h1,h2,rfl,rfl⟩⟩:=ho
 ·have hr:t.rows 0=[]:=List.eq_nil_of_length_eq_zero (by rw [hlen,h0])
  have hle:Le (lit (.slice none 0 0)) (sl (t.rows 0) t.size):=fun m v hv=>by
   rw [lit_p]at hv;subst hv;rw [hr,h0]
   exact sl_mk (Nat.le_refl _) (by decide) (.inl rfl)
  repeat(refine A1 ⟨?_⟩;intros)
  exact endR (end1 (RV.cellA rfl List.mem_cons_self rfl rfl) (Le.ag ⟨Le.refl _,hle,trivial⟩))
 ·refine WPL.pubC (c1:=[lit (.int .i64 0)]) (c2:=[]) (s':=sl (t.rows 0) t.size) (.there _ (.there _ (.there _ (.here _)))) (.there _ (.here _)) (fun m arr hm ha=>pub_own hm ha h1 h2) ?_
  simp only [List.cons_append,List.nil_append]
  repeat(refine A1 ⟨?_⟩;intros)
  exact endR (end1 (RV.cellA rfl List.mem_cons_self rfl rfl) (Le.refl _))
def rc:Tr→List SV
 | .leaf i=>[lit (.bool true),lit (.bool i),lit (.bool false),lit (.slice none 0 0),lit (.bool false),lit (.slice none 0 0),lit (.bool false),lit (.slice none 0 0),lit (.pointer none),lit (.pointer none)]
 | .node l a b=>[lit (.bool false),lit (.bool false),lit (.bool (decide (l.a<0))),nat l.a.natAbs,lit (.bool (decide (l.b<0))),nat l.b.natAbs,lit (.bool (decide (l.c<0))),nat l.c.natAbs,pt (rc a),pt (rc b)]
theorem rc_leaf (i:Bool):rc (.leaf i)=[lit (.bool true),lit (.bool i),lit (.bool false),lit (.slice none 0 0),lit (.bool false),lit (.slice none 0 0),lit (.bool false),lit (.slice none 0 0),lit (.pointer none),lit (.pointer none)]:=rfl
theorem rc_node (l:Li) (a b:Tr):rc (.node l a b)=[lit (.bool false),lit (.bool false),lit (.bool (decide (l.a<0))),nat l.a.natAbs,lit (.bool (decide (l.b<0))),nat l.b.natAbs,lit (.bool (decide (l.c<0))),nat l.c.natAbs,pt (rc a),pt (rc b)]:=rfl
abbrev rt (t:Tr):SV:=pt (rc t)
theorem rcode_pu (i:Bool):Pu Tryz.prog 47 [lit (.bool i)] (rt (.leaf i)):=by
 unfold rt
 rw [rc_leaf]
 apply PuN.toPt (T:=74)
 refine PuN.intro Tryz.func47 rfl (by kernel_rfl) fun C=>?_
 repeat(refine A1 ⟨?_⟩;intros)
 exact endNwR _ _ (end1 (RV.tmp rfl) (Le.refl _)) mmA (LeL.refl _)
abbrev smallT (d:Nat):SV:=ex fun t:{t:Tr // t.all (fun l=>l.ok∧l.le 1)∧t.size<2^d}=>rt t.1
theorem ttree_pu (zs:List Int) (hz:zs.length≤400):∀d:Nat,d≤10→PuT 48 zs [lit (.int .i64 (d:Int))] (smallT d)
 |0,_=>by
  refine PuM.intro Tryz.func48 rfl (by kernel_rfl) fun C b=>?_
  repeat(refine A1 ⟨?_⟩;intros)
  refine Wtx (next_pu zs hz 2 (by omega) (by omega)) mmA fun x=>?_
  obtain⟨x,hx⟩:=x
  simp only []
  repeat(refine A1 ⟨?_⟩;intros)
  repeat(first|(refine A1 ⟨?_⟩;intros)|(refine Wcx (rcode_pu _) ?_)|(refine Wdcx (rcode_pu _) ?_)|(refine Wcgx (rcode_pu _) ?_)|(refine Wdcgx (rcode_pu _) ?_))
  exact endMR () _ (end1 (RV.tmp rfl) (Le.ex ⟨.leaf (decide ((x:Int)=1)),trivial,Nat.lt_of_lt_of_le Nat.zero_lt_one (Nat.le_refl _)⟩ (Le.refl _))) mmA (LeL.refl _)
 |d+1,hd=>by
  have ih:=ttree_pu zs hz d (by omega)
  rw [show(d:Int)=((d+1:Nat):Int)-1 from by omega]at ih
  have hp:0<2^d:=Nat.pow_pos (by omega)
  have x0:{t:Tr // t.all (fun l=>l.ok∧l.le 1)∧t.size<2^d}:=⟨.leaf true,trivial,hp⟩
  refine PuM.intro Tryz.func48 rfl (by kernel_rfl) fun C b=>?_
  repeat(refine A1 ⟨?_⟩;intros)
  refine WgE ?_
  refine Wtx (next_pu zs hz 4 (by omega) (by omega)) mmA fun k=>?_
  obtain⟨k,hk⟩:=k
  simp only []
  by_cases hk0:k=0
  ·subst hk0
   repeat(refine A1 ⟨?_⟩;intros)
   refine Wtx (next_pu zs hz 2 (by omega) (by omega)) mmA fun x=>?_
   obtain⟨x,hx⟩:=x
   simp only []
   repeat(refine A1 ⟨?_⟩;intros)
   repeat(first|(refine A1 ⟨?_⟩;intros)|(refine Wcx (rcode_pu _) ?_)|(refine Wdcx (rcode_pu _) ?_)|(refine Wcgx (rcode_pu _) ?_)|(refine Wdcgx (rcode_pu _) ?_))
   exact endMR () _ (end1 (RV.tmp rfl) (Le.ex ⟨.leaf (decide ((x:Int)=1)),trivial,Nat.pow_pos (by omega)⟩ (Le.refl _))) mmA (LeL.refl _)
  ·repeat(refine A1 ⟨?_⟩;intros)
   refine Wtx (tl_pu zs hz) mmA fun l=>?_
   obtain⟨l,hok,hle⟩:=l
   simp only []
   repeat(refine A1 ⟨?_⟩;intros)
   refine Wtx ih mmA fun a=>?_
   repeat(refine A1 ⟨?_⟩;intros)
   refine Wdo (ov_callT ih rfl mmA) ?_
   refine Wdo (OpV.exd 29 x0 rfl fun v=>Ov0) ?_
   refine Wdo (OpV.exd 30 x0 rfl fun v=>ov_boxP (sv:=ag (rc (.node l a.1 v.1))) rfl) ?_
   repeat(refine A1 ⟨?_⟩;intros)
   refine endMR () _ (end1 (RV.tmp (s:=ex fun v:{t:Tr // t.all (fun l=>l.ok∧l.le 1)∧t.size<2^d}=>pt (rc (.node l a.1 v.1))) rfl) (Le.exL fun v=>Le.ex ⟨.node l a.1 v.1,⟨⟨hok,hle⟩,a.2.1,v.2.1⟩,?_⟩ (Le.refl _))) mmA (LeL.refl _)
   have h1:=a.2.2
   have h2:=v.2.2
   rw [Tr.size_node,Nat.pow_succ]
   omega
theorem rwrite1_pu:∀(t:Tr) (_:t.all fun l=>l.le 1000000) (n0:Nat) (cs:List SV) (s:SV) (Hs:LH) (_:Own 165 8 n0 cs s Hs) (_:n0+t.size≤1000000),
  PuH Tryz.prog 44 [rt t,s] Hs
   (fun r H=>∃s',Own 165 8 (n0+t.size) (cs++t.rows n0) s' H∧r=Ab.tup [s',lit (.int .i64 (t.root n0))]) noX:=by
 intro t
 induction t with
 |leaf i =>
  intro _ n0 cs s Hs hown _
  have hfin:Own 165 8 (n0+(Tr.leaf i).size) (cs++(Tr.leaf i).rows n0) s Hs:=by
   simpa [Tr.size,Tr.rows] using hown
  unfold rt at *
  rw [rc_leaf]at *
  haveI:=hown.co
  cases i with
  |true =>
   refine PuH.intro Tryz.func44 rfl (by kernel_rfl) fun C hC=>?_
   repeat(refine A1 ⟨?_⟩;intros)
   exact endHR _ _ (end2 (RV.tmp rfl) (RV.tmp rfl) (Le.refl _)) (List.Sublist.refl _) ⟨_,hfin,rfl⟩
  |false =>
   refine PuH.intro Tryz.func44 rfl (by kernel_rfl) fun C hC=>?_
   repeat(refine A1 ⟨?_⟩;intros)
   exact endHR _ _ (end2 (RV.tmp rfl) (RV.tmp rfl) (Le.refl _)) (List.Sublist.refl _) ⟨_,hfin,rfl⟩
 |node l a b iha ihb =>
  intro hall n0 cs s Hs hown hsz
  obtain⟨hl,hla,hlb⟩:=hall
  have c2:=toL_pu l hl
  haveI:=hown.co
  rw [Tr.size_node]at hsz
  unfold rt at *
  rw [rc_node]at *
  refine PuH.intro Tryz.func44 rfl (by kernel_rfl) fun C hC=>?_
  repeat(refine A1 ⟨?_⟩;intros)
  refine Wo (ov_lenOwn hown rfl) ?_
  repeat(first|(refine A1 ⟨?_⟩;intros)|refine W4 c2 ⟨?_⟩)
  refine Wown hown (by omega) (fun s1 H1 o1=>?_)
  have o1':=o1
  obtain⟨_,⟨h1,_⟩|⟨b1,k1,_,_,rfl,rfl⟩⟩:=o1
  ·omega
  simp only [List.cons_append,List.nil_append]
  repeat(refine A1 ⟨?_⟩;intros)
  refine WfT (iha hla (n0+1) _ _ _ o1' (by omega)) ?_
  rintro _ _ ⟨s2,o2,rfl⟩
  have o2':=o2
  obtain⟨_,⟨h2,_⟩|⟨b2,k2,_,_,rfl,rfl⟩⟩:=o2
  ·omega
  simp only [List.cons_append,List.nil_append]
  repeat(refine A1 ⟨?_⟩;intros)
  refine WfT (ihb hlb (n0+1+a.size) _ _ _ o2' (by omega)) ?_
  rintro _ _ ⟨s3,o3,rfl⟩
  obtain⟨hlen,⟨h0,_⟩|⟨b3,c3,hc3,hm3,rfl,rfl⟩⟩:=o3
  ·omega
  have hcl:=hown.1
  simp only [List.append_assoc,List.cons_append,List.nil_append]
  repeat(refine A1 ⟨?_⟩;intros)
  refine WPL.store (b:=b3) (o:=0+n0*8+6) (sv:=lit (.int .i64 (a.root (n0+1)))) rfl rfl rfl (.there _ (.here _)) (set_mid6 hcl) (ble_mid hcl (by decide)) ?_
  repeat(refine A1 ⟨?_⟩;intros)
  refine WPL.store (b:=b3) (o:=0+n0*8+7) (sv:=lit (.int .i64 (b.root (n0+1+a.size)))) rfl rfl rfl (.there _ (.here _)) (set_mid7 hcl) (ble_mid hcl (by decide)) ?_
  repeat(refine A1 ⟨?_⟩;intros)
  refine endHR _ _ (end2 (RV.tmp rfl) (RV.tmp rfl) (Le.refl _)) (List.Sublist.cons _ (List.Sublist.refl _)) ⟨lit (.slice (some ⟨b3,0,none⟩) (n0+1+a.size+b.size) c3),⟨?_, .inr ⟨b3,c3,?_,hm3,?_,?_⟩⟩,rfl⟩
  ·rw [List.length_append,hown.1,Tr.rows_len,Nat.add_mul]
  ·rw [Tr.size_node];omega
  ·rw [show n0+(Tr.node l a b).size=n0+1+a.size+b.size from by rw [Tr.size_node];omega]
  ·rw [show n0+(Tr.node l a b).size=n0+1+a.size+b.size from by rw [Tr.size_node];omega]
   simp only [Tr.rows,nd,List.append_assoc,List.cons_append,List.nil_append]
theorem rwrite_pu (t:Tr) (hall:t.all fun l=>l.le 1000000) (hsz:t.size≤1000000):Pu Tryz.prog 13 [rt t] (tq t):=by
 have c:=rwrite1_pu t hall 0 [] _ [] (Own.nil 165 8) (by omega)
 refine Pu.intro Tryz.func13 rfl (by kernel_rfl) fun C=>?_
 repeat(refine A1 ⟨?_⟩;intros)
 refine WfT c ?_
 rintro _ _ ⟨s',ho,rfl⟩
 simp only [List.cons_append,List.nil_append,Nat.zero_add]at ho⊢
 obtain⟨hlen,⟨h0,rfl,rfl⟩|⟨b,cc,h1,h2,rfl,rfl⟩⟩:=ho
 ·have hr:t.rows 0=[]:=List.eq_nil_of_length_eq_zero (by rw [hlen,h0])
  have hle:Le (lit (.slice none 0 0)) (sl (t.rows 0) t.size):=fun m v hv=>by
   rw [lit_p]at hv;subst hv;rw [hr,h0]
   exact sl_mk (Nat.le_refl _) (by decide) (.inl rfl)
  repeat(refine A1 ⟨?_⟩;intros)
  exact endR (end1 (RV.cellA (cs':=[lit (.int .i64 (t.root 0)),lit (.slice none 0 0)]) rfl mmA rfl rfl) (Le.ag ⟨Le.refl _,hle,trivial⟩))
 ·(refine O1 ⟨?_⟩;intros)
  (refine O1 ⟨?_⟩;intros)
  refine WPL.pub (d:=7) (s':=sl (t.rows 0) t.size) (.there _ (.there _ (.here _))) rfl (fun m arr hm ha=>pub_own hm ha h1 h2) ?_
  repeat(refine A1 ⟨?_⟩;intros)
  ((first|refine endR ?_|refine endN ?_);refine end1 RVa (Le.refl _))
section
variable {P:Program}{C:Ctx}{n:Nat}{F Fe:Fr}{H:LH}{ops:Array Oper}
theorem wp_monoX {o:Oper}{a:Act}{w:World}{next:Act→World→Prop}{Q Q':Exit→Act→World→Prop}(hp:∀c a w,Q' (.panic c) a w→Q (.panic c) a w) (ho:∀a w,Q' .outgrown a w→Q .outgrown a w) (h:o.wp P a w next Q'):o.wp P a w next Q:=by
 unfold Oper.wp at *
 generalize(execOp a.eval o).run P w=r at *
 cases r with
 |ok n w' =>
  cases n <;> simp only [Oper.upon]at h⊢<;>
   first
    |exact h
    |exact Calls.mono h (fun e w'' he=>by cases e <;> first|exact he|exact hp _ _ _ he|exact he.imp fun a h=>h.imp fun w h=>ho a w h)
 |halt x w'=>cases x <;> simp only [Oper.upon]at h⊢<;> first|exact hp _ _ _ h|exact h
theorem TS.ofWPL {i:Nat}{o:Oper}{sv:SV}{H':LH}(ho:ops[i]? = some o) (h:∀F,(∀t,t∈o.looksAt ops→Fe t=F t)→WPL P ⟨C.ks,C.m,C.w,noX,C.dfs⟩ n ops [o] (fun F' H2=>F'=dstf o F sv∧H2=H') F H):TS P C n ops i o Fe H sv H':=by
 intro F hF a w hst Q' K' hK'
 have h1:=h F hF
 unfold WPL at h1
 have h2:=h1 a w hst (fun e a w=>match e with
  | .normal=>K' a w
  | .panic c=>Q' (.panic c) a w
  | .outgrown=>Q' .outgrown a w
  |_=>False) ⟨fun a' w' F' H2 hs' hk=>by
   obtain⟨rfl,rfl⟩:=hk
   exact hK' a' w' hs',fun ch a' w' hp=>by obtain⟨_,_,_,_,_,_,_,_,_,_,_,hf⟩:=hp;exact hf.elim⟩
 unfold wpOp
 simp only [ho]
 unfold wpList at h2
 split
 ·rename_i hw
  rw [if_pos hw]at h2
  rcases h2 with h2|h2
  ·exact .inl (wp_monoX (fun _ _ _ h=>h) (fun _ _ h=>h) h2)
  ·exact .inr ⟨h2.1,h2.2⟩
 ·rename_i hw
  rw [if_neg hw]at h2
  exact h2
theorem TS.callH {i d:Nat}{f:FuncId}{l:List Operand}{tys:Array TypeId}{ty:TypeId}{pos:String}{aft:Array Edge}{svs:List SV}{Hin Hout Rs:LH}{res:SV}(ho:ops[i]? = some ⟨some d, .call ⟨.value (.func f),l.toArray,tys⟩,ty,pos,aft,none⟩) (hd:Nat.blt d n=true)
  (hc:PuH P f svs Hin (fun r H=>r=res∧H=Hout) noX) (hs:Tk H Hin Rs) (ha:l.map (ev Fe)=svs):TS P C n ops i ⟨some d, .call ⟨.value (.func f),l.toArray,tys⟩,ty,pos,aft,none⟩ Fe H res (Rs++Hout):=by
 refine TS.ofWPL ho fun F hF=>?_
 refine WfT hc ?_ ?_ hs hd
 ·rintro _ _ ⟨rfl,rfl⟩
  exact WPL.nil ⟨rfl,rfl⟩
 ·rw [←ha]
  refine List.map_congr_left fun x hx=>?_
  exact ev_looks (by simp [Op.operands,Call.operands,hx]) hF
theorem Gc {k q i d:Nat}{late:List NO'}{K:Fr→LH→Prop}{r:List Oper}{f:FuncId}{l:List Operand}{tys:Array TypeId}{ty:TypeId}{pos:String}{aft:Array Edge}{svs:List SV}{Hin Hout Rs:LH}{res:SV}
  (hc:PuH P f svs Hin (fun r H=>r=res∧H=Hout) noX) (hs:Tk H Hin Rs) (hl:LOk P ops k q n H F late) (h:Stg P C n ops k q late K (i+1) r (upd F d res) (Rs++Hout))
  (ha:l.map (ev F)=svs:=by exact rfl) (ho:ops[i]? = some ⟨some d, .call ⟨.value (.func f),l.toArray,tys⟩,ty,pos,aft,none⟩:=by exact rfl) (hd:Nat.blt d n=true:=by exact rfl) :
  Stg P C n ops k q late K i (⟨some d, .call ⟨.value (.func f),l.toArray,tys⟩,ty,pos,aft,none⟩::r) F H:=⟨hl,_,(TS.callH ho hd hc hs ha).toR,by rintro _ _ ⟨rfl,rfl⟩;exact h⟩
end
def marks (k n:Nat):List SV:=List.replicate k (lit (.bool true))++List.replicate (n-k) (lit (.bool false))
theorem marks_len {k n:Nat}(h:k≤n):(marks k n).length=n:=by unfold marks;simp;omega
theorem marks_set {k n:Nat}(h:k<n):(marks k n).set k (lit (.bool true))=marks (k+1) n:=by
 unfold marks
 rw [List.set_append_right _ _ (by simp),List.length_replicate,Nat.sub_self,show n-k=(n-(k+1))+1 from by omega,List.replicate_succ,List.set_cons_zero,List.replicate_succ',List.append_assoc]
 rfl
theorem marks_get {k n:Nat}(h:k<n):(marks k n)[k]? = some (lit (.bool false)):=by
 unfold marks
 rw [List.getElem?_append_right (by simp),List.length_replicate,Nat.sub_self,show n-k=(n-(k+1))+1 from by omega,List.replicate_succ]
 rfl
def At (all:List SV) (k:Nat) (t:Tr):Prop:=(all.drop (k*8)).take (t.size*8)=t.rows k
theorem At.node {all:List SV}{k:Nat}{l:Li}{a b:Tr}(h:At all k (.node l a b)):(all.drop (k*8)).take 8=nd l (a.root (k+1)) (b.root (k+1+a.size))∧At all (k+1) a∧At all (k+1+a.size) b:=by
 unfold At at h⊢
 rw [Tr.size_node]at h
 simp only [Tr.rows]at h
 have hn:(nd l (a.root (k+1)) (b.root (k+1+a.size))).length=8:=rfl
 have h1:=congrArg (List.take 8) h
 rw [List.take_take,Nat.min_eq_left (by omega),List.append_assoc,List.take_left' hn]at h1
 have h2:=congrArg (List.drop 8) h
 rw [List.drop_take,List.drop_drop,List.append_assoc,List.drop_left' hn]at h2
 rw [show k*8+8=(k+1)*8 from by omega,show(1+a.size+b.size)*8-8=a.size*8+b.size*8 from by omega]at h2
 have ha:=Tr.rows_len a (k+1)
 have h3:=congrArg (List.take (a.size*8)) h2
 rw [List.take_take,Nat.min_eq_left (by omega),List.take_left' ha]at h3
 have h4:=congrArg (List.drop (a.size*8)) h2
 rw [List.drop_take,List.drop_drop,List.drop_left' ha]at h4
 rw [show(k+1)*8+a.size*8=(k+1+a.size)*8 from by omega,Nat.add_sub_cancel_left]at h4
 exact⟨h1,h3,h4⟩
abbrev tbrdC (all:List SV) (n s k:Nat):List SV:=[sl all n,lit (.slice (some ⟨s,0,none⟩) n n),lit (.int .i64 (k:Int)),lit (.bool false)]
theorem tbpart_pu:∀(t:Tr) (_:t.all fun l=>l.ok∧l.le 100000) (all:List SV) (n k r s:Nat) (_:At all k t) (_:k+t.size≤n) (_:n≤1000000) (_:all.length=n*8),
  PuH Tryz.prog 108 [lit (.pointer (some ⟨r,0,none⟩)),lit (.int .i64 (t.root k))] [(r,192,tbrdC all n s k),(s,4,marks k n)]
   (fun res H=>res=bt t∧H=[(r,192,tbrdC all n s (k+t.size)),(s,4,marks (k+t.size) n)]) noX:=by
 intro t
 induction t with
 |leaf i =>
  intro _ all n k r s _ _ _ _
  have c1:=leaf_pu i
  cases i with
  |true =>
   simp only [Tr.root]
   refine PuH.intro Tryz.func108 rfl (by kernel_rfl) fun C hC=>?_
   repeat(first|(refine A1 ⟨?_⟩;intros)|refine W4 c1 ⟨?_⟩)
   exact endHR _ _ (end1 (RV.tmp rfl) (Le.refl _)) (List.Sublist.refl _) ⟨rfl,rfl⟩
  |false =>
   simp only [Tr.root]
   refine PuH.intro Tryz.func108 rfl (by kernel_rfl) fun C hC=>?_
   repeat(first|(refine A1 ⟨?_⟩;intros)|refine W4 c1 ⟨?_⟩)
   exact endHR _ _ (end1 (RV.tmp rfl) (Le.refl _)) (List.Sublist.refl _) ⟨rfl,rfl⟩
 |node l a b iha ihb =>
  intro hall all n k r s hat hkn hn hlen
  obtain⟨⟨hok,hle⟩,hla,hlb⟩:=hall
  obtain⟨h1,hA,hB⟩:=hat.node
  rw [Tr.size_node]at hkn
  have c2:=lnOf_pu hok hle
  have hg:=marks_get (k:=k) (n:=n) (by omega)
  have hs:spl (marks k n) k [lit (.bool true)]=marks (k+1) n:=by simp only [spl];exact marks_set (by omega)
  simp only [nd]at h1
  have hml:=marks_len (k:=k) (n:=n) (by omega)
  have hne:all≠[]:=fun e=>by rw [e]at hlen;simp at hlen;omega
  simp only [Tr.root]
  refine PuH.intro Tryz.func108 rfl (by kernel_rfl) fun C hC=>?_
  repeat(refine A1 ⟨?_⟩;intros)
  refine WgE ?_
  refine Wo (ov_loadL rfl mmA hg) ?_
  repeat(refine A1 ⟨?_⟩;intros)
  refine WPL.store (b:=s) (o:=k) (sv:=lit (.bool true)) (cs':=marks (k+1) n) rfl rfl rfl (.there _ (.here _)) hs (by rw [Nat.ble_eq,hml];omega) ?_
  repeat(refine A1 ⟨?_⟩;intros)
  refine Wo (ov_idxS rfl rfl (by omega) (by omega) h1 hne) ?_
  repeat(first|(refine A1 ⟨?_⟩;intros)|refine W4 c2 ⟨?_⟩)
  refine WfT (iha hla all n (k+1) r s hA (by omega) hn hlen) ?_
  rintro _ _ ⟨rfl,rfl⟩
  simp only [List.cons_append,List.nil_append]
  repeat(first|(refine AS ⟨?_⟩;intros)|(refine O1 ⟨?_⟩;intros)|(refine Wcx (c2) ?_)|(refine Wcgx (c2) ?_))
  refine WdL 5 1 ?_
  repeat(refine A1 ⟨?_⟩;intros)
  refine dL0 ?_
  have c3:=ihb hlb all n (k+1+a.size) r s hB (by omega) hn hlen
  have c4:=bnew_pu l a b
  refine Gc c3 (.skip _ (.skip _ (.same _))) ?_ ?_
  ·(repeat(first|exact LOk.nil|refine Lsk ?_|refine Lcv ?_))
  simp only [List.cons_append,List.nil_append]
  refine Gn ?_ ?_
  ·(repeat(first|exact LOk.nil|refine Lsk ?_|refine Lcv ?_))
  repeat(first|(refine A1 ⟨?_⟩;intros)|refine W4 c4 ⟨?_⟩)
  rw [show k+1+a.size+b.size=k+(Tr.node l a b).size from by rw [Tr.size_node];omega]
  exact endHR _ _ (end1 (RV.tmp rfl) (Le.refl _)) (List.Sublist.cons _ (List.Sublist.cons _ (List.Sublist.refl _))) ⟨rfl,rfl⟩
theorem At.all (t:Tr):At (t.rows 0) 0 t:=by
 unfold At
 rw [Nat.zero_mul,List.drop_zero,←Tr.rows_len t 0,List.take_length]
theorem bof_pu (t:Tr) (hall:t.all fun l=>l.ok∧l.le 100000) (hsz:t.size≤60000):Pu Tryz.prog 51 [tq t] (Ab.tup [bt t,lit (.bool true)]):=by
 have c:=fun r s=>tbpart_pu t hall (t.rows 0) t.size 0 r s (At.all t) (by omega) (by omega) (t.rows_len 0)
 simp only [Nat.zero_add]at c
 refine Pu.intro Tryz.func51 rfl (by kernel_rfl) fun C=>?_
 repeat(first|(refine AS ⟨?_⟩;intros)|(refine O1 ⟨?_⟩;intros)|(refine Wcx (leaf_pu true) ?_)|(refine Wcgx (leaf_pu true) ?_))
 refine WdN 6 ?_
 repeat(refine A1 ⟨?_⟩;intros)
 refine Wdnew (nk_make rfl rfl (by omega) (by omega)) ?_
 repeat(refine A1 ⟨?_⟩;intros)
 rename_i b1 s r
 refine WfT (c r s) ?_
 rintro _ _ ⟨rfl,rfl⟩
 simp only [List.cons_append,List.nil_append]
 repeat(refine A1 ⟨?_⟩;intros)
 ((first|refine endR ?_|refine endN ?_);exact end2 (RV.tmp rfl) (RV.tmp rfl) (Le.refl _))
def Tr.im (m:M6 Rat):Tr→Tr
 | .leaf i => .leaf i
 | .node l a b => .node (l.im m) (a.im m) (b.im m)
theorem Tr.im_size (m:M6 Rat):∀t:Tr,(t.im m).size=t.size
 | .leaf _=>rfl
 | .node _ a b=>by simp only [Tr.im,Tr.size,im_size m a,im_size m b]
theorem Tr.all_mono {p q:Li→Prop}(h:∀l,p l→q l):∀t:Tr,t.all p→t.all q
 | .leaf _,_=>trivial
 | .node _ a b,k=>⟨h _ k.1,all_mono h a k.2.1,all_mono h b k.2.2⟩
theorem Tr.im_all {m:M6 Rat}{p q:Li→Prop}(h:∀l,p l→q (l.im m)):∀t:Tr,t.all p→(t.im m).all q
 | .leaf _,_=>trivial
 | .node _ a b,k=>⟨h _ k.1,im_all h a k.2.1,im_all h b k.2.2⟩
theorem atree1_pu {m:M6 Rat}{L:Nat}(hm:m.le L) (h1:1≤L) (hL:L≤400) (hdet:m.det≠0):∀t:Tr,(t.all fun l=>l.ok∧l.le L)→Pu Tryz.prog 56 [mf m,bt t] (bt (t.im m)):=by
 intro t
 induction t with
 |leaf i =>
  intro _
  have c1:=isLeaf_leaf i
  simp only [Tr.im]
  refine Pu.intro Tryz.func56 rfl (by kernel_rfl) fun C=>?_
  repeat(first|(refine A1 ⟨?_⟩;intros)|refine W4 c1 ⟨?_⟩)
  exact E1
 |node l a b iha ihb =>
  intro ⟨⟨hok,hle⟩,hla,hlb⟩
  have c1:=isLeaf_node l a b
  have c2:=aline_pu hm hle h1 hL hdet hok
  have c3:=iha hla
  have c4:=ihb hlb
  have c5:=bnew_pu (l.im m) (a.im m) (b.im m)
  simp only [Tr.im]
  unfold bt at *
  rw [bc_node]at *
  refine Pu.intro Tryz.func56 rfl (by kernel_rfl) fun C=>?_
  repeat(first|(refine A1 ⟨?_⟩;intros)|refine W4 c1 ⟨?_⟩|refine W4 c2 ⟨?_⟩|refine W4 c3 ⟨?_⟩|refine W4 c4 ⟨?_⟩|refine W4 c5 ⟨?_⟩)
  exact E1
theorem Li.im_le' {m:M6 Rat}{l:Li}{L:Nat}(hm:m.le L) (h:l.le L) (h1:1≤L) (hL:L≤400):(l.im m).le 100000:=by
 have hi:=Li.im_le hm h h1
 exact⟨Nat.le_trans hi.a (by omega),Nat.le_trans hi.b (by omega),Nat.le_trans hi.c (by omega)⟩
theorem Li.le.to {l:Li}{L L':Nat}(h:l.le L) (k:L≤L'):l.le L':=⟨Nat.le_trans h.a k,Nat.le_trans h.b k,Nat.le_trans h.c k⟩
theorem aTree_t {m:M6 Rat}{t:Tr}{L:Nat}(hm:m.le L) (h1:1≤L) (hL:L≤400) (hdet:m.det≠0) (ht:t.all fun l=>l.ok∧l.le L) (hs:t.size≤60000):Pu Tryz.prog 16 [mq m,tq t] (Ab.tup [tq (t.im m),lit .nilIface]):=by
 have c1:=bof_pu t (t.all_mono (fun l h=>⟨h.1,h.2.to (by omega)⟩) ht) hs
 have c2:=regular_t hm (by omega) hdet
 have c3:=atree1_pu hm h1 hL hdet t ht
 have c4:=tapi_pu (t.im m) (t.im_all (fun l h=>(Li.im_le' hm h.2 h1 hL).to (by omega)) ht) (by rw [Tr.im_size];omega)
 refine Pu.intro Tryz.func16 rfl (by kernel_rfl) fun C=>?_
 repeat(first|(refine A1 ⟨?_⟩;intros)|refine W4 c1 ⟨?_⟩|refine W4 c2 ⟨?_⟩|refine W4 c3 ⟨?_⟩|refine W4 c4 ⟨?_⟩)
 ((first|refine endR ?_|refine endN ?_);exact end2 RVa (RV.tmp rfl) (Le.refl _))
end Go.Ab
