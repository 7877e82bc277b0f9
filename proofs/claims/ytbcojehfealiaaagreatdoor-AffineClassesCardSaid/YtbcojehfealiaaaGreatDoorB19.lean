/- Texts laid one behind the other: TapeB, Tree, RTree, RTreeW, RTreeS, LateC, TreeB, AffT. -/
import Derived.Test.YtbcojehfealiaaaGreatDoorB18
set_option linter.all false
namespace Go.Ab
open Go.Proofs
variable [Base]
theorem qm (x y u v:Rat) (hx:ht x≤3000000) (hy:ht y≤3000000) (hu:ht u≤3000000) (hv:ht v≤3000000):Pu Tryz.prog 138 [rp x y,rp u v] (lit (.bool (decide (x=u∧y=v)))):=by
 have c1:=gN x u hx hu;have c2:=gN y v hy hv;have e1:=dT (x:=x) (y:=u);have e2:=dT (x:=y) (y:=v);generalize(x-u).num.sign=s at *;generalize(y-v).num.sign=t at *;clear hx hy hu hv;by_cases h1:x=u
 ·have hs:=e1.2 h1;by_cases h2:y=v
  ·have ht:=e2.2 h2;rw [decide_eq_true ⟨h1,h2⟩];clear e1 e2;subst hs ht;refine Pi Tryz.func138 fun C=>?_
   exact Y2 c1 c2
  ·have ht:t≠0:=fun e=>h2 (e2.1 e)
   rw [decide_eq_false (fun h=>h2 h.2)];clear e1 e2;subst hs;refine Pi Tryz.func138 fun C=>?_
   exact Y2 c1 c2
 ·have hs:s≠0:=fun e=>h1 (e1.1 e)
  rw [decide_eq_false (fun h=>h1 h.1)];clear e1 e2;refine Pi Tryz.func138 fun C=>?_
  exact Y2 c1 c2
abbrev intP:SV:=ex fun p:{p:Int×Int // p.1.natAbs≤4∧p.2.natAbs≤4}=>rp (p.1.1:Rat) (p.1.2:Rat)
abbrev intV:SV:=ex fun p:{p:Int×Int // (p.1.natAbs≤4∧p.2.natAbs≤4)∧(p.1≠0∨p.2≠0)}=>rp (p.1.1:Rat) (p.1.2:Rat)
theorem vk (zs:List Int) (hz:zs.length≤400):PuT 117 zs [] intP:=by
 refine PuM.intro Tryz.func117 rfl kr fun C b=>?_
 repeat(refine A1 ⟨?_⟩;intros)
 refine Wtx (bR zs hz 9 om om) mmA fun x=>?_
 obtain⟨x,hx⟩:=x;simp only [];repeat(refine A1 ⟨?_⟩;intros)
 refine Wtx (bR zs hz 9 om om) mmA fun y=>?_
 obtain⟨y,hy⟩:=y;simp only [];repeat(first|(refine A1 ⟨?_⟩;intros)|refine W4 (jH ((x:Int)-4) ((y:Int)-4) om om om om) ⟨?_⟩)
 exact bN () _ (ax (RV.cellA rfl mmA rfl rfl) (Le.ex ⟨((x:Int)-4,(y:Int)-4),by simp only;omega,by simp only;omega⟩ Lr)) mmA (LeL.refl _)
theorem p9 (z:Int) (h:z.natAbs≤1000):ht (z:Rat)≤1:=uG z om
theorem Jl:LeL [ag [lit (.bool false),lit (.slice none 0 0),lit (.slice none 0 0),lit (.bool false),lit (.slice none 0 0),lit (.slice none 0 0)]] [rp 0 0] :=
 ⟨Le.ag (by repeat(first|exact trivial|refine⟨?_,?_⟩|exact Le.refl _|exact kW|exact kX)),trivial⟩
theorem eK {z:Int}:((z:Rat)=0)↔z=0:=by constructor <;> intro h <;> exact_mod_cast h
theorem BP (zs:List Int) (hz:zs.length≤400):PuT 120 zs [] intV:=by
 refine PuM.intro Tryz.func120 rfl kr fun C b=>?_
 repeat(refine A1 ⟨?_⟩;intros)
 refine Wtx (vk zs hz) mmA fun p=>?_
 obtain⟨⟨x,y⟩,hx,hy⟩:=p;simp only at hx hy;simp only [];have h0:=ez;have hx':=p9 x om;have hy':=p9 y om;have c1:=(qm x y 0 0 om om om om).arg (l':=[rp x y,ag [lit (.bool false),lit (.slice none 0 0),lit (.slice none 0 0),lit (.bool false),lit (.slice none 0 0),lit (.slice none 0 0)]]) ⟨Le.refl _,Jl⟩;have c2:=jH 1 0 om om om om;by_cases h:x=0∧y=0
 ·rw [decide_eq_true (show(x:Rat)=0∧(y:Rat)=0 from⟨eK.2 h.1,eK.2 h.2⟩)]at c1;clear h hx' hy' h0;repeat(first|(refine A1 ⟨?_⟩;intros)|refine W4 c1 ⟨?_⟩|refine W4 c2 ⟨?_⟩)
  exact bN () _ (ax (RV.cellA rfl mmA rfl rfl) (Le.ex ⟨(1,0),by decide,by decide⟩ Lr)) mmA (LeL.refl _)
 ·rw [decide_eq_false (show¬((x:Rat)=0∧(y:Rat)=0)from fun e=>h ⟨eK.1 e.1,eK.1 e.2⟩)]at c1;have hv:x≠0∨y≠0:=by omega
  clear h hx' hy' h0;repeat(first|(refine A1 ⟨?_⟩;intros)|refine W4 c1 ⟨?_⟩|refine W4 c2 ⟨?_⟩)
  exact bN () _ (ax (RV.cellA rfl mmA rfl rfl) (Le.ex ⟨(x,y),⟨hx,hy⟩,hv⟩ Lr)) mmA (LeL.refl _)
abbrev smallL:SV:=ex fun l:{l:Li // l.ok∧l.le 1}=>lq l.1
theorem ED (x y u v:Int):thr x y ((x:Rat)+1*u) ((y:Rat)+1*v)=dD ((-v:Int):Rat) ((u:Int):Rat) ((v*x-u*y:Int):Rat):=by
 unfold thr;push_cast
 congr 1 <;> grind
theorem Dw (z:Int) (h:z.natAbs≤1000):il z≤1:=bi (k:=1) (by simp;omega)
theorem pz {a b:Int}(ha:a.natAbs≤4) (hb:b.natAbs≤4):(a*b).natAbs≤16:=by rw [Int.natAbs_mul];exact Nat.mul_le_mul ha hb
theorem uo {x y u v:Int}(hx:x.natAbs≤4) (hy:y.natAbs≤4) (hu:u.natAbs≤4) (hv:v.natAbs≤4) (hne:u≠0∨v≠0) :
  (∃l:Li,l.ok∧l.le 1∧l=thr x y ((x:Rat)+1*u) ((y:Rat)+1*v))∧Pu Tryz.prog 119 [rp x y,rq 1,rp u v] (rp ((x:Rat)+1*u) ((y:Rat)+1*v))∧
  Pu Tryz.prog 118 [rp x y,rp ((x:Rat)+1*u) ((y:Rat)+1*v)] (Ab.tup [lq (thr x y ((x:Rat)+1*u) ((y:Rat)+1*v)),lit (.bool true)]):=by
 have hx':=p9 x om;have hy':=p9 y om;have hu':=p9 u om;have hv':=p9 v om;have h1:=fv;have a:=kM x y 1 u v om om om om om;have k1:=af 1 (u:Rat);have k2:=af 1 (v:Rat);have k3:=aO (x:Rat) (1*u);have k4:=aO (y:Rat) (1*v)
 have t:=q9 (x:=x) (y:=y) (u:=(x:Rat)+1*u) (v:=(y:Rat)+1*v) (L:=10) om om om om om (by
  rw [show(x:Rat)+1*u-x=u from by grind,show(y:Rat)+1*v-y=v from by grind];rcases hne with h|h
  ·exact .inl fun e=>h (eK.1 e)
  ·exact .inr fun e=>h (eK.1 e))
 refine⟨?_,a,t⟩;rw [ED];have hne' : -v≠0∨u≠0:=by omega
 have hm1:=pz hv hx;have hm2:=pz hu hy
 have hok:(dD ((-v:Int):Rat) ((u:Int):Rat) ((v*x-u*y:Int):Rat)).ok:=tT (by
  rcases hne' with h|h
  ·exact .inl fun e=>h (eK.1 e)
  ·exact .inr fun e=>h (eK.1 e))
 obtain⟨q1,q2,q3⟩:=qA (v*x-u*y) hne';generalize v*x=e1 at *;generalize u*y=e2 at *;exact⟨_,hok,⟨Dw _ om,Dw _ om,Dw _ om⟩,rfl⟩
theorem BS (zs:List Int) (hz:zs.length≤400):PuT 61 zs [] smallL:=by
 refine PuM.intro Tryz.func61 rfl kr fun C b=>?_
 repeat(refine A1 ⟨?_⟩;intros)
 refine Wtx (vk zs hz) mmA fun p=>?_
 obtain⟨⟨x,y⟩,hx,hy⟩:=p;simp only at hx hy;simp only [];have x0:{p:Int×Int // (p.1.natAbs≤4∧p.2.natAbs≤4)∧(p.1≠0∨p.2≠0)}:=⟨(1,0),by decide,by decide⟩
 repeat(first|(refine A1 ⟨?_⟩;intros)|refine W4 jT ⟨?_⟩)
 refine Wdo (qH (BP zs hz) rfl mmA) ?_;refine Wdc (Pu.exAt [rp x y,rq 1] [] x0 fun v=>(uo hx hy v.2.1.1 v.2.1.2 v.2.2).2.1) ?_;refine Wdc (Pu.exAt [rp x y] [] x0 fun v=>(uo hx hy v.2.1.1 v.2.1.2 v.2.2).2.2) ?_;refine Wdo (OpV.exd 15 x0 rfl fun v=>Ov0) ?_;refine Wdo (OpV.exd 8 x0 rfl fun v=>Ov0) ?_;refine Wdo (OpV.exc 8 x0 rfl fun v=>Ov0) ?_;repeat(refine A1 ⟨?_⟩;intros)
 refine WPL.exd (d:=16) rfl fun v=>?_
 obtain⟨⟨l,hok,hle,e⟩,_⟩:=uo hx hy v.2.1.1 v.2.1.2 v.2.2;rw [←e];repeat(refine A1 ⟨?_⟩;intros)
 exact bN () _ (ax (RV.cellA rfl mmA rfl rfl) (Le.ex ⟨l,hok,hle⟩ Lr)) mmA (LeL.refl _)
inductive Tr where
 |leaf (i:Bool)
 |node (l:Li) (a b:Tr)
def bc:Tr→List SV
 | .leaf i=>[lit (.int .i64 0),lit (.int .i64 0),lit (.pointer none),lit (.int .i64 0),lit (.int .i64 0),lit (.pointer none),lit (.int .i64 0),lit (.int .i64 0),lit (.pointer none),lit (.pointer none),lit (.pointer none),lit (.bool i)]
 | .node l a b=>[lit (.int .i64 (r0 l.a)),lit (.int .i64 (r1 l.a)),r2 l.a,lit (.int .i64 (r0 l.b)),lit (.int .i64 (r1 l.b)),r2 l.b,lit (.int .i64 (r0 l.c)),lit (.int .i64 (r1 l.c)),r2 l.c,pt (bc a),pt (bc b),lit (.bool false)]
theorem nI (i:Bool):bc (.leaf i)=[lit (.int .i64 0),lit (.int .i64 0),lit (.pointer none),lit (.int .i64 0),lit (.int .i64 0),lit (.pointer none),lit (.int .i64 0),lit (.int .i64 0),lit (.pointer none),lit (.pointer none),lit (.pointer none),lit (.bool i)]:=rfl
theorem kS (l:Li) (a b:Tr):bc (.node l a b)=[lit (.int .i64 (r0 l.a)),lit (.int .i64 (r1 l.a)),r2 l.a,lit (.int .i64 (r0 l.b)),lit (.int .i64 (r1 l.b)),r2 l.b,lit (.int .i64 (r0 l.c)),lit (.int .i64 (r1 l.c)),r2 l.c,pt (bc a),pt (bc b),lit (.bool false)]:=rfl
abbrev bt (t:Tr):SV:=pt (bc t)
theorem PuN.toPt {P:Program}{f:FuncId}{T:TypeId}{args cs:List SV}(h:PuN P f T args cs):Pu P f args (pt cs):=by
 unfold Pu
 exact⟨h.1,fun m w vs hm ha=>(h.2 m w vs hm ha).mono fun _ w' ⟨b,m',e,hb,h1,h2,⟨arr,h3,h4⟩,h5⟩=>by
  have hle:m'.le (fun x=>if x=b then w'.heap[b]? else m' x):=fun x o hx=>by
   show(if x=b then w'.heap[b]? else m' x)=some o
   rw [if_neg (fun e=>by rw [e]at hx;rw [h2]at hx;cases hx)];exact hx
  refine⟨_,(fun x=>if x=b then w'.heap[b]? else m' x),e,xM (arr:=arr) (T:=T) _ (by show(if b=b then w'.heap[b]? else m' b)=_;rw [if_pos rfl];exact h3) (h4.mono hle),⟨fun x o hx=>?_,Mem.le_trans h1.base hle⟩,⟨Mem.le_trans h5.le hle,fun x hx hnx=>?_,h5.os,h5.tape,h5.output,h5.size,h5.block⟩⟩
  ·by_cases hxb:x=b
   ·subst hxb;simp only [if_true]at hx;exact hx
   ·simp only [if_neg hxb]at hx;exact h1 x o hx
  ·show(if x=b then w'.heap[b]? else m' x)=_
   rw [if_neg om];exact h5.old x hx hnx⟩
theorem uz (i:Bool):Pu Tryz.prog 144 [lit (.bool i)] (bt (.leaf i)):=by
 unfold bt;rw [nI];apply PuN.toPt (T:=170);refine PuN.intro Tryz.func144 rfl kr fun C=>?_
 repeat(refine A1 ⟨?_⟩;intros)
 exact r9 _ _ (ax (RV.tmp rfl) Lr) List.mem_cons_self (LeL.refl _)
theorem io (i:Bool):Pu Tryz.prog 90 [bt (.leaf i)] (lit (.bool true)):=by
 unfold bt;rw [nI];refine Pi Tryz.func90 fun C=>?_
 exact Z1
theorem ik (l:Li) (a b:Tr):Pu Tryz.prog 90 [bt (.node l a b)] (lit (.bool false)):=by
 unfold bt;rw [kS];refine Pi Tryz.func90 fun C=>?_
 exact Z1
theorem A5 (l:Li) (a b:Tr):Pu Tryz.prog 91 [lf l.a l.b l.c,bt a,bt b] (bt (.node l a b)):=by
 unfold bt;rw [kS];apply PuN.toPt (T:=170);refine PuN.intro Tryz.func91 rfl kr fun C=>?_
 repeat(refine A1 ⟨?_⟩;intros)
 exact r9 _ _ (ax (RV.tmp rfl) Lr) List.mem_cons_self (LeL.refl _)
def Tr.size:Tr→Nat
 | .leaf _=>0
 | .node _ a b=>1+a.size+b.size
theorem Tr.size_node (l:Li) (a b:Tr):(Tr.node l a b).size=1+a.size+b.size:=rfl
def Tr.root (k:Nat):Tr→Int
 | .leaf true => -2
 | .leaf false => -1
 | .node _ _ _=>k
def nd (l:Li) (i j:Int):List SV:=[lit (.bool (decide (l.a<0))),nat l.a.natAbs,lit (.bool (decide (l.b<0))),nat l.b.natAbs,lit (.bool (decide (l.c<0))),nat l.c.natAbs,lit (.int .i64 i),lit (.int .i64 j)]
def Tr.rows (k:Nat):Tr→List SV
 | .leaf _=>[]
 | .node l a b=>nd l (a.root (k+1)) (b.root (k+1+a.size))++a.rows (k+1)++b.rows (k+1+a.size)
theorem Tr.rows_len:∀(t:Tr) (k:Nat),(t.rows k).length=t.size*8
 | .leaf _,_=>rfl
 | .node _ a b,k=>by simp only [Tr.rows,Tr.size,List.length_append,rows_len a,rows_len b,nd,List.length_cons,List.length_nil];omega
def Tr.all (p:Li→Prop):Tr→Prop
 | .leaf _=>True
 | .node l a b=>p l∧a.all p∧b.all p
instance tyF:TY Tryz.prog 171 1 8 [lit .nilFunc] false:=⟨⟨[.nilFunc],kr,rfl,rfl,rfl⟩,kr⟩
theorem vA {cs rest:List SV}{k:Nat}{x0 x1 x2 x3 x4 x5 x6 x7 v:SV}(h:cs.length=k):spl (cs++(x0::x1::x2::x3::x4::x5::x6::x7::rest)) (0+k+6) [v]=cs++(x0::x1::x2::x3::x4::x5::v::x7::rest):=by
 subst h;simp only [spl,Nat.zero_add];rw [List.set_append_right _ _ om,Nat.add_sub_cancel_left];rfl
theorem vz {cs rest:List SV}{k:Nat}{x0 x1 x2 x3 x4 x5 x6 x7 v:SV}(h:cs.length=k):spl (cs++(x0::x1::x2::x3::x4::x5::x6::x7::rest)) (0+k+7) [v]=cs++(x0::x1::x2::x3::x4::x5::x6::v::rest):=by
 subst h;simp only [spl,Nat.zero_add];rw [List.set_append_right _ _ om,Nat.add_sub_cancel_left];rfl
theorem pO {cs rest:List SV}{k j:Nat}{x0 x1 x2 x3 x4 x5 x6 x7:SV}(h:cs.length=k) (hj:j<8):Nat.ble (0+k+j+1) (cs++(x0::x1::x2::x3::x4::x5::x6::x7::rest)).length=true:=by
 rw [Nat.ble_eq,List.length_append];simp only [List.length_cons];omega
theorem GI:∀(t:Tr) (_:t.all fun l=>l.le 1000000) (out fn n0:Nat) (cs:List SV) (s:SV) (Hs:LH) (_:Own 145 8 n0 cs s Hs) (_:n0+t.size≤1000000) (r0':Int),
  PuH Tryz.prog 93 [bt t,lit (.pointer (some ⟨out,0,none⟩)),lit (.pointer (some ⟨fn,0,none⟩))]
   ((out,47,[lit (.int .i64 r0'),s])::(fn,171,[fnv 93 [] [lit (.pointer (some ⟨out,0,none⟩)),lit (.pointer (some ⟨fn,0,none⟩))]])::Hs)
   (fun r H=>r=lit (.int .i64 (t.root n0))∧∃s' H',Own 145 8 (n0+t.size) (cs++t.rows n0) s' H'∧
    H=(out,47,[lit (.int .i64 r0'),s'])::(fn,171,[fnv 93 [] [lit (.pointer (some ⟨out,0,none⟩)),lit (.pointer (some ⟨fn,0,none⟩))]])::H') noX:=by
 intro t;induction t with
 |leaf i =>
  intro _ out fn n0 cs s Hs hown _ r0';have c1:=io i
  have hfin:Own 145 8 (n0+(Tr.leaf i).size) (cs++(Tr.leaf i).rows n0) s Hs:=by
   simpa [Tr.size,Tr.rows] using hown
  unfold bt at *;rw [nI]at *;cases i with
  |true =>
   refine PuH.intro Tryz.func93 rfl kr fun C hC=>?_
   repeat(first|(refine A1 ⟨?_⟩;intros)|refine W4 c1 ⟨?_⟩)
   exact eL _ _ (ax (RV.tmp rfl) Lr) Sr ⟨rfl,_,_,hfin,rfl⟩
  |false =>
   refine PuH.intro Tryz.func93 rfl kr fun C hC=>?_
   repeat(first|(refine A1 ⟨?_⟩;intros)|refine W4 c1 ⟨?_⟩)
   exact eL _ _ (ax (RV.tmp rfl) Lr) Sr ⟨rfl,_,_,hfin,rfl⟩
 |node l a b iha ihb =>
  intro hall out fn n0 cs s Hs hown hsz r0';obtain⟨hl,hla,hlb⟩:=hall;have c1:=ik l a b;have c2:=Gj l hl;haveI:=hown.co
  rw [Tr.size_node]at hsz;unfold bt at *;rw [kS]at *;refine PuH.intro Tryz.func93 rfl kr fun C hC=>?_
  repeat(first|(refine A1 ⟨?_⟩;intros)|refine W4 c1 ⟨?_⟩)
  refine Wo (ov_lenOwn hown rfl) ?_;repeat(first|(refine AS ⟨?_⟩;intros)|(refine O1 ⟨?_⟩;intros)|(refine Wcx (c1) ?_)|(refine dq (c1) ?_))
  refine WdN 9 ?_;repeat(first|(refine A1 ⟨?_⟩;intros)|refine W4 c2 ⟨?_⟩)
  simp only [List.drop_succ_cons,List.drop_zero];refine Wown hown om (fun s1 H1 o1=>?_);have o1':=o1;obtain⟨_,⟨h1,_⟩|⟨b1,k1,_,_,rfl,rfl⟩⟩:=o1
  ·omega
  simp only [List.cons_append,List.nil_append];repeat(first|(refine AS ⟨?_⟩;intros)|(refine O1 ⟨?_⟩;intros)|(refine Wcx (c2) ?_)|(refine dq (c2) ?_))
  refine WdN 5 ?_;repeat(refine A1 ⟨?_⟩;intros)
  simp only [List.drop_succ_cons,List.drop_zero];refine WvT (iha hla out fn (n0+1) _ _ _ o1' om r0') ?_;rintro _ _ ⟨rfl,s2,H2,o2,rfl⟩;have o2':=o2;obtain⟨_,⟨h2,_⟩|⟨b2,k2,_,_,rfl,rfl⟩⟩:=o2
  ·omega
  simp only [List.cons_append,List.nil_append];repeat(first|(refine AS ⟨?_⟩;intros)|(refine O1 ⟨?_⟩;intros)|(refine Wcx (c2) ?_)|(refine dq (c2) ?_))
  refine WdN 5 ?_;repeat(refine A1 ⟨?_⟩;intros)
  simp only [List.drop_succ_cons,List.drop_zero];refine WvT (ihb hlb out fn (n0+1+a.size) _ _ _ o2' om r0') ?_;rintro _ _ ⟨rfl,s3,H3,o3,rfl⟩;simp only [List.cons_append,List.nil_append];obtain⟨hlen,⟨h0,_⟩|⟨b3,c3,hc3,hm3,rfl,rfl⟩⟩:=o3
  ·omega
  have hcl:=hown.1;simp only [List.append_assoc,List.cons_append,List.nil_append];repeat(first|(refine AS ⟨?_⟩;intros)|(refine O1 ⟨?_⟩;intros)|(refine Wcx (c2) ?_)|(refine dq (c2) ?_))
  refine WdL 8 3 ?_;repeat(refine A1 ⟨?_⟩;intros)
  refine dL0 ?_;refine Gv ?_ ?_
  ·(repeat(first|exact LOk.nil|refine Lsk ?_|refine Lcv ?_))
  refine Gv ?_ ?_
  ·(repeat(first|exact LOk.nil|refine Lsk ?_|refine Lcv ?_))
  refine Gs (b:=b3) (o:=0+n0*8+6) (sv:=lit (.int .i64 (a.root (n0+1)))) rfl rfl rfl (.there _ (.there _ (.there _ (.here _)))) (vA hcl) (pO hcl (by decide)) ?_ ?_
  ·(repeat(first|exact LOk.nil|refine Lsk ?_|refine Lcv ?_))
  refine Gn ?_ ?_
  ·(repeat(first|exact LOk.nil|refine Lsk ?_|refine Lcv ?_))
  repeat(refine A1 ⟨?_⟩;intros)
  refine WPL.store (b:=b3) (o:=0+n0*8+7) (sv:=lit (.int .i64 (b.root (n0+1+a.size)))) rfl rfl rfl (.there _ (.there _ (.there _ (.here _)))) (vz hcl) (pO hcl (by decide)) ?_;repeat(refine A1 ⟨?_⟩;intros)
  refine eL _ _ (ax (RV.tmp rfl) Lr) (Sc Sr) ⟨rfl,_,_,⟨?_, .inr ⟨b3,c3,?_,hm3,?_,?_⟩⟩,rfl⟩
  ·rw [List.length_append,hown.1,Tr.rows_len,Nat.add_mul]
  ·rw [Tr.size_node];omega
  ·rw [show n0+(Tr.node l a b).size=n0+1+a.size+b.size from by rw [Tr.size_node];omega]
  ·rw [show n0+(Tr.node l a b).size=n0+1+a.size+b.size from by rw [Tr.size_node];omega];simp only [Tr.rows,nd,List.append_assoc,List.cons_append,List.nil_append]
theorem ak.repl {m:Mem}{x y:SV}{c2:List SV}(h:∀v,x.p m v→y.p m v):∀{c1:List SV}{l:List Value},ak m (c1++x::c2) l→ak m (c1++y::c2) l
 | [],[],k=>k.elim
 | [],_::_,k=>⟨⟨h _ k.1.1,k.1.2⟩,k.2⟩
 |_::_,[],k=>k.elim
 |_::_,_::_,k=>⟨k.1,ak.repl h k.2⟩
theorem St.pubC {C:Ctx}{n:Nat}{F:Fr}{H H1 H':LH}{a:Act}{w:World}{b o:Nat}{T To:TypeId}{cs c1 c2:List SV}{v:Value}{s':SV}(hs:St C n F H a w) (hdel:ac b T cs H H1)
  (hu:aq o To (c1++lit v::c2) (c1++s'::c2) H1 H') (hsv:∀(m:Mem) (arr:Array Value),m b=some (.cells arr T (0,0))→ak m cs arr.toList→s'.p m v):St C n F H' a w:=by
 obtain⟨hdef,hn,m,h1,h2,h3,h4,h5⟩:=hs;obtain⟨hmb,arr,hb,hall⟩:=h2.2 _ hdel.mem
 have hle:m.le (fun x=>if x=b then w.heap[b]? else m x):=fun x o hx=>by
  show(if x=b then w.heap[b]? else m x)=some o
  rw [if_neg (fun e=>by rw [e]at hx;rw [hmb]at hx;cases hx)];exact hx
 have hk:=hdel.keys h2.1;have hval:s'.p (fun x=>if x=b then w.heap[b]? else m x) v:=hsv _ arr (by show(if b=b then w.heap[b]? else m b)=_;rw [if_pos rfl];exact hb) (hall.mono hle)
 refine⟨hdef,hn,(fun x=>if x=b then w.heap[b]? else m x),⟨fun x o hx=>?_,Mem.le_trans h1.base hle⟩,⟨hu.keys▸hk.1,fun e he=>?_⟩,⟨Mem.le_trans h3.le hle,fun x hx hnx=>?_,h3.os,h3.tape,h3.output,h3.size,h3.block⟩,
  fun e he=>?_,fun t=>(F t).mono hle (h5 t)⟩
 ·by_cases hxb:x=b
  ·subst hxb;simp only [if_true]at hx;exact hx
  ·simp only [if_neg hxb]at hx;exact h1 x o hx
 ·rcases hu.mem' hk.1 e he with rfl|⟨he',hne⟩
  ·obtain⟨q1,arr',q2,q3⟩:=h2.2 _ (hdel.sub _ hu.mem);refine⟨?_,arr',q2,(q3.mono hle).repl fun u hu'=>?_⟩
   ·show(if o=b then w.heap[b]? else m o)=none
    rw [if_neg (hk.2 _ hu.mem)];exact q1
   ·rw [aj]at hu';subst hu';exact hval
  ·obtain⟨q1,arr',q2,q3⟩:=h2.2 e (hdel.sub e he');exact⟨by show(if e.1=b then w.heap[b]? else m e.1)=none;rw [if_neg (hk.2 e he')];exact q1,arr',q2,q3.mono hle⟩
 ·have hxb:x≠b:=fun e=>by
   subst e;rcases h4 _ hdel.mem with h|h
   ·exact hnx h
   ·exact absurd hx (Nat.not_lt.2 h)
  show(if x=b then w.heap[b]? else m x)=_
  rw [if_neg hxb];exact h3.old x hx hnx
 ·have:e.1∈H'.map (·.1):=List.mem_map.2 ⟨e,he,rfl⟩;rw [hu.keys]at this;obtain⟨e',he',hk'⟩:=List.mem_map.1 this;exact hk'▸h4 e' (hdel.sub e' he')
theorem WPL.pubC {P:Program}{C:Ctx}{n:Nat}{F:Fr}{H H1 H':LH}{ops:Array Oper}{K:Fr→LH→Prop}{l:List Oper}{b o:Nat}{T To:TypeId}{cs c1 c2:List SV}{v:Value}{s':SV}(hdel:ac b T cs H H1)
  (hu:aq o To (c1++lit v::c2) (c1++s'::c2) H1 H') (hsv:∀(m:Mem) (arr:Array Value),m b=some (.cells arr T (0,0))→ak m cs arr.toList→s'.p m v) (k:WPL P C n ops l K F H'):WPL P C n ops l K F H:=by
 unfold WPL at *;exact fun a w hs=>k a w (hs.pubC hdel hu hsv)
abbrev tq (t:Tr):SV:=ag [lit (.int .i64 (t.root 0)),sl (t.rows 0) t.size]
theorem tS {m:Mem}{arr:Array Value}{b:Nat}{T:TypeId}{cs:List SV}{j n c:Nat}(hm:m b=some (.cells arr T (0,0))) (ha:ak m (cs++List.replicate j top) arr.toList) (h1:n≤c) (h2:c≤maxLen):(sl cs n).p m (.slice (some ⟨b,0,none⟩) n c):=by
 refine eJ h1 h2 (.inr ⟨b,0,rfl,arr,T,(0,0),hm,?_⟩);rw [List.drop_zero];exact ha.split.1
theorem EF (t:Tr) (hall:t.all fun l=>l.le 1000000) (hsz:t.size≤1000000):Pu Tryz.prog 41 [bt t] (tq t):=by
 have c:=fun out fn=>GI t hall out fn 0 [] _ [] (Own.nil 145 8) om 0
 refine Pi Tryz.func41 fun C=>?_
 repeat(refine A1 ⟨?_⟩;intros)
 rename_i b1 b2 b3;refine Ss ?_;refine Ws (sv:=fnv 93 [] [lit (.pointer (some ⟨b2,0,none⟩)),lit (.pointer (some ⟨b3,0,none⟩))]) ?_;repeat(refine A1 ⟨?_⟩;intros)
 refine WvT (c _ _) ?_;rintro _ _ ⟨rfl,s',H',ho,rfl⟩;simp only [List.cons_append,List.nil_append,Nat.zero_add]at ho⊢;obtain⟨hlen,⟨h0,rfl,rfl⟩|⟨b,cc,h1,h2,rfl,rfl⟩⟩:=ho
 ·have hr:t.rows 0=[]:=List.eq_nil_of_length_eq_zero (by rw [hlen,h0])
  have hle:Le (lit (.slice none 0 0)) (sl (t.rows 0) t.size):=fun m v hv=>by
   rw [aj]at hv;subst hv;rw [hr,h0];exact eJ (Nat.le_refl _) (by decide) (.inl rfl)
  repeat(refine A1 ⟨?_⟩;intros)
  exact aM (ax (RV.cellA rfl List.mem_cons_self rfl rfl) (Le.ag ⟨Le.refl _,hle,trivial⟩))
 ·refine WPL.pubC (c1:=[lit (.int .i64 0)]) (c2:=[]) (s':=sl (t.rows 0) t.size) (.there _ (.there _ (.there _ (.here _)))) (.there _ (.here _)) (fun m arr hm ha=>tS hm ha h1 h2) ?_;simp only [List.cons_append,List.nil_append];repeat(refine A1 ⟨?_⟩;intros)
  exact aM (ax (RV.cellA rfl List.mem_cons_self rfl rfl) Lr)
def rc:Tr→List SV
 | .leaf i=>[lit (.bool true),lit (.bool i),lit (.bool false),lit (.slice none 0 0),lit (.bool false),lit (.slice none 0 0),lit (.bool false),lit (.slice none 0 0),lit (.pointer none),lit (.pointer none)]
 | .node l a b=>[lit (.bool false),lit (.bool false),lit (.bool (decide (l.a<0))),nat l.a.natAbs,lit (.bool (decide (l.b<0))),nat l.b.natAbs,lit (.bool (decide (l.c<0))),nat l.c.natAbs,pt (rc a),pt (rc b)]
theorem gC (i:Bool):rc (.leaf i)=[lit (.bool true),lit (.bool i),lit (.bool false),lit (.slice none 0 0),lit (.bool false),lit (.slice none 0 0),lit (.bool false),lit (.slice none 0 0),lit (.pointer none),lit (.pointer none)]:=rfl
theorem fq (l:Li) (a b:Tr):rc (.node l a b)=[lit (.bool false),lit (.bool false),lit (.bool (decide (l.a<0))),nat l.a.natAbs,lit (.bool (decide (l.b<0))),nat l.b.natAbs,lit (.bool (decide (l.c<0))),nat l.c.natAbs,pt (rc a),pt (rc b)]:=rfl
abbrev rt (t:Tr):SV:=pt (rc t)
theorem cB (i:Bool):Pu Tryz.prog 62 [lit (.bool i)] (rt (.leaf i)):=by
 unfold rt;rw [gC];apply PuN.toPt (T:=127);refine PuN.intro Tryz.func62 rfl kr fun C=>?_
 repeat(refine A1 ⟨?_⟩;intros)
 exact r9 _ _ (ax (RV.tmp rfl) Lr) mmA (LeL.refl _)
abbrev Hu (d:Nat):SV:=ex fun t:{t:Tr // t.all (fun l=>l.ok∧l.le 1)∧t.size<2^d}=>rt t.1
theorem pY (zs:List Int) (hz:zs.length≤400):∀d:Nat,d≤10→PuT 63 zs [lit (.int .i64 (d:Int))] (Hu d)
 |0,_=>by
  refine PuM.intro Tryz.func63 rfl kr fun C b=>?_
  repeat(refine A1 ⟨?_⟩;intros)
  refine Wtx (bR zs hz 2 om om) mmA fun x=>?_
  obtain⟨x,hx⟩:=x;simp only [];repeat(refine A1 ⟨?_⟩;intros)
  repeat(first|(refine A1 ⟨?_⟩;intros)|(refine Wcx (cB _) ?_)|(refine fF (cB _) ?_)|(refine dq (cB _) ?_)|(refine dS (cB _) ?_))
  exact bN () _ (ax (RV.tmp rfl) (Le.ex ⟨.leaf (decide ((x:Int)=1)),trivial,Nat.lt_of_lt_of_le Nat.zero_lt_one (Nat.le_refl _)⟩ Lr)) mmA (LeL.refl _)
 |d+1,hd=>by
  have ih:=pY zs hz d om;rw [show(d:Int)=((d+1:Nat):Int)-1 from by omega]at ih;have hp:0<2^d:=Nat.pow_pos om;have x0:{t:Tr // t.all (fun l=>l.ok∧l.le 1)∧t.size<2^d}:=⟨.leaf true,trivial,hp⟩
  refine PuM.intro Tryz.func63 rfl kr fun C b=>?_
  repeat(refine A1 ⟨?_⟩;intros)
  refine WgE ?_;refine Wtx (bR zs hz 4 om om) mmA fun k=>?_
  obtain⟨k,hk⟩:=k;simp only [];by_cases hk0:k=0
  ·subst hk0;repeat(refine A1 ⟨?_⟩;intros)
   refine Wtx (bR zs hz 2 om om) mmA fun x=>?_
   obtain⟨x,hx⟩:=x;simp only [];repeat(refine A1 ⟨?_⟩;intros)
   repeat(first|(refine A1 ⟨?_⟩;intros)|(refine Wcx (cB _) ?_)|(refine fF (cB _) ?_)|(refine dq (cB _) ?_)|(refine dS (cB _) ?_))
   exact bN () _ (ax (RV.tmp rfl) (Le.ex ⟨.leaf (decide ((x:Int)=1)),trivial,Nat.pow_pos om⟩ Lr)) mmA (LeL.refl _)
  ·repeat(refine A1 ⟨?_⟩;intros)
   refine Wtx (BS zs hz) mmA fun l=>?_
   obtain⟨l,hok,hle⟩:=l;simp only [];repeat(refine A1 ⟨?_⟩;intros)
   refine Wtx ih mmA fun a=>?_
   repeat(refine A1 ⟨?_⟩;intros)
   refine Wdo (qH ih rfl mmA) ?_;refine Wdo (OpV.exd 29 x0 rfl fun v=>Ov0) ?_;refine Wdo (OpV.exd 30 x0 rfl fun v=>aF (sv:=ag (rc (.node l a.1 v.1))) rfl) ?_;repeat(refine A1 ⟨?_⟩;intros)
   refine bN () _ (ax (RV.tmp (s:=ex fun v:{t:Tr // t.all (fun l=>l.ok∧l.le 1)∧t.size<2^d}=>pt (rc (.node l a.1 v.1))) rfl) (Le.exL fun v=>Le.ex ⟨.node l a.1 v.1,⟨⟨hok,hle⟩,a.2.1,v.2.1⟩,?_⟩ Lr)) mmA (LeL.refl _);have h1:=a.2.2;have h2:=v.2.2;rw [Tr.size_node,Nat.pow_succ];omega
theorem xt:∀(t:Tr) (_:t.all fun l=>l.le 1000000) (n0:Nat) (cs:List SV) (s:SV) (Hs:LH) (_:Own 145 8 n0 cs s Hs) (_:n0+t.size≤1000000),
  PuH Tryz.prog 35 [rt t,s] Hs
   (fun r H=>∃s',Own 145 8 (n0+t.size) (cs++t.rows n0) s' H∧r=Ab.tup [s',lit (.int .i64 (t.root n0))]) noX:=by
 intro t;induction t with
 |leaf i =>
  intro _ n0 cs s Hs hown _
  have hfin:Own 145 8 (n0+(Tr.leaf i).size) (cs++(Tr.leaf i).rows n0) s Hs:=by
   simpa [Tr.size,Tr.rows] using hown
  unfold rt at *;rw [gC]at *;haveI:=hown.co
  cases i with
  |true =>
   refine PuH.intro Tryz.func35 rfl kr fun C hC=>?_
   repeat(refine A1 ⟨?_⟩;intros)
   exact eL _ _ (fD (RV.tmp rfl) (RV.tmp rfl) Lr) Sr ⟨_,hfin,rfl⟩
  |false =>
   refine PuH.intro Tryz.func35 rfl kr fun C hC=>?_
   repeat(refine A1 ⟨?_⟩;intros)
   exact eL _ _ (fD (RV.tmp rfl) (RV.tmp rfl) Lr) Sr ⟨_,hfin,rfl⟩
 |node l a b iha ihb =>
  intro hall n0 cs s Hs hown hsz;obtain⟨hl,hla,hlb⟩:=hall;have c2:=Hp l hl;haveI:=hown.co
  rw [Tr.size_node]at hsz;unfold rt at *;rw [fq]at *;refine PuH.intro Tryz.func35 rfl kr fun C hC=>?_
  repeat(refine A1 ⟨?_⟩;intros)
  refine Wo (ov_lenOwn hown rfl) ?_;repeat(first|(refine A1 ⟨?_⟩;intros)|refine W4 c2 ⟨?_⟩)
  refine Wown hown om (fun s1 H1 o1=>?_);have o1':=o1;obtain⟨_,⟨h1,_⟩|⟨b1,k1,_,_,rfl,rfl⟩⟩:=o1
  ·omega
  simp only [List.cons_append,List.nil_append];repeat(refine A1 ⟨?_⟩;intros)
  refine WfT (iha hla (n0+1) _ _ _ o1' om) ?_;rintro _ _ ⟨s2,o2,rfl⟩;have o2':=o2;obtain⟨_,⟨h2,_⟩|⟨b2,k2,_,_,rfl,rfl⟩⟩:=o2
  ·omega
  simp only [List.cons_append,List.nil_append];repeat(refine A1 ⟨?_⟩;intros)
  refine WfT (ihb hlb (n0+1+a.size) _ _ _ o2' om) ?_;rintro _ _ ⟨s3,o3,rfl⟩;obtain⟨hlen,⟨h0,_⟩|⟨b3,c3,hc3,hm3,rfl,rfl⟩⟩:=o3
  ·omega
  have hcl:=hown.1;simp only [List.append_assoc,List.cons_append,List.nil_append];repeat(refine A1 ⟨?_⟩;intros)
  refine WPL.store (b:=b3) (o:=0+n0*8+6) (sv:=lit (.int .i64 (a.root (n0+1)))) rfl rfl rfl (.there _ (.here _)) (vA hcl) (pO hcl (by decide)) ?_;repeat(refine A1 ⟨?_⟩;intros)
  refine WPL.store (b:=b3) (o:=0+n0*8+7) (sv:=lit (.int .i64 (b.root (n0+1+a.size)))) rfl rfl rfl (.there _ (.here _)) (vz hcl) (pO hcl (by decide)) ?_;repeat(refine A1 ⟨?_⟩;intros)
  refine eL _ _ (fD (RV.tmp rfl) (RV.tmp rfl) Lr) (Sc Sr) ⟨lit (.slice (some ⟨b3,0,none⟩) (n0+1+a.size+b.size) c3),⟨?_, .inr ⟨b3,c3,?_,hm3,?_,?_⟩⟩,rfl⟩
  ·rw [List.length_append,hown.1,Tr.rows_len,Nat.add_mul]
  ·rw [Tr.size_node];omega
  ·rw [show n0+(Tr.node l a b).size=n0+1+a.size+b.size from by rw [Tr.size_node];omega]
  ·rw [show n0+(Tr.node l a b).size=n0+1+a.size+b.size from by rw [Tr.size_node];omega];simp only [Tr.rows,nd,List.append_assoc,List.cons_append,List.nil_append]
theorem Aw (t:Tr) (hall:t.all fun l=>l.le 1000000) (hsz:t.size≤1000000):Pu Tryz.prog 11 [rt t] (tq t):=by
 have c:=xt t hall 0 [] _ [] (Own.nil 145 8) om;refine Pi Tryz.func11 fun C=>?_
 repeat(refine A1 ⟨?_⟩;intros)
 refine WfT c ?_;rintro _ _ ⟨s',ho,rfl⟩;simp only [List.cons_append,List.nil_append,Nat.zero_add]at ho⊢;obtain⟨hlen,⟨h0,rfl,rfl⟩|⟨b,cc,h1,h2,rfl,rfl⟩⟩:=ho
 ·have hr:t.rows 0=[]:=List.eq_nil_of_length_eq_zero (by rw [hlen,h0])
  have hle:Le (lit (.slice none 0 0)) (sl (t.rows 0) t.size):=fun m v hv=>by
   rw [aj]at hv;subst hv;rw [hr,h0];exact eJ (Nat.le_refl _) (by decide) (.inl rfl)
  repeat(refine A1 ⟨?_⟩;intros)
  exact aM (ax (RV.cellA (cs':=[lit (.int .i64 (t.root 0)),lit (.slice none 0 0)]) rfl mmA rfl rfl) (Le.ag ⟨Le.refl _,hle,trivial⟩))
 ·(refine O1 ⟨?_⟩;intros)
  (refine O1 ⟨?_⟩;intros)
  refine WPL.pub (d:=7) (s':=sl (t.rows 0) t.size) (.there _ (.there _ (.here _))) rfl (fun m arr hm ha=>tS hm ha h1 h2) ?_;exact Z2
section
variable {P:Program}{C:Ctx}{n:Nat}{F Fe:Fr}{H:LH}{ops:Array Oper}
theorem BG {o:Oper}{a:Act}{w:World}{next:Act→World→Prop}{Q Q':Exit→Act→World→Prop}(hp:∀c a w,Q' (.panic c) a w→Q (.panic c) a w) (ho:∀a w,Q' .outgrown a w→Q .outgrown a w) (h:o.wp P a w next Q'):o.wp P a w next Q:=by
 unfold Oper.wp at *;generalize(execOp a.eval o).run P w=r at *;cases r with
 |ok n w' =>
  cases n <;> simp only [Oper.upon]at h⊢<;>
   first
    |exact h
    |exact Calls.mono h (fun e w'' he=>by cases e <;> first|exact he|exact hp _ _ _ he|exact he.imp fun a h=>h.imp fun w h=>ho a w h)
 |halt x w'=>cases x <;> simp only [Oper.upon]at h⊢<;> first|exact hp _ _ _ h|exact h
theorem TS.ofWPL {i:Nat}{o:Oper}{sv:SV}{H':LH}(ho:ops[i]? = some o) (h:∀F,(∀t,t∈o.looksAt ops→Fe t=F t)→WPL P ⟨C.ks,C.m,C.w,noX,C.dfs⟩ n ops [o] (fun F' H2=>F'=dJ o F sv∧H2=H') F H):TS P C n ops i o Fe H sv H':=by
 intro F hF a w hst Q' K' hK';have h1:=h F hF;unfold WPL at h1
 have h2:=h1 a w hst (fun e a w=>match e with
  | .normal=>K' a w
  | .panic c=>Q' (.panic c) a w
  | .outgrown=>Q' .outgrown a w
  |_=>False) ⟨fun a' w' F' H2 hs' hk=>by
   obtain⟨rfl,rfl⟩:=hk;exact hK' a' w' hs',fun ch a' w' hp=>by obtain⟨_,_,_,_,_,_,_,_,_,_,_,hf⟩:=hp;exact hf.elim⟩
 unfold wpOp;simp only [ho];unfold wpList at h2;split
 ·rename_i hw;rw [if_pos hw]at h2;rcases h2 with h2|h2
  ·exact .inl (BG (fun _ _ _ h=>h) (fun _ _ h=>h) h2)
  ·exact .inr ⟨h2.1,h2.2⟩
 ·rename_i hw;rw [if_neg hw]at h2;exact h2
theorem TS.callH {i d:Nat}{f:FuncId}{l:List Operand}{tys:Array TypeId}{ty:TypeId}{pos:String}{aft:Array Edge}{svs:List SV}{Hin Hout Rs:LH}{res:SV}(ho:ops[i]? = some ⟨some d, .call ⟨.value (.func f),l.toArray,tys⟩,ty,pos,aft,none⟩) (hd:Nat.blt d n=true)
  (hc:PuH P f svs Hin (fun r H=>r=res∧H=Hout) noX) (hs:Tk H Hin Rs) (ha:l.map (ev Fe)=svs):TS P C n ops i ⟨some d, .call ⟨.value (.func f),l.toArray,tys⟩,ty,pos,aft,none⟩ Fe H res (Rs++Hout):=by
 refine TS.ofWPL ho fun F hF=>?_
 refine WfT hc ?_ ?_ hs hd
 ·rintro _ _ ⟨rfl,rfl⟩;exact WPL.nil ⟨rfl,rfl⟩
 ·rw [←ha];refine List.map_congr_left fun x hx=>?_
  exact cD (by simp [Op.operands,Call.operands,hx]) hF
theorem Gc {k q i d:Nat}{late:List NO'}{K:Fr→LH→Prop}{r:List Oper}{f:FuncId}{l:List Operand}{tys:Array TypeId}{ty:TypeId}{pos:String}{aft:Array Edge}{svs:List SV}{Hin Hout Rs:LH}{res:SV}
  (hc:PuH P f svs Hin (fun r H=>r=res∧H=Hout) noX) (hs:Tk H Hin Rs) (hl:LOk P ops k q n H F late) (h:Stg P C n ops k q late K (i+1) r (upd F d res) (Rs++Hout))
  (ha:l.map (ev F)=svs:=by exact rfl) (ho:ops[i]? = some ⟨some d, .call ⟨.value (.func f),l.toArray,tys⟩,ty,pos,aft,none⟩:=by exact rfl) (hd:Nat.blt d n=true:=by exact rfl) :
  Stg P C n ops k q late K i (⟨some d, .call ⟨.value (.func f),l.toArray,tys⟩,ty,pos,aft,none⟩::r) F H:=⟨hl,_,(TS.callH ho hd hc hs ha).toR,by rintro _ _ ⟨rfl,rfl⟩;exact h⟩
end
def marks (k n:Nat):List SV:=List.replicate k (lit (.bool true))++List.replicate (n-k) (lit (.bool false))
theorem B6 {k n:Nat}(h:k≤n):(marks k n).length=n:=by unfold marks;simp;omega
theorem B5 {k n:Nat}(h:k<n):(marks k n).set k (lit (.bool true))=marks (k+1) n:=by
 unfold marks;rw [List.set_append_right _ _ (by simp),List.length_replicate,Nat.sub_self,show n-k=(n-(k+1))+1 from by omega,List.replicate_succ,List.set_cons_zero,List.replicate_succ',List.append_assoc];rfl
theorem B7 {k n:Nat}(h:k<n):(marks k n)[k]? = some (lit (.bool false)):=by
 unfold marks;rw [List.getElem?_append_right (by simp),List.length_replicate,Nat.sub_self,show n-k=(n-(k+1))+1 from by omega,List.replicate_succ];rfl
def At (all:List SV) (k:Nat) (t:Tr):Prop:=(all.drop (k*8)).take (t.size*8)=t.rows k
theorem At.node {all:List SV}{k:Nat}{l:Li}{a b:Tr}(h:At all k (.node l a b)):(all.drop (k*8)).take 8=nd l (a.root (k+1)) (b.root (k+1+a.size))∧At all (k+1) a∧At all (k+1+a.size) b:=by
 unfold At at h⊢;rw [Tr.size_node]at h;simp only [Tr.rows]at h;have hn:(nd l (a.root (k+1)) (b.root (k+1+a.size))).length=8:=rfl;have h1:=congrArg (List.take 8) h;rw [List.take_take,Nat.min_eq_left om,List.append_assoc,List.take_left' hn]at h1;have h2:=congrArg (List.drop 8) h;rw [List.drop_take,List.drop_drop,List.append_assoc,List.drop_left' hn]at h2;rw [show k*8+8=(k+1)*8 from by omega,show(1+a.size+b.size)*8-8=a.size*8+b.size*8 from by omega]at h2;have ha:=Tr.rows_len a (k+1);have h3:=congrArg (List.take (a.size*8)) h2;rw [List.take_take,Nat.min_eq_left om,List.take_left' ha]at h3;have h4:=congrArg (List.drop (a.size*8)) h2;rw [List.drop_take,List.drop_drop,List.drop_left' ha]at h4;rw [show(k+1)*8+a.size*8=(k+1+a.size)*8 from by omega,Nat.add_sub_cancel_left]at h4;exact⟨h1,h3,h4⟩
abbrev GY (all:List SV) (n s k:Nat):List SV:=[sl all n,lit (.slice (some ⟨s,0,none⟩) n n),lit (.int .i64 (k:Int)),lit (.bool false)]
theorem Aj:∀(t:Tr) (_:t.all fun l=>l.ok∧l.le 100000) (all:List SV) (n k r s:Nat) (_:At all k t) (_:k+t.size≤n) (_:n≤1000000) (_:all.length=n*8),
  PuH Tryz.prog 88 [lit (.pointer (some ⟨r,0,none⟩)),lit (.int .i64 (t.root k))] [(r,163,GY all n s k),(s,4,marks k n)]
   (fun res H=>res=bt t∧H=[(r,163,GY all n s (k+t.size)),(s,4,marks (k+t.size) n)]) noX:=by
 intro t;induction t with
 |leaf i =>
  intro _ all n k r s _ _ _ _;have c1:=uz i;cases i with
  |true =>
   simp only [Tr.root];refine PuH.intro Tryz.func88 rfl kr fun C hC=>?_
   repeat(first|(refine A1 ⟨?_⟩;intros)|refine W4 c1 ⟨?_⟩)
   exact eL _ _ (ax (RV.tmp rfl) Lr) Sr ⟨rfl,rfl⟩
  |false =>
   simp only [Tr.root];refine PuH.intro Tryz.func88 rfl kr fun C hC=>?_
   repeat(first|(refine A1 ⟨?_⟩;intros)|refine W4 c1 ⟨?_⟩)
   exact eL _ _ (ax (RV.tmp rfl) Lr) Sr ⟨rfl,rfl⟩
 |node l a b iha ihb =>
  intro hall all n k r s hat hkn hn hlen;obtain⟨⟨hok,hle⟩,hla,hlb⟩:=hall;obtain⟨h1,hA,hB⟩:=hat.node;rw [Tr.size_node]at hkn;have c2:=Gb hok hle;have hg:=B7 (k:=k) (n:=n) om;have hs:spl (marks k n) k [lit (.bool true)]=marks (k+1) n:=by simp only [spl];exact B5 om
  simp only [nd]at h1;have hml:=B6 (k:=k) (n:=n) om;have hne:all≠[]:=fun e=>by rw [e]at hlen;simp at hlen;omega
  simp only [Tr.root];refine PuH.intro Tryz.func88 rfl kr fun C hC=>?_
  repeat(refine A1 ⟨?_⟩;intros)
  refine WgE ?_;refine Wo (qF rfl mmA hg) ?_;repeat(refine A1 ⟨?_⟩;intros)
  refine WPL.store (b:=s) (o:=k) (sv:=lit (.bool true)) (cs':=marks (k+1) n) rfl rfl rfl (.there _ (.here _)) hs (by rw [Nat.ble_eq,hml];omega) ?_;repeat(refine A1 ⟨?_⟩;intros)
  refine Wo (a8 rfl rfl om om h1 hne) ?_;repeat(first|(refine A1 ⟨?_⟩;intros)|refine W4 c2 ⟨?_⟩)
  refine WfT (iha hla all n (k+1) r s hA om hn hlen) ?_;rintro _ _ ⟨rfl,rfl⟩;simp only [List.cons_append,List.nil_append];repeat(first|(refine AS ⟨?_⟩;intros)|(refine O1 ⟨?_⟩;intros)|(refine Wcx (c2) ?_)|(refine dq (c2) ?_))
  refine WdL 5 1 ?_;repeat(refine A1 ⟨?_⟩;intros)
  refine dL0 ?_;have c3:=ihb hlb all n (k+1+a.size) r s hB om hn hlen;have c4:=A5 l a b;refine Gc c3 (.skip _ (.skip _ (.same _))) ?_ ?_
  ·(repeat(first|exact LOk.nil|refine Lsk ?_|refine Lcv ?_))
  simp only [List.cons_append,List.nil_append];refine Gn ?_ ?_
  ·(repeat(first|exact LOk.nil|refine Lsk ?_|refine Lcv ?_))
  repeat(first|(refine A1 ⟨?_⟩;intros)|refine W4 c4 ⟨?_⟩)
  rw [show k+1+a.size+b.size=k+(Tr.node l a b).size from by rw [Tr.size_node];omega];exact eL _ _ (ax (RV.tmp rfl) Lr) (Sc (Sc Sr)) ⟨rfl,rfl⟩
theorem At.all (t:Tr):At (t.rows 0) 0 t:=by
 unfold At;rw [Nat.zero_mul,List.drop_zero,←Tr.rows_len t 0,List.take_length]
theorem yv (t:Tr) (hall:t.all fun l=>l.ok∧l.le 100000) (hsz:t.size≤60000):Pu Tryz.prog 38 [tq t] (Ab.tup [bt t,lit (.bool true)]):=by
 have c:=fun r s=>Aj t hall (t.rows 0) t.size 0 r s (At.all t) om om (t.rows_len 0)
 simp only [Nat.zero_add]at c;refine Pi Tryz.func38 fun C=>?_
 repeat(first|(refine AS ⟨?_⟩;intros)|(refine O1 ⟨?_⟩;intros)|(refine Wcx (uz true) ?_)|(refine dq (uz true) ?_))
 refine WdN 6 ?_;repeat(refine A1 ⟨?_⟩;intros)
 refine J6 (FS rfl rfl om om) ?_;repeat(refine A1 ⟨?_⟩;intros)
 rename_i b1 s r;refine WfT (c r s) ?_;rintro _ _ ⟨rfl,rfl⟩;simp only [List.cons_append,List.nil_append];repeat(refine A1 ⟨?_⟩;intros)
 exact G2
def Tr.im (m:M6 Rat):Tr→Tr
 | .leaf i => .leaf i
 | .node l a b => .node (l.im m) (a.im m) (b.im m)
theorem Tr.im_size (m:M6 Rat):∀t:Tr,(t.im m).size=t.size
 | .leaf _=>rfl
 | .node _ a b=>by simp only [Tr.im,Tr.size,im_size m a,im_size m b]
theorem Tr.all_mono {p q:Li→Prop}(h:∀l,p l→q l):∀t:Tr,t.all p→t.all q
 | .leaf _,_=>trivial
 | .node _ a b,k=>⟨h _ k.1,all_mono h a k.2.1,all_mono h b k.2.2⟩
theorem Tr.im_all {m:M6 Rat}{p q:Li→Prop}(h:∀l,p l→q (l.im m)):∀t:Tr,t.all p→(t.im m).all q
 | .leaf _,_=>trivial
 | .node _ a b,k=>⟨h _ k.1,im_all h a k.2.1,im_all h b k.2.2⟩
theorem Tr.im_inv {m:M6 Rat}(hdet:m.det≠0):∀t:Tr,t.all Li.ok→(t.im m).im m.inv=t
 | .leaf _,_=>rfl
 | .node l a b,k=>by simp only [Tr.im,Li.im_inv hdet k.1,im_inv hdet a k.2.1,im_inv hdet b k.2.2]
theorem Bw {m:M6 Rat}{L:Nat}(hm:m.le L) (h1:1≤L) (hL:L≤400) (hdet:m.det≠0):∀t:Tr,(t.all fun l=>l.ok∧l.le L)→Pu Tryz.prog 40 [mf m,bt t] (bt (t.im m)):=by
 intro t;induction t with
 |leaf i =>
  intro _;have c1:=io i;simp only [Tr.im];refine Pi Tryz.func40 fun C=>?_
  exact Y1 c1
 |node l a b iha ihb =>
  intro ⟨⟨hok,hle⟩,hla,hlb⟩;have c1:=ik l a b;have c2:=Ej hm hle h1 hL hdet hok;have c3:=iha hla;have c4:=ihb hlb;have c5:=A5 (l.im m) (a.im m) (b.im m);simp only [Tr.im];unfold bt at *;rw [kS]at *;refine Pi Tryz.func40 fun C=>?_
  repeat(first|(refine A1 ⟨?_⟩;intros)|refine W4 c1 ⟨?_⟩|refine W4 c2 ⟨?_⟩|refine W4 c3 ⟨?_⟩|refine W4 c4 ⟨?_⟩|refine W4 c5 ⟨?_⟩)
  exact E1
theorem Li.im_le' {m:M6 Rat}{l:Li}{L:Nat}(hm:m.le L) (h:l.le L) (h1:1≤L) (hL:L≤400):(l.im m).le 100000:=by
 have hi:=Li.im_le hm h h1;exact⟨Nat.le_trans hi.a om,Nat.le_trans hi.b om,Nat.le_trans hi.c om⟩
theorem Li.le.to {l:Li}{L L':Nat}(h:l.le L) (k:L≤L'):l.le L':=⟨Nat.le_trans h.a k,Nat.le_trans h.b k,Nat.le_trans h.c k⟩
theorem GO {m:M6 Rat}{t:Tr}{L:Nat}(hm:m.le L) (h1:1≤L) (hL:L≤400) (hdet:m.det≠0) (ht:t.all fun l=>l.ok∧l.le L) (hs:t.size≤60000):Pu Tryz.prog 13 [mq m,tq t] (Ab.tup [tq (t.im m),lit .nilIface]):=by
 have c1:=yv t (t.all_mono (fun l h=>⟨h.1,h.2.to om⟩) ht) hs;have c2:=AC hm om hdet;have c3:=Bw hm h1 hL hdet t ht;have c4:=EF (t.im m) (t.im_all (fun l h=>(Li.im_le' hm h.2 h1 hL).to om) ht) (by rw [Tr.im_size];omega);refine Pi Tryz.func13 fun C=>?_
 repeat(first|(refine A1 ⟨?_⟩;intros)|refine W4 c1 ⟨?_⟩|refine W4 c2 ⟨?_⟩|refine W4 c3 ⟨?_⟩|refine W4 c4 ⟨?_⟩)
 exact G3
end Go.Ab
