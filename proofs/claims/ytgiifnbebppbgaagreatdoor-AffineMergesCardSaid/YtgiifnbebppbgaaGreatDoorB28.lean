/- Texts laid one behind the other: PRes, IsG, PMrg, ZipB. -/
import Derived.Test.YtgiifnbebppbgaaGreatDoorB27
import Derived.Test.YtgiifnbebppbgaaGreatDoorB16
import Derived.Test.YtgiifnbebppbgaaGreatDoorB03
import Derived.Test.YtgiifnbebppbgaaGreatDoorB13
import Derived.Stop.Asserts
import Derived.LaidEql
import Derived.Test.YtgiifnbebppbgaaGreatDoorB18
import Derived.Test.YtgiifnbebppbgaaGreatDoorB23
import Derived.Test.YtgiifnbebppbgaaGreatDoorZipA
set_option linter.unusedSectionVars false
set_option linter.unusedVariables false
set_option linter.unusedSimpArgs false
namespace Go.Ab
open Go.Proofs
variable [Base]
theorem end4 {P:Program}{F:Fr}{H:LH}{r1 r2 r3 r4:ResultVar}{s1 s2 s3 s4 res:SV}(h1:RV P F H r1 s1) (h2:RV P F H r2 s2) (h3:RV P F H r3 s3) (h4:RV P F H r4 s4) (hl:Le (tup [s1,s2,s3,s4]) res):Ends P [r1,r2,r3,r4] res F H:=⟨[s1,s2,s3,s4],⟨h1,h2,h3,h4,trivial⟩,hl⟩
def FgLe (L:Nat) (s:Fg):Prop:=s.1.le L∧s.2.le (50*L)
theorem partGo_le {l:Li}{L:Nat}(hl:l.le L) (h1:1≤L):∀{c:PC}{v w:Spn},(∀s∈c,s.1.le L)→v.le (50*L)→partGo l v c=some w→w.le (50*L)
 | [],v,w,_,hv,h=>by cases h;exact hv
 |s::c,v,w,hc,hv,h=>by
  rw [partGo_cons]at h
  split at h
  ·exact partGo_le hl h1 (fun x hx=>hc x (List.mem_cons_of_mem _ hx)) (cutV_le hl (hc s List.mem_cons_self) h1 hv) h
  ·cases h
theorem clipP_le {pos:PC→Nat}{c:PC}{l:Li}{L:Nat}(hc:∀s∈c,FgLe L s) (hl:l.le L) (h1:1≤L):∀s∈(clipP pos c l).1,FgLe L s:=fun s hs=>by
 unfold clipP at hs
 cases hp:partP c l with
 |none=>rw [hp]at hs;exact hc s hs
 |some v =>
  rw [hp]at hs
  simp only at hs
  rw [(ins_perm (keptP c l) (l,v) _).mem_iff,List.mem_cons]at hs
  rcases hs with e|e
  ·rw [e];exact⟨hl,partGo_le hl h1 (fun x hx=>(hc x hx).1) (full_le (by omega)) hp⟩
  ·obtain⟨s0,h2,h3,h4⟩:=keptP_mem.1 e
   obtain⟨k1,k2⟩:=hc s0 h2
   have hv:=cutV_le k1 hl h1 k2
   rw [cutV_L]at h4
   split at h4
   ·have e:=Option.some.inj h4
    rw [FgLe,←h3,←e];exact⟨k1,hv⟩
   ·cases h4
theorem clipP_len (pos:PC→Nat) (c:PC) (l:Li):(clipP pos c l).1.length≤c.length+1:=by
 unfold clipP
 cases hp:partP c l with
 |none=>exact Nat.le_succ _
 |some v =>
  have:=kept_len c l
  simp only [List.length_append,List.length_cons,List.length_take,List.length_drop]
  omega
theorem divide_pu {c:PC}{l:Li}{L:Nat}(hc:∀s∈c,FgLe L s) (hl:l.le L) (h1:1≤L) (hU:L≤500) (hn:c.length≤100000) :
  Pu Tryz.prog 238 [pcs c,lfl l] (Ab.tup [pcs (clipP (bsPos l) c l).1,pcs (clipP (bsPos l.neg) c l.neg).1,lit (.bool (clipP (bsPos l) c l).2),lit (.bool (clipP (bsPos l.neg) c l.neg).2)]):=by
 have c1:=clip_pu hc hl h1 hU hn
 have hln:l.neg.le L:=⟨by show il (-l.a)≤L;rw [il_neg];exact hl.a,by show il (-l.b)≤L;rw [il_neg];exact hl.b,by show il (-l.c)≤L;rw [il_neg];exact hl.c⟩
 have c2:=clip_pu hc hln h1 hU hn
 have c3:=lrev_pu l (hl.gr (by omega))
 clear hc hl hln
 refine Pu.intro Tryz.func238 rfl (by kernel_rfl) fun C=>?_
 repeat(first|(refine A1 ⟨?_⟩;intros)|refine W4 c1 ⟨?_⟩|refine W4 c2 ⟨?_⟩|refine W4 c3 ⟨?_⟩)
 exact endR (end4 (RV.tmp rfl) (RV.tmp rfl) (RV.tmp rfl) (RV.tmp rfl) (Le.refl _))
theorem bjoin_pu (l:Li) (a b:Tr):Pu Tryz.prog 239 [lfl l,bt a,bt b] (bt (joinT l a b)):=by
 have c1:=bnew_pu l a b
 cases a with
 |leaf i =>
  have d1:=isLeaf_leaf i
  cases b with
  |leaf j =>
   have d2:=isLeaf_leaf j
   show Pu _ _ _ (bt (if i=j then .leaf i else .node l (.leaf i) (.leaf j)))
   cases i <;> cases j
   all_goals
    first|rw [if_pos rfl]|rw [if_neg (by decide)]
    simp only [bt,bc_leaf]at *
    refine Pu.intro Tryz.func239 rfl (by kernel_rfl) fun C=>?_
    repeat(first|(refine A1 ⟨?_⟩;intros)|refine W4 d1 ⟨?_⟩|refine W4 d2 ⟨?_⟩|refine W4 c1 ⟨?_⟩)
    exact E1
  |node m x y =>
   have d2:=isLeaf_node m x y
   show Pu _ _ _ (bt (.node l (.leaf i) (.node m x y)))
   refine Pu.intro Tryz.func239 rfl (by kernel_rfl) fun C=>?_
   repeat(first|(refine A1 ⟨?_⟩;intros)|refine W4 d1 ⟨?_⟩|refine W4 d2 ⟨?_⟩|refine W4 c1 ⟨?_⟩)
   exact E1
 |node m x y =>
  have d1:=isLeaf_node m x y
  show Pu _ _ _ (bt (.node l (.node m x y) b))
  refine Pu.intro Tryz.func239 rfl (by kernel_rfl) fun C=>?_
  repeat(first|(refine A1 ⟨?_⟩;intros)|refine W4 d1 ⟨?_⟩|refine W4 c1 ⟨?_⟩)
  exact E1
theorem restr_pu {L:Nat}(h1:1≤L) (hU:L≤500):∀(t:Tr) (c:PC),(t.all fun l=>l.le L)→(∀s∈c,FgLe L s)→c.length+depT t≤100000→Pu Tryz.prog 200 [bt t,pcs c] (bt (restrP bsPos t c))
 | .leaf i,c,_,_,_=>by
  have d1:=isLeaf_leaf i
  show Pu _ _ _ (bt (.leaf i))
  refine Pu.intro Tryz.func200 rfl (by kernel_rfl) fun C=>?_
  repeat(first|(refine A1 ⟨?_⟩;intros)|refine W4 d1 ⟨?_⟩)
  exact E1
 | .node l a b,c,hall,hc,hd=>by
  have hd':c.length+(1+max (depT a) (depT b))≤100000:=hd
  have d1:=isLeaf_node l a b
  have d2:=divide_pu hc hall.1 h1 hU (by omega)
  have hln:l.neg.le L:=⟨by show il (-l.a)≤L;rw [il_neg];exact hall.1.a,by show il (-l.b)≤L;rw [il_neg];exact hall.1.b,by show il (-l.c)≤L;rw [il_neg];exact hall.1.c⟩
  have d3:=restr_pu h1 hU a c hall.2.1 hc (by omega)
  have d4:=restr_pu h1 hU b c hall.2.2 hc (by omega)
  have n1:=clipP_len (bsPos l) c l
  have n2:=clipP_len (bsPos l.neg) c l.neg
  have d5:=restr_pu h1 hU a (clipP (bsPos l) c l).1 hall.2.1 (clipP_le hc hall.1 h1) (by omega)
  have d6:=restr_pu h1 hU b (clipP (bsPos l.neg) c l.neg).1 hall.2.2 (clipP_le hc hln h1) (by omega)
  have d7:=bjoin_pu l (restrP bsPos a (clipP (bsPos l) c l).1) (restrP bsPos b (clipP (bsPos l.neg) c l.neg).1)
  unfold restrP
  clear hd hd' n1 n2 hc hall hln
  generalize restrP bsPos a c=ra at *
  generalize restrP bsPos b c=rb at *
  generalize restrP bsPos a (clipP (bsPos l) c l).1=ra' at *
  generalize restrP bsPos b (clipP (bsPos l.neg) c l.neg).1=rb' at *
  generalize joinT l ra' rb'=rj at *
  generalize(clipP (bsPos l) c l).1=c1 at *
  generalize(clipP (bsPos l.neg) c l.neg).1=c2 at *
  have en:bt (.node l a b)=pt (bc (.node l a b)):=rfl
  generalize hb1:(clipP (bsPos l) c l).2=b1 at *
  generalize hb2:(clipP (bsPos l.neg) c l.neg).2=b2 at *
  clear hb1 hb2
  simp only [bt,bc_node]at d1 d2⊢
  cases b2
  ·rw [if_pos rfl]
   refine Pu.intro Tryz.func200 rfl (by kernel_rfl) fun C=>?_
   repeat(first|(refine A1 ⟨?_⟩;intros)|refine W4 d1 ⟨?_⟩|refine W4 d2 ⟨?_⟩|refine W4 d3 ⟨?_⟩)
   exact E1
  ·rw [if_neg (by decide)]
   cases b1
   ·rw [if_pos rfl]
    refine Pu.intro Tryz.func200 rfl (by kernel_rfl) fun C=>?_
    repeat(first|(refine A1 ⟨?_⟩;intros)|refine W4 d1 ⟨?_⟩|refine W4 d2 ⟨?_⟩|refine W4 d4 ⟨?_⟩)
    exact E1
   ·rw [if_neg (by decide)]
    refine Pu.intro Tryz.func200 rfl (by kernel_rfl) fun C=>?_
    repeat(first|(refine A1 ⟨?_⟩;intros)|refine W4 d1 ⟨?_⟩|refine W4 d2 ⟨?_⟩|refine W4 d5 ⟨?_⟩|refine W4 d6 ⟨?_⟩|refine W4 d7 ⟨?_⟩)
    exact E1
section
variable {F:Fr}{H:LH}{ty:TypeId}
end
section
variable {P:Program}{F:Fr}{H:LH}{ty:TypeId}
end
theorem complement_pu:∀t:Tr,Pu Tryz.prog 147 [bt t] (bt (notT t))
 | .leaf i=>by
  have c:=leaf_pu (!i)
  have d1:=isLeaf_leaf i
  show Pu _ _ _ (bt (.leaf (!i)))
  simp only [bt,bc_leaf]at d1⊢
  refine Pu.intro Tryz.func147 rfl (by kernel_rfl) fun C=>?_
  repeat(first|(refine A1 ⟨?_⟩;intros)|refine W4 d1 ⟨?_⟩|refine W4 c ⟨?_⟩)
  exact E1
 | .node l a b=>by
  have c1:=complement_pu a
  have c2:=complement_pu b
  have c3:=bnew_pu l (notT a) (notT b)
  have d1:=isLeaf_node l a b
  show Pu _ _ _ (bt (.node l (notT a) (notT b)))
  generalize notT a=na at *
  generalize notT b=nb at *
  simp only [bt,bc_node]at d1 c3⊢
  refine Pu.intro Tryz.func147 rfl (by kernel_rfl) fun C=>?_
  repeat(first|(refine A1 ⟨?_⟩;intros)|refine W4 d1 ⟨?_⟩|refine W4 c1 ⟨?_⟩|refine W4 c2 ⟨?_⟩|refine W4 c3 ⟨?_⟩)
  exact E1
theorem depth_pu:∀t:Tr,depT t≤1000000→Pu Tryz.prog 139 [bt t] (lit (.int .i64 (depT t:Nat)))
 | .leaf i,_=>by
  have d1:=isLeaf_leaf i
  show Pu _ _ _ (lit (.int .i64 (0:Nat)))
  refine Pu.intro Tryz.func139 rfl (by kernel_rfl) fun C=>?_
  repeat(first|(refine A1 ⟨?_⟩;intros)|refine W4 d1 ⟨?_⟩)
  exact E1
 | .node l a b,h=>by
  simp only [depT]at h
  have c1:=depth_pu a (by omega)
  have c2:=depth_pu b (by omega)
  have d1:=isLeaf_node l a b
  show Pu _ _ _ (lit (.int .i64 (1+max (depT a) (depT b):Nat)))
  generalize depT a=x at *
  generalize depT b=y at *
  simp only [bt,bc_node]at d1⊢
  refine Pu.intro Tryz.func139 rfl (by kernel_rfl) fun C=>?_
  repeat(first|(refine A1 ⟨?_⟩;intros)|refine W4 d1 ⟨?_⟩|refine W4 c1 ⟨?_⟩|refine W4 c2 ⟨?_⟩)
  refine Wdo (ov_max rfl rfl (r:=((max x y:Nat):Int)) (by split <;> omega)) ?_
  repeat(refine A1 ⟨?_⟩;intros)
  ((first|refine endR ?_|refine endN ?_);refine end1 (RV.tmp rfl) (Le.int ?_))
  all_goals omega
theorem choose_pu {L:Nat}(h1:1≤L) (hU:L≤500) (op:Int) (hop:1≤op∧op≤4) (i:Bool) (b:Tr) (c:PC) (hb:b.all fun l=>l.le L) (hc:∀s∈c,FgLe L s) (hd:c.length+depT b≤100000) :
  Pu Tryz.prog 237 [lit (.int .i64 op),lit (.bool i),bt b,pcs c] (bt (chooseP bsPos op i b c)):=by
 have d1:=restr_pu h1 hU b c hb hc hd
 have d2:=complement_pu (restrP bsPos b c)
 have d3:=leaf_pu i
 have d4:=leaf_pu false
 unfold chooseP
 generalize notT (restrP bsPos b c)=nb at *
 generalize restrP bsPos b c=rb at *
 clear hb hc hd
 have ho:op=1∨op=2∨op=3∨op=4:=by omega
 rcases ho with rfl|rfl|rfl|rfl <;> cases i
 all_goals
  simp only [Int.reduceEq,true_and,false_and,and_true,and_false,or_false,false_or,or_true,true_or,or_self,if_true,if_false,Bool.false_eq_true,Bool.true_eq_false,reduceCtorEq]
  refine Pu.intro Tryz.func237 rfl (by kernel_rfl) fun C=>?_
  repeat(first|(refine A1 ⟨?_⟩;intros)|refine W4 d1 ⟨?_⟩|refine W4 d2 ⟨?_⟩|refine W4 d3 ⟨?_⟩|refine W4 d4 ⟨?_⟩)
  exact E1
theorem merge_pu {L:Nat}(h1:1≤L) (hU:L≤500) (op:Int) (hop:1≤op∧op≤4) (b:Tr) (hb:b.all fun l=>l.le L):∀(t:Tr) (c:PC),(t.all fun l=>l.le L)→(∀s∈c,FgLe L s)→c.length+depT t+depT b≤100000→Pu Tryz.prog 176 [lit (.int .i64 op),bt t,bt b,pcs c] (bt (mergeP bsPos op t b c))
 | .leaf i,c,_,hc,hd=>by
  have d1:=isLeaf_leaf i
  have d2:=choose_pu h1 hU op hop i b c hb hc (by simp only [depT]at hd;omega)
  show Pu _ _ _ (bt (chooseP bsPos op i b c))
  generalize chooseP bsPos op i b c=r at *
  have en:bt (.leaf i)=pt (bc (.leaf i)):=rfl
  rw [en,bc_leaf]at d1⊢
  clear hc hd hb en
  refine Pu.intro Tryz.func176 rfl (by kernel_rfl) fun C=>?_
  repeat(first|(refine A1 ⟨?_⟩;intros)|refine W4 d1 ⟨?_⟩|refine W4 d2 ⟨?_⟩)
  exact E1
 | .node l x y,c,hall,hc,hd=>by
  have hd':c.length+(1+max (depT x) (depT y))+depT b≤100000:=hd
  have d1:=isLeaf_node l x y
  have d2:=divide_pu hc hall.1 h1 hU (by omega)
  have hln:l.neg.le L:=⟨by show il (-l.a)≤L;rw [il_neg];exact hall.1.a,by show il (-l.b)≤L;rw [il_neg];exact hall.1.b,by show il (-l.c)≤L;rw [il_neg];exact hall.1.c⟩
  have d3:=merge_pu h1 hU op hop b hb x c hall.2.1 hc (by omega)
  have d4:=merge_pu h1 hU op hop b hb y c hall.2.2 hc (by omega)
  have n1:=clipP_len (bsPos l) c l
  have n2:=clipP_len (bsPos l.neg) c l.neg
  have d5:=merge_pu h1 hU op hop b hb x (clipP (bsPos l) c l).1 hall.2.1 (clipP_le hc hall.1 h1) (by omega)
  have d6:=merge_pu h1 hU op hop b hb y (clipP (bsPos l.neg) c l.neg).1 hall.2.2 (clipP_le hc hln h1) (by omega)
  have d7:=bjoin_pu l (mergeP bsPos op x b (clipP (bsPos l) c l).1) (mergeP bsPos op y b (clipP (bsPos l.neg) c l.neg).1)
  unfold mergeP
  clear hd hd' n1 n2 hc hall hln hb
  generalize mergeP bsPos op x b c=ra at *
  generalize mergeP bsPos op y b c=rb at *
  generalize mergeP bsPos op x b (clipP (bsPos l) c l).1=ra' at *
  generalize mergeP bsPos op y b (clipP (bsPos l.neg) c l.neg).1=rb' at *
  generalize joinT l ra' rb'=rj at *
  generalize(clipP (bsPos l) c l).1=c1 at *
  generalize(clipP (bsPos l.neg) c l.neg).1=c2 at *
  generalize hb1:(clipP (bsPos l) c l).2=b1 at *
  generalize hb2:(clipP (bsPos l.neg) c l.neg).2=b2 at *
  clear hb1 hb2
  have en:bt (.node l x y)=pt (bc (.node l x y)):=rfl
  rw [en,bc_node]at d1⊢
  clear en
  cases b2
  ·rw [if_pos rfl]
   refine Pu.intro Tryz.func176 rfl (by kernel_rfl) fun C=>?_
   repeat(first|(refine A1 ⟨?_⟩;intros)|refine W4 d1 ⟨?_⟩|refine W4 d2 ⟨?_⟩|refine W4 d3 ⟨?_⟩)
   exact E1
  ·rw [if_neg (by decide)]
   cases b1
   ·rw [if_pos rfl]
    refine Pu.intro Tryz.func176 rfl (by kernel_rfl) fun C=>?_
    repeat(first|(refine A1 ⟨?_⟩;intros)|refine W4 d1 ⟨?_⟩|refine W4 d2 ⟨?_⟩|refine W4 d4 ⟨?_⟩)
    exact E1
   ·rw [if_neg (by decide)]
    refine Pu.intro Tryz.func176 rfl (by kernel_rfl) fun C=>?_
    repeat(first|(refine A1 ⟨?_⟩;intros)|refine W4 d1 ⟨?_⟩|refine W4 d2 ⟨?_⟩|refine W4 d5 ⟨?_⟩|refine W4 d6 ⟨?_⟩|refine W4 d7 ⟨?_⟩)
    exact E1
section
variable {P:Program}{C:Ctx}{n:Nat}{F:Fr}{ops:Array Oper}{rs:List Nat}{Hc:LH}{K:Fr→LH→Prop}{s i d:Nat}{r:List NO'}{E:LH}{ty:TypeId}{pos:String}{aft:Array Edge}
theorem ZkAK {T e:TypeId}{sz by_:Nat}{z:List SV}{g:Bool} [hS:TSl P T e] [hT:TY P e sz by_ z g]{x y:Operand}{n0 k0:Nat}{cs ds:List SV}{so:SV}{Hs Er:LH}
  (hown:Own e sz n0 cs so Hs) (hs:Tk E Hs Er) (hl:n0+k0≤1000000000) (k:∀s' H',Own e sz (n0+k0) (cs++ds) s' H'→Mz P C n ops rs Hc K (s+1) r (upd F d s') (H'++Er))
  (hx:ev F x=so:=by exact rfl) (hy:ev F y=sl ds k0:=by exact rfl) (hds:ds.length=k0*sz:=by exact rfl) (hpos:0<k0*sz:=by decide) (hby:by_≤10000:=by decide)
  (ho:ops[i]? = some ⟨some d, .call ⟨.builtin .append,#[x,y],#[T,T]⟩,ty,pos,aft,none⟩:=by exact rfl) (hr:rs[s]? = some i:=by exact rfl) (hd:Nat.blt d n=true:=by exact rfl) :
  Mz P C n ops rs Hc K s ((i,⟨some d, .call ⟨.builtin .append,#[x,y],#[T,T]⟩,ty,pos,aft,none⟩)::r) F E:=by
 refine .row (Post:=fun sv E'=>∃H',Own e sz (n0+k0) (cs++ds) sv H'∧E'=H'++Er) hr (TZ.of ho rfl fun F1 hF1=>?_) fun sv E' hP=>?_
 ·have hx1:ev F1 x=so:=by rw [←hx];exact(ev_looks (by simp [Op.operands,Call.operands]) hF1)
  have hy1:ev F1 y=sl ds k0:=by rw [←hy];exact(ev_looks (by simp [Op.operands,Call.operands]) hF1)
  refine WPL.perm ((hs.perm.append_right Hc).trans (List.Perm.of_eq (List.append_assoc _ _ _))) ?_
  exact .appOwnK hown hx1 hy1 (Spl.app _ _) hds hpos hl hby (fun s' H' hO=>WPL.nil ⟨s',⟨H'++Er,(List.append_assoc _ _ _).symm,H',hO,rfl⟩,rfl⟩) hd
 ·obtain⟨H',hR,rfl⟩:=hP
  exact k sv H' hR
end
abbrev iT:TypeId:=3
abbrev ptT:TypeId:=103
theorem sizeF_pu (b:Nat) (m:Nat) (hm:m≤100000000) (t:Tr):PuH Tryz.prog 241 [bt t,lit (.pointer (some ⟨b,0,none⟩))] [(b,iT,[lit (.int .i64 (m:Nat))])] (fun r H'=>r=Ab.tup []∧H'=[(b,iT,[lit (.int .i64 ((m+if sizeT t=0 then 0 else 1:Nat):Int))])]) noX:=by
 cases t with
 |leaf i =>
  have d1:=isLeaf_leaf i
  refine PuH.intro Tryz.func241 rfl (by kernel_rfl) fun C hC=>?_
  repeat(first|(refine A1 ⟨?_⟩;intros)|refine W4 d1 ⟨?_⟩)
  exact endHN _ _ end0 (List.Sublist.refl _) ⟨rfl,rfl⟩
 |node l x y =>
  have d1:=isLeaf_node l x y
  have e:(if sizeT (.node l x y)=0 then 0 else 1)=1:=if_neg (by simp only [sizeT];omega)
  rw [e]
  refine PuH.intro Tryz.func241 rfl (by kernel_rfl) fun C hC=>?_
  repeat(first|(refine A1 ⟨?_⟩;intros)|refine W4 d1 ⟨?_⟩)
  exact endHN _ _ end0 (List.Sublist.refl _) ⟨rfl,by rw [Int.natCast_add];rfl⟩
section
variable {P:Program}{C:Ctx}{n:Nat}{F:Fr}{H:LH}{ops:Array Oper}{rs:List Nat}{Hc:LH}{K Q:Fr→LH→Prop}{s i d:Nat}{r:List NO'}{E:LH}{ty:TypeId}{pos:String}{aft:Array Edge}{rest:List Oper}
theorem ov_bsA {T e:TypeId}{sz by_:Nat}{z:List SV}{g:Bool} [hS:TSl P T e] [hT:TY P e sz by_ z g]{x:Operand}(ds:List SV) (hx:ev F x=ag ds) (hf:fillS ((List.range 1).map fun i=>(i*sz,sz)) (List.replicate 1 z).flatten [(0,ds)]=some ds:=by exact rfl)
  (hsz:Nat.ble (1*sz) 16777216=true:=by exact rfl) (hpos:Nat.blt 0 sz=true:=by exact rfl):OpV P (.buildSlice T 1 [(0,x)].toArray) ty F H (sl ds 1):=ov_bsN (s:=ag ds) hx inferInstance hf hsz hpos
theorem ZkE {T e:TypeId}{sz by_:Nat}{z:List SV}{g:Bool} [hS:TSl P T e] [hT:TY P e sz by_ z g]{x k0:Nat}{y:Operand}{ds:List SV}
  (hx:F x=esl) (hy:ev F y=sl ds k0) (hds:ds.length=k0*sz) (hpos:0<k0*sz) (hl:k0≤1000000000) (k:∀s' H',Own e sz k0 ds s' H'→Mz P C n ops rs Hc K (s+1) r (upd F d s') (H'++E))
  (hyx:y≠ .tmp x:=by decide) (hxd:x≠d:=by decide) (hby:by_≤10000:=by decide) (ho:ops[i]? = some ⟨some d, .call ⟨.builtin .append,#[.tmp x,y],#[T,T]⟩,ty,pos,aft,none⟩:=by exact rfl) (hr:rs[s]? = some i:=by exact rfl) (hd:Nat.blt d n=true:=by exact rfl) :
  Mz P C n ops rs Hc K s ((i,⟨some d, .call ⟨.builtin .append,#[.tmp x,y],#[T,T]⟩,ty,pos,aft,none⟩)::r) F E :=
 .row (Post:=fun sv E'=>∃Hs,Own e sz k0 ds sv Hs∧E'=Hs++E) hr (tz_appAll (X:=[]) hx hy hyx hxd hds hpos hl hby hd ho) (fun sv E' ⟨Hs,hO,e⟩=>by rw [e];exact k sv Hs hO)
theorem ZkP {T e:TypeId}{sz by_:Nat}{z:List SV}{g:Bool} [hS:TSl P T e] [hT:TY P e sz by_ z g]{x y:Operand}{n0:Nat}{cs ds:List SV}{so:SV}{Hs:LH}
  (hown:Own e sz n0 cs so Hs) (hl:n0≤1000000000) (k:Mz P C n ops rs Hc K (s+1) r (upd F d (sl (cs++ds) (n0+1))) E)
  (hx:ev F x=so:=by exact rfl) (hy:ev F y=sl ds 1:=by exact rfl) (hds:ds.length=sz:=by exact rfl) (hpos:0<sz:=by decide) (hby:by_≤10000:=by decide)
  (ho:ops[i]? = some ⟨some d, .call ⟨.builtin .append,#[x,y],#[T,T]⟩,ty,pos,aft,none⟩:=by exact rfl) (hr:rs[s]? = some i:=by exact rfl) (hd:Nat.blt d n=true:=by exact rfl) :
  Mz P C n ops rs Hc K s ((i,⟨some d, .call ⟨.builtin .append,#[x,y],#[T,T]⟩,ty,pos,aft,none⟩)::r) F (Hs++E) :=
 .row (Post:=fun sv E'=>sv=sl (cs++ds) (n0+1)∧E'=E) hr ((tz_appPub hown (R:=E++Hc) (by rw [List.append_assoc]) hx hy hds hpos hl hby hd ho).post fun sv H1 h=>⟨H1,List.Perm.refl _,E,h.2,h.1,rfl⟩) (fun sv E' ⟨h1,h2⟩=>by rw [h1,h2];exact k)
theorem WownSP {T e:TypeId}{sz by_:Nat}{z:List SV}{g:Bool} [hS:TSl P T e] [hT:TY P e sz by_ z g]{x y:Operand}{n0:Nat}{cs ds:List SV}{so:SV}{Hs Rs:LH}
  (hown:Own e sz n0 cs so Hs) (hp:H.Perm (Hs++Rs)) (hl:n0≤1000000000) (k:∀s' H',Own e sz (n0+1) (cs++ds) s' H'→WPL P C n ops rest Q (upd F d s') (H'++Rs))
  (hx:ev F x=so:=by exact rfl) (hy:ev F y=sl ds 1:=by exact rfl) (hds:ds.length=sz:=by exact rfl) (hpos:0<sz:=by decide) (hby:by_≤10000:=by decide) (hd:Nat.blt d n=true:=by exact rfl) :
  WPL P C n ops (⟨some d, .call ⟨.builtin .append,#[x,y],#[T,T]⟩,ty,pos,aft,none⟩::rest) Q F H :=
 .perm hp (.appOwnS hown hx hy (Spl.app _ _) hds hpos hl hby k hd)
theorem WownKP {T e:TypeId}{sz by_:Nat}{z:List SV}{g:Bool} [hS:TSl P T e] [hT:TY P e sz by_ z g]{x y:Operand}{n0 k0:Nat}{cs ds:List SV}{so:SV}{Hs Rs:LH}
  (hown:Own e sz n0 cs so Hs) (hp:H.Perm (Hs++Rs)) (hl:n0+k0≤1000000000) (hds:ds.length=k0*sz) (k:∀s' H',Own e sz (n0+k0) (cs++ds) s' H'→WPL P C n ops rest Q (upd F d s') (H'++Rs))
  (hx:ev F x=so:=by exact rfl) (hy:ev F y=sl ds k0:=by exact rfl) (hpos:0<sz:=by decide) (hby:by_≤10000:=by decide) (hd:Nat.blt d n=true:=by exact rfl) :
  WPL P C n ops (⟨some d, .call ⟨.builtin .append,#[x,y],#[T,T]⟩,ty,pos,aft,none⟩::rest) Q F H:=by
 refine .perm hp ?_
 rcases(by omega:k0=0∨0<k0)with h0|h0
 ·subst h0
  rw [Nat.zero_mul]at hds
  have e0:=List.eq_nil_of_length_eq_zero hds
  subst e0
  rw [Nat.add_zero,List.append_nil]at k
  have hk:=k so Hs hown
  obtain⟨_,⟨_,rfl,_⟩|⟨_,c,h1,_,rfl,_⟩⟩:=id hown
  ·exact Wo (ov_appE hx hy (Nat.le_refl _)) hk hd
  ·exact Wo (ov_appE hx hy h1) hk hd
 ·exact .appOwnK hown hx hy (Spl.app _ _) hds (Nat.mul_pos h0 hpos) hl hby k hd
theorem WownK {T e:TypeId}{sz by_:Nat}{z:List SV}{g:Bool} [hS:TSl P T e] [hT:TY P e sz by_ z g]{x y:Operand}{n0 k0:Nat}{cs ds:List SV}{so:SV}{Hs Rs:LH}
  (hown:Own e sz n0 cs so Hs) (hsp:Tk H Hs Rs) (hl:n0+k0≤1000000000) (hds:ds.length=k0*sz) (k:∀s' H',Own e sz (n0+k0) (cs++ds) s' H'→WPL P C n ops rest Q (upd F d s') (Rs++H'))
  (hx:ev F x=so:=by exact rfl) (hy:ev F y=sl ds k0:=by exact rfl) (hpos:0<sz:=by decide) (hby:by_≤10000:=by decide) (hd:Nat.blt d n=true:=by exact rfl) :
  WPL P C n ops (⟨some d, .call ⟨.builtin .append,#[x,y],#[T,T]⟩,ty,pos,aft,none⟩::rest) Q F H :=
 WownKP hown hsp.perm hl hds (fun s' H' h => .perm List.perm_append_comm (k s' H' h)) hx hy hpos hby hd
end
end Go.Ab
