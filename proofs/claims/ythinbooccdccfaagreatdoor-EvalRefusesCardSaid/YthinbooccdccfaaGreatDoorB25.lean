/- Texts laid one behind the other: Node, List, Deep, Arr. -/
import Derived.Test.YthinbooccdccfaaGreatDoorB24
import Derived.Test.YthinbooccdccfaaGreatDoorB08
import Derived.Test.YthinbooccdccfaaGreatDoorB10
import Derived.Test.YthinbooccdccfaaGreatDoorB15
set_option linter.unusedSectionVars false
set_option linter.unusedVariables false
set_option linter.unusedSimpArgs false
namespace Go.Ab
open Go.Proofs
variable [Base]
structure Nd where
 k:Int
 nm:List UInt8
 a:RQ
 b:RQ
 c:RQ
 e:RQ
 op:Int
 x:Int
 y:Int
 ln:Int
 cl:Int
def i64R (z:Int):Prop := -9223372036854775808≤z∧z≤9223372036854775807
abbrev ndx (n:Nd):List SV:=[lit (.int .i64 n.k),str n.nm,lit (.bool n.a.s),dg n.a.n,dg n.a.d,lit (.bool n.b.s),dg n.b.n,dg n.b.d,lit (.bool n.c.s),dg n.c.n,dg n.c.d,lit (.bool n.e.s),dg n.e.n,dg n.e.d,lit (.int .i64 n.op),lit (.int .i64 n.x),lit (.int .i64 n.y),lit (.int .i64 n.ln),lit (.int .i64 n.cl)]
structure Nd.ok (L:Nat) (n:Nd):Prop where
 a:n.a.ok L
 b:n.b.ok L
 c:n.c.ok L
 e:n.e.ok L
 nm:n.nm.length≤100
def zq (r:RQ):Bool := !r.s&&decide (r.n.length=0)&&decide (r.d.length=0)
def zp (a b:RQ):Bool:=zq a&&zq b
def okN (n:Nd):Bool :=
 (decide (1≤n.k)&&decide (n.k≤6))&&(decide (n.k=1)||decide (n.nm.length=0))&&(decide (n.k=4)||(zp n.a n.b&&zp n.c n.e))&&((decide (n.k=6)&&decide (1≤n.op)&&decide (n.op≤4))||(decide (n.k≠6)&&decide (n.op=0)))&&(decide (n.k=6)||decide (n.y=0))&&((decide (n.k=6)||decide (n.k=5))||decide (n.x=0))
theorem zeroRat_pu (r:RQ){L:Nat}(h:r.ok L) (hL:L≤1000):Pu Tryz.prog 326 [qr r] (lit (.bool (zq r))):=by
 obtain⟨_,_,h1,h2⟩:=h
 show Pu _ _ [ag [lit (.bool r.s),dg r.n,dg r.d]] _
 cases hs:r.s with
 |true =>
  rw [show zq r=false from by unfold zq;rw [hs];rfl]
  refine Pu.intro Tryz.func326 rfl (by kernel_rfl) fun C=>?_
  repeat(refine A1 ⟨?_⟩;intros)
  exact E1
 |false =>
  by_cases hn:r.n.length=0∧r.d.length=0
  ·obtain⟨hn1,hn2⟩:=hn
   rw [show zq r=true from by unfold zq;rw [hs,decide_eq_true hn1,decide_eq_true hn2];rfl]
   refine Pu.intro Tryz.func326 rfl (by kernel_rfl) fun C=>?_
   repeat(refine A1 ⟨?_⟩;intros)
   exact E1
  ·rw [show zq r=false from by unfold zq;rw [hs,Bool.not_false,Bool.true_and,←Bool.decide_and];exact decide_eq_false hn]
   have hn':r.n.length+r.d.length≠0:=by omega
   clear hn
   refine Pu.intro Tryz.func326 rfl (by kernel_rfl) fun C=>?_
   repeat(refine A1 ⟨?_⟩;intros)
   exact E1
theorem zeroPoint_pu (a b:RQ){L:Nat}(ha:a.ok L) (hb:b.ok L) (hL:L≤1000):Pu Tryz.prog 273 [pr a b] (lit (.bool (zp a b))):=by
 have c1:=zeroRat_pu a ha hL
 have c2:=zeroRat_pu b hb hL
 unfold zp
 cases hs:zq a with
 |true =>
  rw [hs]at c1
  refine Pu.intro Tryz.func273 rfl (by kernel_rfl) fun C=>?_
  repeat(first|(refine A1 ⟨?_⟩;intros)|refine W4 c1 ⟨?_⟩|refine W4 c2 ⟨?_⟩)
  exact E1
 |false =>
  rw [hs]at c1
  refine Pu.intro Tryz.func273 rfl (by kernel_rfl) fun C=>?_
  repeat(first|(refine A1 ⟨?_⟩;intros)|refine W4 c1 ⟨?_⟩|refine W4 c2 ⟨?_⟩)
  exact E1
theorem rank_pu (n:Nd):Pu Tryz.prog 221 [ag (ndx n)] (lit (.int .i64 (if n.k=6 then(if n.op=2 then 2 else 1)else 3))):=by
 by_cases h1:n.k=6
 ·rw [if_pos h1]
  by_cases h2:n.op=2
  ·rw [if_pos h2]
   refine Pu.intro Tryz.func221 rfl (by kernel_rfl) fun C=>?_
   repeat(refine A1 ⟨?_⟩;intros)
   exact E1
  ·rw [if_neg h2]
   refine Pu.intro Tryz.func221 rfl (by kernel_rfl) fun C=>?_
   repeat(refine A1 ⟨?_⟩;intros)
   exact E1
 ·rw [if_neg h1]
  refine Pu.intro Tryz.func221 rfl (by kernel_rfl) fun C=>?_
  repeat(refine A1 ⟨?_⟩;intros)
  exact E1
theorem level_pu (n:Nd):Pu Tryz.prog 156 [ag (ndx n)] (lit (.int .i64 (if n.k=6 then(if n.op=2 then 2 else 1)else 3))):=by
 by_cases h1:n.k=6
 ·rw [if_pos h1]
  by_cases h2:n.op=2
  ·rw [if_pos h2]
   refine Pu.intro Tryz.func156 rfl (by kernel_rfl) fun C=>?_
   repeat(refine A1 ⟨?_⟩;intros)
   exact E1
  ·rw [if_neg h2]
   refine Pu.intro Tryz.func156 rfl (by kernel_rfl) fun C=>?_
   repeat(refine A1 ⟨?_⟩;intros)
   exact E1
 ·rw [if_neg h1]
  refine Pu.intro Tryz.func156 rfl (by kernel_rfl) fun C=>?_
  repeat(refine A1 ⟨?_⟩;intros)
  exact E1
theorem nil_dec {l:List UInt8}:(l.length=0→l=[])∧(l.length≠0→¬l=[]) :=
 ⟨fun h=>List.eq_nil_of_length_eq_zero h,fun h e=>h (by rw [e];rfl)⟩
set_option maxHeartbeats 1000000 in
theorem checkExpr_pu (n:Nd){L:Nat}(h:n.ok L) (hL:L≤1000):PuH Tryz.prog 214 [ag (ndx n)] [] (fun r H=>okN n=true∧r=Ab.tup []∧H=[]) (fun pv _=>okN n=false∧pv=inval):=by
 have c1:=zeroPoint_pu n.a n.b h.a h.b hL
 have c2:=zeroPoint_pu n.c n.e h.c h.e hL
 clear h
 refine PuH.intro Tryz.func214 rfl (by kernel_rfl) fun C hC=>?_
 by_cases p1:1≤n.k
 case neg =>
  have dp1:=decide_eq_false p1
  repeat(refine A1 ⟨?_⟩;intros)
  refine WneedF ?_
  rw [hC]
  exact⟨by simp only [okN,dp1,Bool.and_true,Bool.true_and,Bool.and_false,Bool.false_and,Bool.or_true,Bool.true_or,Bool.or_false,Bool.false_or],rfl⟩
 have dp1:=decide_eq_true p1
 by_cases p2:n.k≤6
 case neg =>
  have dp2:=decide_eq_false p2
  repeat(refine A1 ⟨?_⟩;intros)
  refine WneedF ?_
  rw [hC]
  exact⟨by simp only [okN,dp1,dp2,Bool.and_true,Bool.true_and,Bool.and_false,Bool.false_and,Bool.or_true,Bool.true_or,Bool.or_false,Bool.false_or],rfl⟩
 have dp2:=decide_eq_true p2
 repeat(refine A1 ⟨?_⟩;intros)
 refine WneedT ?_
 by_cases q1:n.k=1
 case pos =>
  have dk1:decide (n.k=1)=true:=decide_eq_true (by omega)
  have dk4:decide (n.k=4)=false:=decide_eq_false (by omega)
  have dk5:decide (n.k=5)=false:=decide_eq_false (by omega)
  have dk6:decide (n.k=6)=false:=decide_eq_false (by omega)
  have dn6:decide (n.k≠6)=true:=decide_eq_true (by omega)
  repeat(refine A1 ⟨?_⟩;intros)
  refine WneedT ?_
  cases z1:zp n.a n.b with
  |false =>
   rw [z1]at c1
   repeat(first|(refine A1 ⟨?_⟩;intros)|refine W4 c1 ⟨?_⟩|refine W4 c2 ⟨?_⟩)
   refine WneedF ?_
   rw [hC]
   exact⟨by simp only [okN,dp1,dp2,dk1,dk4,dk5,dk6,dn6,z1,Bool.and_true,Bool.true_and,Bool.and_false,Bool.false_and,Bool.or_true,Bool.true_or,Bool.or_false,Bool.false_or],rfl⟩
  |true =>
   rw [z1]at c1
   cases z2:zp n.c n.e with
   |false =>
    rw [z2]at c2
    repeat(first|(refine A1 ⟨?_⟩;intros)|refine W4 c1 ⟨?_⟩|refine W4 c2 ⟨?_⟩)
    refine WneedF ?_
    rw [hC]
    exact⟨by simp only [okN,dp1,dp2,dk1,dk4,dk5,dk6,dn6,z1,z2,Bool.and_true,Bool.true_and,Bool.and_false,Bool.false_and,Bool.or_true,Bool.true_or,Bool.or_false,Bool.false_or],rfl⟩
   |true =>
    rw [z2]at c2
    repeat(first|(refine A1 ⟨?_⟩;intros)|refine W4 c1 ⟨?_⟩|refine W4 c2 ⟨?_⟩)
    refine WneedT ?_
    by_cases o1:n.op=0
    case neg =>
     have do1:=decide_eq_false o1
     repeat(refine A1 ⟨?_⟩;intros)
     refine WneedF ?_
     rw [hC]
     exact⟨by simp only [okN,dp1,dp2,dk1,dk4,dk5,dk6,dn6,z1,z2,do1,Bool.and_true,Bool.true_and,Bool.and_false,Bool.false_and,Bool.or_true,Bool.true_or,Bool.or_false,Bool.false_or],rfl⟩
    have do1:=decide_eq_true o1
    repeat(refine A1 ⟨?_⟩;intros)
    refine WneedT ?_
    by_cases y1:n.y=0
    case neg =>
     have dy1:=decide_eq_false y1
     repeat(refine A1 ⟨?_⟩;intros)
     refine WneedF ?_
     rw [hC]
     exact⟨by simp only [okN,dp1,dp2,dk1,dk4,dk5,dk6,dn6,z1,z2,do1,dy1,Bool.and_true,Bool.true_and,Bool.and_false,Bool.false_and,Bool.or_true,Bool.true_or,Bool.or_false,Bool.false_or],rfl⟩
    have dy1:=decide_eq_true y1
    repeat(refine A1 ⟨?_⟩;intros)
    refine WneedT ?_
    by_cases x1:n.x=0
    case neg =>
     have dx1:=decide_eq_false x1
     repeat(refine A1 ⟨?_⟩;intros)
     refine WneedF ?_
     rw [hC]
     exact⟨by simp only [okN,dp1,dp2,dk1,dk4,dk5,dk6,dn6,z1,z2,do1,dy1,dx1,Bool.and_true,Bool.true_and,Bool.and_false,Bool.false_and,Bool.or_true,Bool.true_or,Bool.or_false,Bool.false_or],rfl⟩
    have dx1:=decide_eq_true x1
    repeat(refine A1 ⟨?_⟩;intros)
    refine WneedT ?_
    repeat(refine A1 ⟨?_⟩;intros)
    exact endHN _ _ end0 (List.nil_sublist _) ⟨by simp only [okN,dp1,dp2,dk1,dk4,dk5,dk6,dn6,z1,z2,do1,dy1,dx1,Bool.and_true,Bool.true_and,Bool.and_false,Bool.false_and,Bool.or_true,Bool.true_or,Bool.or_false,Bool.false_or],rfl,rfl⟩
 by_cases q4:n.k=4
 case pos =>
  have dk1:decide (n.k=1)=false:=decide_eq_false (by omega)
  have dk4:decide (n.k=4)=true:=decide_eq_true (by omega)
  have dk5:decide (n.k=5)=false:=decide_eq_false (by omega)
  have dk6:decide (n.k=6)=false:=decide_eq_false (by omega)
  have dn6:decide (n.k≠6)=true:=decide_eq_true (by omega)
  by_cases r1:n.nm.length=0
  case neg =>
   have dr1:=decide_eq_false r1
   have sr1:=nil_dec.2 r1
   repeat(refine A1 ⟨?_⟩;intros)
   refine WneedF ?_
   rw [hC]
   exact⟨by simp only [okN,dp1,dp2,dk1,dk4,dk5,dk6,dn6,dr1,Bool.and_true,Bool.true_and,Bool.and_false,Bool.false_and,Bool.or_true,Bool.true_or,Bool.or_false,Bool.false_or],rfl⟩
  have dr1:=decide_eq_true r1
  have sr1:=nil_dec.1 r1
  repeat(refine A1 ⟨?_⟩;intros)
  refine WneedT ?_
  repeat(first|(refine A1 ⟨?_⟩;intros)|refine W4 c1 ⟨?_⟩|refine W4 c2 ⟨?_⟩)
  refine WneedT ?_
  by_cases o1:n.op=0
  case neg =>
   have do1:=decide_eq_false o1
   repeat(refine A1 ⟨?_⟩;intros)
   refine WneedF ?_
   rw [hC]
   exact⟨by simp only [okN,dp1,dp2,dk1,dk4,dk5,dk6,dn6,dr1,do1,Bool.and_true,Bool.true_and,Bool.and_false,Bool.false_and,Bool.or_true,Bool.true_or,Bool.or_false,Bool.false_or],rfl⟩
  have do1:=decide_eq_true o1
  repeat(refine A1 ⟨?_⟩;intros)
  refine WneedT ?_
  by_cases y1:n.y=0
  case neg =>
   have dy1:=decide_eq_false y1
   repeat(refine A1 ⟨?_⟩;intros)
   refine WneedF ?_
   rw [hC]
   exact⟨by simp only [okN,dp1,dp2,dk1,dk4,dk5,dk6,dn6,dr1,do1,dy1,Bool.and_true,Bool.true_and,Bool.and_false,Bool.false_and,Bool.or_true,Bool.true_or,Bool.or_false,Bool.false_or],rfl⟩
  have dy1:=decide_eq_true y1
  repeat(refine A1 ⟨?_⟩;intros)
  refine WneedT ?_
  by_cases x1:n.x=0
  case neg =>
   have dx1:=decide_eq_false x1
   repeat(refine A1 ⟨?_⟩;intros)
   refine WneedF ?_
   rw [hC]
   exact⟨by simp only [okN,dp1,dp2,dk1,dk4,dk5,dk6,dn6,dr1,do1,dy1,dx1,Bool.and_true,Bool.true_and,Bool.and_false,Bool.false_and,Bool.or_true,Bool.true_or,Bool.or_false,Bool.false_or],rfl⟩
  have dx1:=decide_eq_true x1
  repeat(refine A1 ⟨?_⟩;intros)
  refine WneedT ?_
  repeat(refine A1 ⟨?_⟩;intros)
  exact endHN _ _ end0 (List.nil_sublist _) ⟨by simp only [okN,dp1,dp2,dk1,dk4,dk5,dk6,dn6,dr1,do1,dy1,dx1,Bool.and_true,Bool.true_and,Bool.and_false,Bool.false_and,Bool.or_true,Bool.true_or,Bool.or_false,Bool.false_or],rfl,rfl⟩
 by_cases q5:n.k=5
 case pos =>
  have dk1:decide (n.k=1)=false:=decide_eq_false (by omega)
  have dk4:decide (n.k=4)=false:=decide_eq_false (by omega)
  have dk5:decide (n.k=5)=true:=decide_eq_true (by omega)
  have dk6:decide (n.k=6)=false:=decide_eq_false (by omega)
  have dn6:decide (n.k≠6)=true:=decide_eq_true (by omega)
  by_cases r1:n.nm.length=0
  case neg =>
   have dr1:=decide_eq_false r1
   have sr1:=nil_dec.2 r1
   repeat(refine A1 ⟨?_⟩;intros)
   refine WneedF ?_
   rw [hC]
   exact⟨by simp only [okN,dp1,dp2,dk1,dk4,dk5,dk6,dn6,dr1,Bool.and_true,Bool.true_and,Bool.and_false,Bool.false_and,Bool.or_true,Bool.true_or,Bool.or_false,Bool.false_or],rfl⟩
  have dr1:=decide_eq_true r1
  have sr1:=nil_dec.1 r1
  repeat(refine A1 ⟨?_⟩;intros)
  refine WneedT ?_
  cases z1:zp n.a n.b with
  |false =>
   rw [z1]at c1
   repeat(first|(refine A1 ⟨?_⟩;intros)|refine W4 c1 ⟨?_⟩|refine W4 c2 ⟨?_⟩)
   refine WneedF ?_
   rw [hC]
   exact⟨by simp only [okN,dp1,dp2,dk1,dk4,dk5,dk6,dn6,dr1,z1,Bool.and_true,Bool.true_and,Bool.and_false,Bool.false_and,Bool.or_true,Bool.true_or,Bool.or_false,Bool.false_or],rfl⟩
  |true =>
   rw [z1]at c1
   cases z2:zp n.c n.e with
   |false =>
    rw [z2]at c2
    repeat(first|(refine A1 ⟨?_⟩;intros)|refine W4 c1 ⟨?_⟩|refine W4 c2 ⟨?_⟩)
    refine WneedF ?_
    rw [hC]
    exact⟨by simp only [okN,dp1,dp2,dk1,dk4,dk5,dk6,dn6,dr1,z1,z2,Bool.and_true,Bool.true_and,Bool.and_false,Bool.false_and,Bool.or_true,Bool.true_or,Bool.or_false,Bool.false_or],rfl⟩
   |true =>
    rw [z2]at c2
    repeat(first|(refine A1 ⟨?_⟩;intros)|refine W4 c1 ⟨?_⟩|refine W4 c2 ⟨?_⟩)
    refine WneedT ?_
    by_cases o1:n.op=0
    case neg =>
     have do1:=decide_eq_false o1
     repeat(refine A1 ⟨?_⟩;intros)
     refine WneedF ?_
     rw [hC]
     exact⟨by simp only [okN,dp1,dp2,dk1,dk4,dk5,dk6,dn6,dr1,z1,z2,do1,Bool.and_true,Bool.true_and,Bool.and_false,Bool.false_and,Bool.or_true,Bool.true_or,Bool.or_false,Bool.false_or],rfl⟩
    have do1:=decide_eq_true o1
    repeat(refine A1 ⟨?_⟩;intros)
    refine WneedT ?_
    by_cases y1:n.y=0
    case neg =>
     have dy1:=decide_eq_false y1
     repeat(refine A1 ⟨?_⟩;intros)
     refine WneedF ?_
     rw [hC]
     exact⟨by simp only [okN,dp1,dp2,dk1,dk4,dk5,dk6,dn6,dr1,z1,z2,do1,dy1,Bool.and_true,Bool.true_and,Bool.and_false,Bool.false_and,Bool.or_true,Bool.true_or,Bool.or_false,Bool.false_or],rfl⟩
    have dy1:=decide_eq_true y1
    repeat(refine A1 ⟨?_⟩;intros)
    refine WneedT ?_
    repeat(refine A1 ⟨?_⟩;intros)
    refine WneedT ?_
    repeat(refine A1 ⟨?_⟩;intros)
    exact endHN _ _ end0 (List.nil_sublist _) ⟨by simp only [okN,dp1,dp2,dk1,dk4,dk5,dk6,dn6,dr1,z1,z2,do1,dy1,Bool.and_true,Bool.true_and,Bool.and_false,Bool.false_and,Bool.or_true,Bool.true_or,Bool.or_false,Bool.false_or],rfl,rfl⟩
 by_cases q6:n.k=6
 case pos =>
  have dk1:decide (n.k=1)=false:=decide_eq_false (by omega)
  have dk4:decide (n.k=4)=false:=decide_eq_false (by omega)
  have dk5:decide (n.k=5)=false:=decide_eq_false (by omega)
  have dk6:decide (n.k=6)=true:=decide_eq_true (by omega)
  have dn6:decide (n.k≠6)=false:=decide_eq_false (by omega)
  by_cases r1:n.nm.length=0
  case neg =>
   have dr1:=decide_eq_false r1
   have sr1:=nil_dec.2 r1
   repeat(refine A1 ⟨?_⟩;intros)
   refine WneedF ?_
   rw [hC]
   exact⟨by simp only [okN,dp1,dp2,dk1,dk4,dk5,dk6,dn6,dr1,Bool.and_true,Bool.true_and,Bool.and_false,Bool.false_and,Bool.or_true,Bool.true_or,Bool.or_false,Bool.false_or],rfl⟩
  have dr1:=decide_eq_true r1
  have sr1:=nil_dec.1 r1
  repeat(refine A1 ⟨?_⟩;intros)
  refine WneedT ?_
  cases z1:zp n.a n.b with
  |false =>
   rw [z1]at c1
   repeat(first|(refine A1 ⟨?_⟩;intros)|refine W4 c1 ⟨?_⟩|refine W4 c2 ⟨?_⟩)
   refine WneedF ?_
   rw [hC]
   exact⟨by simp only [okN,dp1,dp2,dk1,dk4,dk5,dk6,dn6,dr1,z1,Bool.and_true,Bool.true_and,Bool.and_false,Bool.false_and,Bool.or_true,Bool.true_or,Bool.or_false,Bool.false_or],rfl⟩
  |true =>
   rw [z1]at c1
   cases z2:zp n.c n.e with
   |false =>
    rw [z2]at c2
    repeat(first|(refine A1 ⟨?_⟩;intros)|refine W4 c1 ⟨?_⟩|refine W4 c2 ⟨?_⟩)
    refine WneedF ?_
    rw [hC]
    exact⟨by simp only [okN,dp1,dp2,dk1,dk4,dk5,dk6,dn6,dr1,z1,z2,Bool.and_true,Bool.true_and,Bool.and_false,Bool.false_and,Bool.or_true,Bool.true_or,Bool.or_false,Bool.false_or],rfl⟩
   |true =>
    rw [z2]at c2
    repeat(first|(refine A1 ⟨?_⟩;intros)|refine W4 c1 ⟨?_⟩|refine W4 c2 ⟨?_⟩)
    refine WneedT ?_
    by_cases o1:1≤n.op
    case neg =>
     have do1:=decide_eq_false o1
     repeat(refine A1 ⟨?_⟩;intros)
     refine WneedF ?_
     rw [hC]
     exact⟨by simp only [okN,dp1,dp2,dk1,dk4,dk5,dk6,dn6,dr1,z1,z2,do1,Bool.and_true,Bool.true_and,Bool.and_false,Bool.false_and,Bool.or_true,Bool.true_or,Bool.or_false,Bool.false_or],rfl⟩
    have do1:=decide_eq_true o1
    by_cases o2:n.op≤4
    case neg =>
     have do2:=decide_eq_false o2
     repeat(refine A1 ⟨?_⟩;intros)
     refine WneedF ?_
     rw [hC]
     exact⟨by simp only [okN,dp1,dp2,dk1,dk4,dk5,dk6,dn6,dr1,z1,z2,do1,do2,Bool.and_true,Bool.true_and,Bool.and_false,Bool.false_and,Bool.or_true,Bool.true_or,Bool.or_false,Bool.false_or],rfl⟩
    have do2:=decide_eq_true o2
    repeat(refine A1 ⟨?_⟩;intros)
    refine WneedT ?_
    repeat(refine A1 ⟨?_⟩;intros)
    refine WneedT ?_
    repeat(refine A1 ⟨?_⟩;intros)
    refine WneedT ?_
    repeat(refine A1 ⟨?_⟩;intros)
    exact endHN _ _ end0 (List.nil_sublist _) ⟨by simp only [okN,dp1,dp2,dk1,dk4,dk5,dk6,dn6,dr1,z1,z2,do1,do2,Bool.and_true,Bool.true_and,Bool.and_false,Bool.false_and,Bool.or_true,Bool.true_or,Bool.or_false,Bool.false_or],rfl,rfl⟩
 have dk1:decide (n.k=1)=false:=decide_eq_false (by omega)
 have dk4:decide (n.k=4)=false:=decide_eq_false (by omega)
 have dk5:decide (n.k=5)=false:=decide_eq_false (by omega)
 have dk6:decide (n.k=6)=false:=decide_eq_false (by omega)
 have dn6:decide (n.k≠6)=true:=decide_eq_true (by omega)
 by_cases r1:n.nm.length=0
 case neg =>
  have dr1:=decide_eq_false r1
  have sr1:=nil_dec.2 r1
  repeat(refine A1 ⟨?_⟩;intros)
  refine WneedF ?_
  rw [hC]
  exact⟨by simp only [okN,dp1,dp2,dk1,dk4,dk5,dk6,dn6,dr1,Bool.and_true,Bool.true_and,Bool.and_false,Bool.false_and,Bool.or_true,Bool.true_or,Bool.or_false,Bool.false_or],rfl⟩
 have dr1:=decide_eq_true r1
 have sr1:=nil_dec.1 r1
 repeat(refine A1 ⟨?_⟩;intros)
 refine WneedT ?_
 cases z1:zp n.a n.b with
 |false =>
  rw [z1]at c1
  repeat(first|(refine A1 ⟨?_⟩;intros)|refine W4 c1 ⟨?_⟩|refine W4 c2 ⟨?_⟩)
  refine WneedF ?_
  rw [hC]
  exact⟨by simp only [okN,dp1,dp2,dk1,dk4,dk5,dk6,dn6,dr1,z1,Bool.and_true,Bool.true_and,Bool.and_false,Bool.false_and,Bool.or_true,Bool.true_or,Bool.or_false,Bool.false_or],rfl⟩
 |true =>
  rw [z1]at c1
  cases z2:zp n.c n.e with
  |false =>
   rw [z2]at c2
   repeat(first|(refine A1 ⟨?_⟩;intros)|refine W4 c1 ⟨?_⟩|refine W4 c2 ⟨?_⟩)
   refine WneedF ?_
   rw [hC]
   exact⟨by simp only [okN,dp1,dp2,dk1,dk4,dk5,dk6,dn6,dr1,z1,z2,Bool.and_true,Bool.true_and,Bool.and_false,Bool.false_and,Bool.or_true,Bool.true_or,Bool.or_false,Bool.false_or],rfl⟩
  |true =>
   rw [z2]at c2
   repeat(first|(refine A1 ⟨?_⟩;intros)|refine W4 c1 ⟨?_⟩|refine W4 c2 ⟨?_⟩)
   refine WneedT ?_
   by_cases o1:n.op=0
   case neg =>
    have do1:=decide_eq_false o1
    repeat(refine A1 ⟨?_⟩;intros)
    refine WneedF ?_
    rw [hC]
    exact⟨by simp only [okN,dp1,dp2,dk1,dk4,dk5,dk6,dn6,dr1,z1,z2,do1,Bool.and_true,Bool.true_and,Bool.and_false,Bool.false_and,Bool.or_true,Bool.true_or,Bool.or_false,Bool.false_or],rfl⟩
   have do1:=decide_eq_true o1
   repeat(refine A1 ⟨?_⟩;intros)
   refine WneedT ?_
   by_cases y1:n.y=0
   case neg =>
    have dy1:=decide_eq_false y1
    repeat(refine A1 ⟨?_⟩;intros)
    refine WneedF ?_
    rw [hC]
    exact⟨by simp only [okN,dp1,dp2,dk1,dk4,dk5,dk6,dn6,dr1,z1,z2,do1,dy1,Bool.and_true,Bool.true_and,Bool.and_false,Bool.false_and,Bool.or_true,Bool.true_or,Bool.or_false,Bool.false_or],rfl⟩
   have dy1:=decide_eq_true y1
   repeat(refine A1 ⟨?_⟩;intros)
   refine WneedT ?_
   by_cases x1:n.x=0
   case neg =>
    have dx1:=decide_eq_false x1
    repeat(refine A1 ⟨?_⟩;intros)
    refine WneedF ?_
    rw [hC]
    exact⟨by simp only [okN,dp1,dp2,dk1,dk4,dk5,dk6,dn6,dr1,z1,z2,do1,dy1,dx1,Bool.and_true,Bool.true_and,Bool.and_false,Bool.false_and,Bool.or_true,Bool.true_or,Bool.or_false,Bool.false_or],rfl⟩
   have dx1:=decide_eq_true x1
   repeat(refine A1 ⟨?_⟩;intros)
   refine WneedT ?_
   repeat(refine A1 ⟨?_⟩;intros)
   exact endHN _ _ end0 (List.nil_sublist _) ⟨by simp only [okN,dp1,dp2,dk1,dk4,dk5,dk6,dn6,dr1,z1,z2,do1,dy1,dx1,Bool.and_true,Bool.true_and,Bool.and_false,Bool.false_and,Bool.or_true,Bool.true_or,Bool.or_false,Bool.false_or],rfl,rfl⟩
def ics (l:List Nat):List SV:=l.map fun s=>lit (.int .i64 (s:Nat))
theorem ics_len (l:List Nat):(ics l).length=l.length:=by simp [ics]
theorem ics_get {l:List Nat}{i:Nat}(h:i<l.length):(ics l)[i]? = some (lit (.int .i64 (l.getD i 0:Nat))):=by simp [ics,List.getD,h]
theorem ics_set {l:List Nat}{i:Nat}(x:Nat):spl (ics l) i [lit (.int .i64 (x:Nat))]=ics (l.set i x):=by
 unfold ics
 simp only [spl,List.map_set]
theorem ics_rep (k:Nat):List.replicate k (lit (.int .i64 0))=ics (List.replicate k 0):=by simp [ics]
theorem ble_ics {l:List Nat}{i:Nat}(h:i<l.length):Nat.ble (i+1) (ics l).length=true:=by
 apply Nat.ble_eq_true_of_le
 rw [ics_len];omega
def step1 (ss:List Nat) (n:Nd):Option Nat :=
 if okN n=true then
  if n.k=5 then(if 0<ss.length∧n.x=(ss.length:Int)-1 then some (1+ss.getD (ss.length-1) 0)else none)
  else if n.k=6 then
   (if(0<ss.length∧n.y=(ss.length:Int)-1)∧ss.getD (ss.length-1) 0+1≤ss.length∧n.x=(ss.length:Int)-1-(ss.getD (ss.length-1) 0:Nat)then some (1+ss.getD (ss.length-1) 0+ss.getD (ss.length-1-ss.getD (ss.length-1) 0) 0)else none)
  else some 1
 else none
def sizes:List Nd→List Nat→Option (List Nat)
 | [],ss=>some ss
 |n::ns,ss=>match step1 ss n with
  |some s=>sizes ns (ss++[s])
  |none=>none
def okL (ns:List Nd):Bool:=match sizes ns []with
 |some ss=>decide (0<ns.length)&&decide (ss.getD (ns.length-1) 0=ns.length)
 |none=>false
theorem sizes_cons (n:Nd) (ns:List Nd) (ss:List Nat):sizes (n::ns) ss=match step1 ss n with
  |some s=>sizes ns (ss++[s])
  |none=>none:=rfl
theorem ics_set' {l:List Nat}{i:Nat}{z:Int}(x:Nat) (h:z=(x:Nat)):spl (ics l) i [lit (.int .i64 z)]=ics (l.set i x):=by subst h;exact ics_set x
theorem okL_none {ns:List Nd}(h:sizes ns []=none):okL ns=false:=by unfold okL;rw [h]
theorem ndx_len (n:Nd):(ndx n).length=19:=rfl
theorem drop_cons {α:Type}{l:List α}{k:Nat}{x:α}(h:l[k]? = some x):l.drop k=x::l.drop (k+1):=by
 obtain⟨hk,rfl⟩:=List.getElem?_eq_some_iff.1 h
 exact List.drop_eq_getElem_cons hk
theorem take_set1 {os:List Nat}{k x:Nat}(h:k<os.length):(os.set k x).take (k+1)=os.take k++[x]:=by
 rw [List.take_add_one]
 congr 1
 ·rw [List.take_set];apply List.set_eq_of_length_le;rw [List.length_take];omega
 ·simp [h]
theorem take_getD {os:List Nat}{k j:Nat}(h:j<k):(os.take k).getD j 0=os.getD j 0:=by
 simp only [List.getD,List.getElem?_take,if_pos h]
set_option maxHeartbeats 1000000 in
theorem checkList_pu (ns:List Nd){L:Nat}(hok:∀n∈ns,n.ok L) (hL:L≤1000) (hlen:ns.length≤100000):PuH Tryz.prog 161 [sl (ns.map ndx).flatten ns.length] [] (fun r H=>okL ns=true∧r=Ab.tup []∧H=[]) (fun pv _=>okL ns=false∧pv=inval):=by
 by_cases h0:ns.length=0
 ·refine PuH.intro Tryz.func161 rfl (by kernel_rfl) fun C hC=>?_
  repeat(refine A1 ⟨?_⟩;intros)
  refine WneedF ?_
  rw [hC]
  have e:ns=[]:=List.eq_nil_of_length_eq_zero h0
  subst e
  exact⟨rfl,rfl⟩
 ·refine PuH.intro Tryz.func161 rfl (by kernel_rfl) fun C hC=>?_
  repeat(refine A1 ⟨?_⟩;intros)
  refine WneedT ?_
  repeat(refine A1 ⟨?_⟩;intros)
  refine WPL.make (k:=ns.length) rfl rfl (by omega) (by omega) rfl fun bb=>?_
  rw [ics_rep]
  repeat(refine A1 ⟨?_⟩;intros)
  refine WP.loopS (ι:=Nat×List Nat) (fun x=>x.1≤ns.length∧x.2.length=ns.length∧sizes (ns.drop x.1) (x.2.take x.1)=sizes ns []∧∀j,j<x.1→x.2.getD j 0≤j+1) (fun x=>ns.length-x.1)
   (fun x=>fm [(0,sl (ns.map ndx).flatten ns.length),(2,lit (.slice (some ⟨bb,0,none⟩) ns.length ns.length)),(13,sl (ns.map ndx).flatten ns.length),(14,lit (.int .i64 ns.length)),(15,lit (.int .i64 x.1))]) (fun x=>[(bb,3,ics x.2)]) (0,List.replicate ns.length 0)
   ⟨Nat.zero_le _,by simp,by simp,fun j hj=>by omega⟩ lfA (List.Sublist.refl _) ?_
  rintro ⟨k,os⟩ ⟨hk,hol,hsz,hb⟩ K hK
  simp only at hk hol hsz hb⊢
  by_cases hkl:k<ns.length
  ·have hget:=List.getElem?_eq_getElem hkl
   generalize ns[k]=n at hget
   have hmem:n∈ns:=List.mem_of_getElem? hget
   have hat:=flat_at (f:=ndx) (n:=19) ndx_len hget
   have hne:(ns.map ndx).flatten≠[]:=flat_ne ndx_len (by omega) (fun e=>by rw [e]at hkl;simp at hkl)
   have c0:=checkExpr_pu n (hok n hmem) hL
   have hlt:(os.take k).length=k:=by rw [List.length_take];omega
   rw [drop_cons hget,sizes_cons]at hsz
   have hfail:step1 (os.take k) n=none→okL ns=false:=fun h=>okL_none (by rw [h]at hsz;exact hsz.symm)
   have hgo:∀s,step1 (os.take k) n=some s→s≤k+1→∀F' H',LeF F' (fm [(0,sl (ns.map ndx).flatten ns.length),(2,lit (.slice (some ⟨bb,0,none⟩) ns.length ns.length)),(13,sl (ns.map ndx).flatten ns.length),(14,lit (.int .i64 ns.length)),(15,lit (.int .i64 (k+1:Nat)))])→[(bb,3,ics (os.set k s))].Sublist H'→K F' H':=fun s hs hle F' H' h1 h2 =>
    hK F' H' (k+1,os.set k s) ⟨by simp only;omega,by simp only;rw [List.length_set];exact hol,by
     simp only
     rw [hs]at hsz
     rw [take_set1 (by omega)];exact hsz,fun j hj=>by
     simp only at hj⊢
     by_cases hjk:j=k
     ·subst hjk;simp only [List.getD,List.getElem?_set_self (show j<os.length by omega),Option.getD_some];exact hle
     ·have:=hb j (by omega)
      simp only [List.getD,List.getElem?_set_ne (Ne.symm hjk)]at this⊢
      exact this⟩ (by simp only;omega) h1 h2
   clear hK hsz
   repeat(refine A1 ⟨?_⟩;intros)
   refine Wo (ov_idxS (cs':=ndx n) rfl rfl (by omega) (by omega) hat hne) ?_
   repeat(refine A1 ⟨?_⟩;intros)
   refine WfX c0 ?_ ?_
   case refine_2 =>
    rintro _ _ ⟨e,rfl⟩
    rw [hC]
    exact⟨hfail (by unfold step1;rw [if_neg (by rw [e];decide)]),rfl⟩
   rintro _ _ ⟨e,rfl,rfl⟩
   simp only [List.cons_append,List.nil_append,List.append_nil]
   by_cases k5:n.k=5
   case pos =>
    by_cases hk0:0<k
    case neg =>
     repeat(refine A1 ⟨?_⟩;intros)
     refine WneedF ?_
     rw [hC]
     exact⟨hfail (by unfold step1;rw [if_pos e,if_pos k5,hlt,if_neg (fun h=>hk0 h.1)]),rfl⟩
    by_cases hx:n.x=(k:Int)-1
    case neg =>
     repeat(refine A1 ⟨?_⟩;intros)
     refine WneedF ?_
     rw [hC]
     exact⟨hfail (by unfold step1;rw [if_pos e,if_pos k5,hlt,if_neg (fun h=>hx h.2)]),rfl⟩
    have hs:step1 (os.take k) n=some (1+os.getD (k-1) 0):=by
     unfold step1;rw [if_pos e,if_pos k5,hlt,if_pos ⟨hk0,hx⟩,take_getD (by omega)]
    have hb1:=hb (k-1) (by omega)
    have hgo':=hgo _ hs (by omega)
    clear hgo hfail hs hb
    repeat(refine A1 ⟨?_⟩;intros)
    refine WneedT ?_
    repeat(refine A1 ⟨?_⟩;intros)
    refine Wo (ov_loadL rfl mmA (ics_get (by omega))) ?_
    repeat(refine A1 ⟨?_⟩;intros)
    refine WPL.store (b:=bb) (o:=k) (sv:=lit (.int .i64 (1+(os.getD (k-1) 0:Nat)))) (cs':=ics (os.set k (1+os.getD (k-1) 0))) rfl rfl rfl (.there _ (.here _)) (ics_set' _ (by omega)) (ble_ics (by omega)) ?_
    repeat(refine A1 ⟨?_⟩;intros)
    exact hgo' _ _ lfA (List.Sublist.cons _ (List.Sublist.refl _))
   by_cases k6:n.k=6
   case pos =>
    by_cases hk0:0<k
    case neg =>
     repeat(refine A1 ⟨?_⟩;intros)
     refine WneedF ?_
     rw [hC]
     exact⟨hfail (by unfold step1;rw [if_pos e,if_neg k5,if_pos k6,hlt,if_neg (fun h=>hk0 h.1.1)]),rfl⟩
    by_cases hy:n.y=(k:Int)-1
    case neg =>
     repeat(refine A1 ⟨?_⟩;intros)
     refine WneedF ?_
     rw [hC]
     exact⟨hfail (by unfold step1;rw [if_pos e,if_neg k5,if_pos k6,hlt,if_neg (fun h=>hy h.1.2)]),rfl⟩
    have hb1:=hb (k-1) (by omega)
    have hs0:step1 (os.take k) n=(if(0<k∧n.y=(k:Int)-1)∧os.getD (k-1) 0+1≤k∧n.x=(k:Int)-1-(os.getD (k-1) 0:Nat)then some (1+os.getD (k-1) 0+(os.take k).getD (k-1-os.getD (k-1) 0) 0)else none):=by
     unfold step1;rw [if_pos e,if_neg k5,if_pos k6,hlt,take_getD (by omega)]
    repeat(refine A1 ⟨?_⟩;intros)
    refine WneedT ?_
    repeat(refine A1 ⟨?_⟩;intros)
    refine Wo (ov_loadL rfl mmA (ics_get (by omega))) ?_
    generalize hs1:os.getD (k-1) 0=s1 at *
    by_cases hl:s1+1≤k
    case neg =>
     repeat(refine A1 ⟨?_⟩;intros)
     refine WneedF ?_
     rw [hC]
     exact⟨hfail (by rw [hs0,if_neg (fun h=>hl h.2.1)]),rfl⟩
    by_cases hx:n.x=(k:Int)-1-(s1:Nat)
    case neg =>
     repeat(refine A1 ⟨?_⟩;intros)
     refine WneedF ?_
     rw [hC]
     exact⟨hfail (by rw [hs0,if_neg (fun h=>hx h.2.2)]),rfl⟩
    rw [if_pos ⟨⟨hk0,hy⟩,hl,hx⟩,take_getD (by omega)]at hs0
    have hb2:=hb (k-1-s1) (by omega)
    have hgo':=hgo _ hs0 (by omega)
    clear hgo hfail hs0 hb
    repeat(refine A1 ⟨?_⟩;intros)
    refine WneedT ?_
    repeat(refine A1 ⟨?_⟩;intros)
    refine Wdo (ov_loadL rfl mmA (ics_get (by omega))) ?_
    rw [hs1]
    repeat(refine A1 ⟨?_⟩;intros)
    rw [show((k:Int)-1-(s1:Int)).toNat*1=k-1-s1 by omega]
    refine Wdo (ov_loadL rfl mmA (ics_get (by omega))) ?_
    repeat(refine A1 ⟨?_⟩;intros)
    refine WPL.store (b:=bb) (o:=k) (sv:=lit (.int .i64 (1+s1+(os.getD (k-1-s1) 0:Nat)))) (cs':=ics (os.set k (1+s1+os.getD (k-1-s1) 0))) rfl rfl rfl (.there _ (.here _)) (ics_set' _ (by omega)) (ble_ics (by omega)) ?_
    repeat(refine A1 ⟨?_⟩;intros)
    exact hgo' _ _ lfA (List.Sublist.cons _ (List.Sublist.refl _))
   have hs:step1 (os.take k) n=some 1:=by
    unfold step1;rw [if_pos e,if_neg k5,if_neg k6]
   have hgo':=hgo _ hs (by omega)
   clear hgo hfail hs hb
   repeat(refine A1 ⟨?_⟩;intros)
   refine WPL.store (b:=bb) (o:=k) (sv:=lit (.int .i64 1)) (cs':=ics (os.set k 1)) rfl rfl rfl (.there _ (.here _)) (ics_set' _ rfl) (ble_ics (by omega)) ?_
   repeat(refine A1 ⟨?_⟩;intros)
   exact hgo' _ _ lfA (List.Sublist.cons _ (List.Sublist.refl _))
  ·have hke:k=ns.length:=by omega
   subst hke
   rw [List.drop_length,List.take_of_length_le (by omega)]at hsz
   have hz:okL ns=(decide (0<ns.length)&&decide (os.getD (ns.length-1) 0=ns.length)):=by unfold okL;rw [←hsz];rfl
   clear hK
   have hb1:=hb (ns.length-1) (by omega)
   clear hb hsz
   repeat(refine A1 ⟨?_⟩;intros)
   refine Wo (ov_loadL rfl mmA (ics_get (by omega))) ?_
   by_cases hf:os.getD (ns.length-1) 0=ns.length
   ·repeat(refine A1 ⟨?_⟩;intros)
    refine WneedT ?_
    repeat(refine A1 ⟨?_⟩;intros)
    exact endHN _ _ end0 (List.nil_sublist _) ⟨by rw [hz,decide_eq_true hf,decide_eq_true (by omega)];rfl,rfl,rfl⟩
   ·repeat(refine A1 ⟨?_⟩;intros)
    refine WneedF ?_
    rw [hC]
    exact⟨by rw [hz,decide_eq_false hf,Bool.and_false],rfl⟩
section
variable {P:Program}{C:Ctx}{n:Nat}{F:Fr}{H:LH}{ops:Array Oper}{K:Fr→LH→Prop}{rest:List Oper}{ty:TypeId}{pos:String}{aft:Array Edge}
theorem WvX {x:Operand}{f:FuncId}{first caps:List SV}{d:Nat}{l:List Operand}{tys:Array TypeId}{svs:List SV}{Hin Rs:LH}{R X:SV→LH→Prop}(hc:PuH P f svs Hin R X) (k:∀res H',R res H'→WPL P C n ops rest K (upd F d res) (Rs++H')) (kx:∀pv H',X pv H'→C.pan pv (H'++Rs))
  (hs:Tk H Hin Rs) (hx:ev F x=fnv f first caps:=by exact rfl) (ha:first++l.map (ev F)++caps=svs:=by exact rfl) (hd:Nat.blt d n=true:=by exact rfl) :
  WPL P C n ops (⟨some d, .call ⟨.value x,l.toArray,tys⟩,ty,pos,aft,none⟩::rest) K F H :=
 .perm hs.perm (.callH hx hc (Spl.app _ _) ha hd (fun res H' h => .perm List.perm_append_comm (k res H' h)) fun pv H' h=>kx pv H' h)
end
theorem deeper_pu {w d f:Nat}{l l':List UInt8}{H Hc:LH}{caps:List SV}{good:Bool}(h:Wtr w l d H) (hd:d<200)
  (hc:∀H1,Wtr w l (d+1) H1→PuH Tryz.prog f caps (Hc++H1) (fun r H'=>good=true∧r=Ab.tup []∧∃H2,H'=Hc++H2∧Wtr w l' (d+1) H2) (fun pv _=>good=false∧pv=inval)) :
  PuH Tryz.prog 218 [lit (.pointer (some ⟨w,0,none⟩)),fnv f [] caps] (H++Hc) (fun r H'=>good=true∧r=Ab.tup []∧∃H2,H'=H2++Hc∧Wtr w l' d H2) (fun pv _=>good=false∧pv=inval):=by
 obtain⟨a,s,Hb,ha,hb,rfl⟩:=h
 refine PuH.intro Tryz.func218 rfl (by kernel_rfl) fun C hC=>?_
 simp only [List.cons_append]
 repeat(refine A1 ⟨?_⟩;intros)
 refine WneedT ?_
 repeat(refine A1 ⟨?_⟩;intros)
 refine WPL.perm (List.perm_append_comm (l₁:=(w,289,wrC a s (d+1) false)::Hb) (l₂:=Hc)) ?_
 refine WvX (hc _ ⟨a,s,Hb,ha,hb,rfl⟩) ?_ ?_ (Tk.same _)
 ·rintro _ _ ⟨g,rfl,_,rfl,a',s',Hb',ha',hb',rfl⟩
  simp only [List.nil_append]
  refine WPL.perm List.perm_append_comm ?_
  simp only [List.cons_append]
  repeat(refine A1 ⟨?_⟩;intros)
  exact endHN _ _ end0 (List.Sublist.refl _) ⟨g,rfl,(w,289,wrC a' s' d false)::Hb',by rw [show((d+1:Nat):Int)-1=(d:Int) by omega];rfl,a',s',Hb',ha',hb',rfl⟩
 ·rintro _ _ ⟨g,rfl⟩
  rw [hC]
  exact⟨g,rfl⟩
end Go.Ab
