/- Texts laid one behind the other: Rng, RngB, Drw, ArrA, Edg, PLn, WdS, PIv, PCut. -/
import Derived.RangeFuncLeaves
import Derived.RangeFuncRecord
import Derived.TacticsIn
import Derived.OrdersIn
import Derived.LoopNIn
import Derived.Test.YtjopjomoejfehaaGreatDoorB22
set_option linter.all false
set_option maxHeartbeats 16000000
namespace Go.Ab
open Go.Proofs
variable [Base]
abbrev fe (ro:Option Nat):Fence:={fn:=fun _=>True,depth:=none,alive:=false,round:=ro}
section
variable {P:Program}{C:Ctx}{n:Nat}{Q:Exit→Fr→LH→Prop}{F:Fr}{H:LH}{ro:Option Nat}
attribute [local semireducible] WP WPL j5 rm
def WPX (ro:Option Nat) (P:Program) (C:Ctx) (n:Nat) (c:Code) (Q:Exit→Fr→LH→Prop) (F:Fr) (H:LH):Prop:=∀a w,St C n F H a w→∀d,c.wpIn (fe ro) d P (oC C n Q) a w
theorem WPX.exit {id:Nat}(h:Q (.exit id) F H):WPX ro P C n (.exit id) Q F H:=fun _ _ hs _=>wpIn_exit (.mk hs h)
end
section
variable {P:Program}{C:Ctx}{n:Nat}{Q:Exit→Fr→LH→Prop}{F:Fr}{H:LH}{Post:Exit→Act→World→Prop}
attribute [local semireducible] WP WPL j5 rm
end
section
variable {P:Program}{ops:Array Oper}{C:Ctx}{n:Nat}{F F':Fr}{H:LH}
attribute [local semireducible] WP WPL j5 rm Dk
end
section
variable {P:Program}{F:Fr}{H:LH}{ty:TypeId}
theorem jk {T e:TypeId}{len k sz by_ by2:Nat}{z z2:List SV}{g g2:Bool} [hE:TY P e k by2 z2 g2] [hT:TY P T sz by_ z g] (hA:P.underlying T=some (.array len e)){l:List (Nat×Operand)}{r:List (Nat×List SV)}{cs:List SV}
  (hp:dJ F l r) (hf:li ((List.range len).map fun i=>(i*k,k)) z r=some cs):OpV P (.build T l.toArray) ty F H (ag cs) :=
 OpV.pure fun m w o a ho _ _ _ h=>by
  obtain⟨v,hz,hall⟩:=hT.run_zero w;have hv:∀p∈l,(ev F p.2).p m (a.eval p.2):=fun p hp'=>h p.2 (by simp only [Op.operands,ve,aj];exact⟨p,hp',rfl⟩)
  obtain⟨arr',hfill,hall'⟩:=rZ (m:=m) (ρ:=a.eval) (fun i=>some (i*k,k)) (fun i p h=>by
   simp only [gG,fp]at h;obtain⟨j,hj,rfl⟩:=h;obtain⟨hlt,rfl⟩:=bC.1 hj;simp) hp hv z v.cells cs (hall m) hf
  refine⟨.agg arr',?_,by unfold ag;exact⟨arr',rfl,hall'⟩⟩;simp only [execOp,ho,Instr.build,Sem.run_bind,hz,Result.andThen_ok,underlying,run_program,hA,Sem.run_pure,hE.run_size,hZ];rw [hfill];rfl
theorem fJ {x ix:Operand}{T e:TypeId}{len k by2:Nat}{z2:List SV}{g2:Bool} [hE:TY P e k by2 z2 g2] (hA:P.underlying T=some (.array len e)){ki:IntKind}{b:Nat}{i:Int}
  (hx:ev F x=lit (.pointer (some ⟨b,0,none⟩))) (hi:ev F ix=lit (.int ki i)) (h0:0≤i) (h1:i<len):OpV P (.indexAddr T x ix) ty F H (lit (.pointer (some ⟨b,i.toNat*k,none⟩))) :=
 OpV.pure fun m w o a hop _ _ _ h=>by
  have e0:=h x (by simp [Op.operands]);rw [hx,ap]at e0;have e1:=h ix (by simp [Op.operands]);rw [hi,ap]at e1;refine⟨.pointer (some ⟨b,i.toNat*k,none⟩),?_,ap.2 rfl⟩;simp [execOp,hop,e0,e1,Instr.indexAt,Instr.sureAddr,asIntOf,underlying,hA,h0,h1,hE.run_size,cG]
end
section
variable {P:Program}{C:Ctx}{n:Nat}{F:Fr}{H:LH}{Post:Exit→Act→World→Prop}
attribute [local semireducible] WP WPL j5 rm Dk
end
abbrev lfl (l:Li):SV:=lf l.a l.b l.c
abbrev ppq (p:Pq):SV:=pp p.1 p.2
theorem Li.le.hts {l:Li}{L:Nat}(h:l.le L) (hL:1≤L):ht (l.a:Rat)≤L∧ht (l.b:Rat)≤L∧ht (l.c:Rat)≤L:=by
 have ha:=iD l.a h.a;have hb:=iD l.b h.b;have hc:=iD l.c h.c;omega
theorem He (x y:Rat) (hx:ht x≤1000000) (hy:ht y≤1000000):Pu Tryz.prog 301 [fr x,fr y] (fr (x/y)):=by
 have h1:=yz y;have c1:=Ly y om;have c2:=kZ x y⁻¹ om om;rw [←iU]at c2;refine Pi Tryz.func301 fun C=>?_
 exact X2 c1 c2
theorem LU (x:Rat) (hx:ht x≤1000000):Pu Tryz.prog 316 [fr x] (fr (x/2)):=by
 have h2:ht ((1:Rat)/2)≤10:=by have h1:=qw 1 2;have h2:=lV;have h3:ht (2:Rat)≤1:=uI 2 om;clear hx;omega
 have c2:=kZ x (1/2) om om;rw [show x*(1/2)=x/2 by grind]at c2;have e0:r0 ((1:Rat)/2)=1:=by decide +kernel
 have e1:r1 ((1:Rat)/2)=1:=by decide +kernel
 have e2:r2 ((1:Rat)/2)=lit (.pointer none):=if_pos (by decide +kernel);rw [show fr ((1:Rat)/2)=ag [lit (.int .i64 1),lit (.int .i64 1),lit (.pointer none)] by unfold fr;rw [e0,e1,e2]]at c2;clear h2 e0 e1 e2;refine Pi Tryz.func316 fun C=>?_
 exact X1 c2
theorem OX (x y:Rat) (hx:ht x≤1000000) (hy:ht y≤1000000):Pu Tryz.prog 318 [fr x,fr y] (fr (yh x y)):=by
 have c1:=qB y x om om;have e:(0≤(x-y).num.sign)↔¬0<(y-x).num.sign:=by rw [p9,eQ];grind
 unfold yh;by_cases h:0<(y-x).num.sign
 ·rw [if_neg (fun k=>e.1 k h)];clear e;generalize(y-x).num.sign=z at *;refine Pi Tryz.func318 fun C=>?_
  exact X1 c1
 ·rw [if_pos (e.2 h)];clear e;generalize(y-x).num.sign=z at *;refine Pi Tryz.func318 fun C=>?_
  exact X1 c1
theorem OW (x y:Rat) (hx:ht x≤1000000) (hy:ht y≤1000000):Pu Tryz.prog 319 [fr x,fr y] (fr (yd x y)):=by
 have c1:=qB y x om om;have e:((x-y).num.sign≤0)↔¬(y-x).num.sign<0:=by rw [←oZ,eQ,jj];grind
 unfold yd;by_cases h:(y-x).num.sign<0
 ·rw [if_neg (fun k=>e.1 k h)];clear e;generalize(y-x).num.sign=z at *;refine Pi Tryz.func319 fun C=>?_
  exact X1 c1
 ·rw [if_pos (e.2 h)];clear e;generalize(y-x).num.sign=z at *;refine Pi Tryz.func319 fun C=>?_
  exact X1 c1
theorem Ot (l:Li) (h:l.le 1000000):Pu Tryz.prog 252 [lfl l] (lfl l.neg):=by
 have ha:=iD l.a h.a;have hb:=iD l.b h.b;have hc:=iD l.c h.c;have c1:=m7 (l.a:Rat) om;have c2:=m7 (l.b:Rat) om;have c3:=m7 (l.c:Rat) om;rw [←gJ]at c1 c2 c3;refine Pi Tryz.func252 fun C=>?_
 refine D3 c1 c2 c3 ⟨?_⟩;intros;exact G1
theorem wS (l:Li) (h:l.le 1000000):Pu Tryz.prog 278 [lfl l] (ppq (cK l)):=by
 have ha:=iD l.a h.a;have c1:=m7 (l.a:Rat) om;refine Pi Tryz.func278 fun C=>?_
 exact X1 c1
theorem Li.bf_htL {l:Li}{L:Nat}(h:l.le L) (hL:1≤L):ht l.bf≤10*L:=by
 obtain⟨ha,hb,hc⟩:=h.hts hL;unfold Li.bf;have h1:=bF (l.b:Rat) l.b;have h2:=bF (-(l.a:Rat)) (-(l.a:Rat));have h3:=fh ((l.b:Rat)*l.b) (-(l.a:Rat) * -(l.a:Rat));have h4:=yz ((l.b:Rat)*l.b + -(l.a:Rat) * -(l.a:Rat));have h5:=bF (l.c:Rat) ((l.b:Rat)*l.b + -(l.a:Rat) * -(l.a:Rat))⁻¹;rw [gq]at h2⊢;rw [iU];omega
theorem sj {l:Li}{L:Nat}(h:l.le L) (hL:1≤L):hp (ct l) (12*L):=by
 obtain⟨ha,hb,hc⟩:=h.hts hL;have:=Li.bf_htL h hL;have:=bF l.bf (l.a:Rat);have:=bF l.bf (l.b:Rat);unfold ct;constructor <;> simp only <;> omega
theorem Pg {l:Li}{L:Nat}(h:l.le L) (hL:1≤L){t:Rat}{n:Nat}(k:ht t≤n):hp (atL l t) (n+15*L):=by
 obtain⟨ha,hb,hc⟩:=h.hts hL;have hd:hp (cK l) L:=⟨hb,by show ht (-(l.a:Rat))≤L;rw [gq];exact ha⟩
 obtain⟨h1,h2⟩:=v7 (sj h hL) k hd;unfold atL;exact⟨om,om⟩
theorem Ce {l:Li}{L:Nat}(h:l.le L) (hL:1≤L){p:Pq}{n:Nat}(k:hp p n):ht (af l p)≤2*n+7*L:=by
 obtain⟨h1,h2,h3⟩:=h.hts hL;obtain⟨k1,k2⟩:=k;have:=bF (l.a:Rat) p.1;have:=bF (l.b:Rat) p.2;have:=fh ((l.a:Rat)*p.1) ((l.b:Rat)*p.2);have:=fh ((l.a:Rat)*p.1+(l.b:Rat)*p.2) (l.c:Rat);unfold af;omega
theorem Du {l:Li}{L:Nat}(h:l.le L) (hL:1≤L) (hU:L≤10000):Pu Tryz.prog 299 [lfl l] (ppq (ct l)):=by
 obtain⟨ha,hb,hc⟩:=h.hts hL;have hf:=Li.bf_htL h hL;have h1:=bF (l.a:Rat) l.a;have h2:=bF (l.b:Rat) l.b;have h3:=fh ((l.a:Rat)*l.a) ((l.b:Rat)*l.b);have hcn:ht (-(l.c:Rat))≤L:=by rw [gq];exact hc
 have e : -(l.c:Rat)/((l.a:Rat)*l.a+l.b*l.b)=l.bf:=by
  unfold Li.bf;rw [show(l.b:Rat)*l.b + -(l.a:Rat) * -(l.a:Rat)=(l.a:Rat)*l.a+l.b*l.b by grind,iU,iU,Rat.neg_mul]
 have c1:=tu (l.a:Rat) l.b l.c;have c2:=m7 (l.c:Rat) om;have c3:=uf (l.a:Rat) l.b l.a l.b om om om om;have c4:=He (-(l.c:Rat)) ((l.a:Rat)*l.a+l.b*l.b) om om;rw [e]at c4;have c5:=A4 (l.a:Rat) l.b l.bf om om om;rw [eK (l.a:Rat) l.bf,eK (l.b:Rat) l.bf]at c5;clear h1 h2 h3 hcn ha hb hc hf e;refine Pi Tryz.func299 fun C=>?_
 refine D5 c1 c2 c3 c4 c5 ⟨?_⟩;intros;exact G1
theorem QI {l:Li}{L:Nat}(h:l.le L) (hL:1≤L) (hU:L≤10000){t:Rat}(k:ht t≤200000):Pu Tryz.prog 294 [lfl l,fr t] (ppq (atL l t)):=by
 obtain⟨ha,hb,hc⟩:=h.hts hL;obtain⟨b1,b2⟩:=sj h hL;have d2:ht (-(l.a:Rat))≤L:=by rw [gq];exact ha
 have m1:=bF (l.b:Rat) t;have m2:=bF (-(l.a:Rat)) t;have c1:=Du h hL hU;have c2:=wS l (h.gr om);have c3:=A4 (l.b:Rat) (-(l.a:Rat)) t om om om;have c4:=Nw (ct l).1 (ct l).2 ((l.b:Rat)*t) (-(l.a:Rat)*t) om om om om;rw [eK (l.b:Rat) t,eK (-(l.a:Rat)) t]at c3 c4;clear m1 m2 b1 b2 d2 ha hb hc;refine Pi Tryz.func294 fun C=>?_
 refine D4 c1 c2 c3 c4 ⟨?_⟩;intros;exact G1
theorem Lf {l:Li}{L:Nat}(h:l.le L) (hL:1≤L) (hU:L≤10000){p:Pq}(k:hp p 100000):Pu Tryz.prog 293 [lfl l,ppq p] (lit (.int .i64 (gS l p))):=by
 obtain⟨ha,hb,hc⟩:=h.hts hL;have hv:=Ce h hL k;have c1:=Al (l.a:Rat) l.b l.c p.1 p.2 om om om k.1 k.2;have c2:=oc (af l p) om;clear ha hb hc hv;refine Pi Tryz.func293 fun C=>?_
 exact Y2 c1 c2
section
variable {P:Program}{C:Ctx}{n:Nat}{F:Fr}{H:LH}{Q:Exit→Fr→LH→Prop}
theorem WdS {id:Nat}{l:List Oper}(ks:List Nat){b:Nat}{T:TypeId}{cs:List SV}(css:List (List SV)){Hc:LH}(hd:aq b T cs H Hc) (hm:P.follows .mixedOrders=true) (hchk:Ai l.toArray ks=true)
  (h:Mk P C n l.toArray ks Hc (fun s=>[(b,T,(cs::css).getD s [])]) 0 0 l (fun Fe=>Q .normal Fe ((b,T,(cs::css).getD ks.length [])::Hc)) F):WP P C n (.region id l.toArray true) Q F H :=
 .perm hd.perm (WdM ks Hc (fun s=>[(b,T,(cs::css).getD s [])]) h rfl hm hchk)
theorem MkS {ops:Array Oper}{rs:List Nat}{Hc:LH}{E:Nat→LH}{i s:Nat}{l:List Oper}{K:Fr→Prop}{T T':TypeId}{sz by_:Nat}{z:List SV}{g:Bool} [hT:TY P T sz by_ z g]{x v:Operand}{b o:Nat}{sv:SV}{cs cs' ds:List SV}{ty:TypeId}{pos:String}{aft:Array Edge}
  (h:Mk P C n ops rs Hc E (i+1) (s+1) l K F) (hE:E s=[(b,T',cs)]:=by exact rfl) (hE':E (s+1)=[(b,T',cs')]:=by exact rfl) (hx:ev F x=lit (.pointer (some ⟨b,o,none⟩)):=by exact rfl)
  (hv:ev F v=sv:=by(first|exact Eq.refl (lit _)|exact Eq.refl (dg _)|exact Eq.refl (ag _)|exact Eq.refl (pt _)|exact Eq.refl (sl _ _)|exact Eq.refl (nsl _ _)|exact Eq.refl (tup _)|exact Eq.refl top|exact rfl)) (hco:CO sv ds:=by infer_instance)
  (hlen:Nat.beq ds.length sz=true:=by exact rfl) (hsp:spl cs o ds=cs':=by exact rfl) (hle:Nat.ble (o+sz) cs.length=true:=by exact rfl)
  (ho:ops[i]? = some ⟨none, .store T x v,ty,pos,aft,none⟩:=by exact rfl) (hr:rs[s]? = some i:=by exact rfl):Mk P C n ops rs Hc E i s (⟨none, .store T x v,ty,pos,aft,none⟩::l) K F :=
 MkR (sv:=top) (by rw [hE,hE'];exact TS.store ho hx hv hlen (bz.here _) hsp hle) h hr
end
abbrev ivx (s:Spn):List SV:=[lit (.int .i64 (r0 s.lo)),lit (.int .i64 (r1 s.lo)),r2 s.lo,lit (.int .i64 (r0 s.hi)),lit (.int .i64 (r1 s.hi)),r2 s.hi,lit (.bool s.nl),lit (.bool s.nh)]
abbrev iv (s:Spn):SV:=ag (ivx s)
theorem Lw:Pu Tryz.prog 292 [] (iv Spn.full):=by
 have e0:r0 (0:Rat)=0:=by decide +kernel
 have e1:r1 (0:Rat)=0:=by decide +kernel
 have e2:r2 (0:Rat)=lit (.pointer none):=if_pos (by decide +kernel);unfold iv ivx;rw [e0,e1,e2];refine Pi Tryz.func292 fun C=>?_
 exact Z2
theorem Ff (s:Spn) (h:s.le 1000000):Pu Tryz.prog 320 [iv s] (lit (.bool (j6 s))):=by
 have c1:=qB s.lo s.hi (by have:=h.1;omega) (by have:=h.2;omega);obtain⟨lo,hi,nl,nh⟩:=s;unfold j6;simp only at *;generalize(lo-hi).num.sign=z at *;clear h;cases nl
 ·cases nh
  ·by_cases hz:0≤z
   ·rw [a9 hz];refine Pi Tryz.func320 fun C=>?_
    exact Y1 c1
   ·rw [ab hz];refine Pi Tryz.func320 fun C=>?_
    exact Y1 c1
  ·refine Pi Tryz.func320 fun C=>?_
   exact Y1 c1
 ·refine Pi Tryz.func320 fun C=>?_
  exact Y1 c1
theorem Ds {v w:Spn}{n:Nat}(h:v.le n) (k:w.le n):(iB v w).le n:=by
 obtain⟨h1,h2⟩:=h;obtain⟨k1,k2⟩:=k;unfold iB yh yd;constructor
 ·simp only;split
  ·exact k1
  ·split
   ·exact h1
   ·split <;> assumption
 ·simp only;split
  ·exact k2
  ·split
   ·exact h2
   ·split <;> assumption
abbrev z8:List SV:=[lit (.int .i64 0),lit (.int .i64 0),lit (.pointer none),lit (.int .i64 0),lit (.int .i64 0),lit (.pointer none),lit (.bool false),lit (.bool false)]
theorem IN (v w:Spn) (h:v.le 1000000) (k:w.le 1000000):Pu Tryz.prog 300 [iv v,iv w] (Ab.tup [iv (iB v w),lit (.bool (!j6 (iB v w)))]):=by
 have c1:=OX v.lo w.lo h.1 k.1;have c2:=OW v.hi w.hi h.2 k.2;have c3:=Ff (iB v w) (Ds h k);clear h k;generalize j6 (iB v w)=bad at *;obtain⟨lo,hi,nl,nh⟩:=v;obtain⟨lo',hi',nl',nh'⟩:=w;unfold iB at *;simp only at *;generalize yh lo lo'=a at *;generalize yd hi hi'=b at *;refine Pi Tryz.func300 fun C=>?_
 repeat(first|(refine AS ⟨?_⟩;intros)|(refine O1 ⟨?_⟩;intros))
 rename_i b2 b3 b4 b6
 refine WP.viaB (fun F H=>LeF F (fm [(2,lit (.pointer (some ⟨b2,0,none⟩))),(3,lit (.pointer (some ⟨b3,0,none⟩))),(4,lit (.pointer (some ⟨b4,0,none⟩))),(6,lit (.pointer (some ⟨b6,0,none⟩)))])∧
  H=[(b6,387,ivx ⟨if nl then lo' else if nl' then lo else a,hi,nl&&nl',nh⟩),(b4,387,z8),(b3,387,ivx ⟨lo',hi',nl',nh'⟩),(b2,387,ivx ⟨lo,hi,nl,nh⟩)]) ?_ ?_
 ·clear c2 c3;cases nl
  ·cases nl'
   ·repeat(first|(refine AS ⟨?_⟩;intros)|(refine O1 ⟨?_⟩;intros)|(refine Wcx (c1) ?_)|(refine iN (c1) ?_))
    exact⟨lfA,rfl⟩
   ·repeat(first|(refine AS ⟨?_⟩;intros)|(refine O1 ⟨?_⟩;intros)|(refine Wcx (c1) ?_)|(refine iN (c1) ?_))
    exact⟨lfA,rfl⟩
  ·repeat(first|(refine AS ⟨?_⟩;intros)|(refine O1 ⟨?_⟩;intros))
   apply WdS [5,7] [ivx ⟨lo',hi,true,nh⟩,ivx ⟨lo',hi,nl',nh⟩] (aq.here _) kr (by decide +kernel);refine MkD 5 ?_;(repeat(first|(refine A1 ⟨?_⟩;intros)));refine zx ?_;refine MkS ?_;refine MkD 1 ?_;(repeat(first|(refine A1 ⟨?_⟩;intros)));refine zx ?_;refine MkS ?_;refine MkN ?_;(repeat(refine A1 ⟨?_⟩;intros));refine A2 ⟨?_⟩;intros;exact⟨lfA,rfl⟩
 ·rintro F H ⟨hF,rfl⟩;refine WP.le hF ?_;clear c1;generalize hu:(if nl=true then lo' else if nl'=true then lo else a)=u at *;generalize hn:(nl&&nl')=n at *;repeat(first|(refine AS ⟨?_⟩;intros)|(refine O1 ⟨?_⟩;intros))
  refine WP.viaB (fun F H=>LeF F (fm [(4,lit (.pointer (some ⟨b4,0,none⟩))),(6,lit (.pointer (some ⟨b6,0,none⟩)))])∧
   H=[(b6,387,ivx ⟨u,if nh then hi' else if nh' then hi else b,n,nh&&nh'⟩),(b4,387,z8),(b3,387,ivx ⟨lo',hi',nl',nh'⟩),(b2,387,ivx ⟨lo,hi,nl,nh⟩)]) ?_ ?_
  ·clear c3;cases nh
   ·cases nh'
    ·repeat(first|(refine AS ⟨?_⟩;intros)|(refine O1 ⟨?_⟩;intros)|(refine Wcx (c2) ?_)|(refine iN (c2) ?_))
     exact⟨lfA,rfl⟩
    ·repeat(first|(refine AS ⟨?_⟩;intros)|(refine O1 ⟨?_⟩;intros)|(refine Wcx (c2) ?_)|(refine iN (c2) ?_))
     exact⟨lfA,rfl⟩
   ·repeat(first|(refine AS ⟨?_⟩;intros)|(refine O1 ⟨?_⟩;intros))
    apply WdS [5,7] [ivx ⟨u,hi',n,true⟩,ivx ⟨u,hi',n,nh'⟩] (aq.here _) kr (by decide +kernel);refine MkD 5 ?_;(repeat(first|(refine A1 ⟨?_⟩;intros)));refine zx ?_;refine MkS ?_;refine MkD 1 ?_;(repeat(first|(refine A1 ⟨?_⟩;intros)));refine zx ?_;refine MkS ?_;refine MkN ?_;(repeat(refine A1 ⟨?_⟩;intros));refine A2 ⟨?_⟩;intros;exact⟨lfA,rfl⟩
  ·rintro F H ⟨hF,rfl⟩;refine WP.le hF ?_;repeat(first|(refine AS ⟨?_⟩;intros)|(refine O1 ⟨?_⟩;intros))
   apply WdS [4] [ivx ⟨u,if nh then hi' else if nh' then hi else b,n,nh&&nh'⟩] (aq.there _ (aq.here _)) kr (by decide +kernel);refine MkD 4 ?_;(repeat(first|(refine A1 ⟨?_⟩;intros)|refine W4 c3 ⟨?_⟩));refine zx ?_;refine MkS ?_;refine MkD 1 ?_;(repeat(first|(refine A1 ⟨?_⟩;intros)|refine W4 c3 ⟨?_⟩));refine zx ?_;refine MkN ?_;(repeat(refine A1 ⟨?_⟩;intros));exact G3
theorem DA (s:Spn) (h:s.le 100000):Pu Tryz.prog 295 [iv s] (fr (dq s)):=by
 obtain⟨h1,h2⟩:=h;have h1':=lV;have m1:=fh s.lo s.hi;have c0:=BP 1 om om;have c1:=tZ s.hi 1 om om;have c2:=ql s.lo 1 om om;have c3:=ql s.lo s.hi om om;have c4:=LU (s.lo+s.hi) om;have e0:r0 (0:Rat)=0:=by decide +kernel
 have e1:r1 (0:Rat)=0:=by decide +kernel
 have e2:r2 (0:Rat)=lit (.pointer none):=if_pos (by decide +kernel);obtain⟨lo,hi,nl,nh⟩:=s;unfold dq mO;simp only at *;clear h1 h2 h1' m1;cases nl
 ·cases nh
  ·simp only [jH,bJ,aQ];refine Pi Tryz.func295 fun C=>?_
   refine D3 c0 c3 c4 ⟨?_⟩;intros;exact G1
  ·simp only [bq,bJ,aQ,aV];refine Pi Tryz.func295 fun C=>?_
   exact X2 c0 c2
 ·cases nh
  ·simp only [aU,bJ,aQ,aV];refine Pi Tryz.func295 fun C=>?_
   exact X2 c0 c1
  ·simp only [jH,aV];unfold fr;rw [e0,e1,e2];refine Pi Tryz.func295 fun C=>?_
   exact Z2
abbrev frx (x:Rat):List SV:=[lit (.int .i64 (r0 x)),lit (.int .i64 (r1 x)),r2 x]
def qR (l:Li) (v:Spn) (m:Li):Spn×Bool :=
 if(slp l m).num.sign=0 then(v,decide (0<(af m (ct l)).num.sign))
 else(iB v (hlf (slp l m) (-(af m (ct l)/slp l m))),!j6 (iB v (hlf (slp l m) (-(af m (ct l)/slp l m)))))
theorem FK (l:Li) (v:Spn) (m:Li):jr l v m=if(qR l v m).2 then some (qR l v m).1 else none:=by
 unfold jr qR;by_cases h:(slp l m).num.sign=0
 ·rw [if_pos h,if_pos h];by_cases k:0<(af m (ct l)).num.sign
  ·rw [if_pos k,a9 k];rfl
  ·rw [if_neg k,ab k];rfl
 ·rw [if_neg h,if_neg h];cases j6 (iB v (hlf (slp l m) (-(af m (ct l)/slp l m)))) <;> rfl
theorem uG:ht (0:Rat)≤1:=by have:=kw;omega
theorem Hx {l m:Li}{L:Nat}(hl:l.le L) (hm:m.le L) (h1:1≤L):ht (slp l m)≤7*L∧ht (af m (ct l))≤31*L∧ht (-(af m (ct l)/slp l m))≤40*L:=by
 obtain⟨a1,a2,a3⟩:=hl.hts h1;obtain⟨b1,b2,b3⟩:=hm.hts h1;have k1:=bF (m.a:Rat) l.b;have k2:=bF (m.b:Rat) l.a;have k3:=gU ((m.a:Rat)*l.b) (m.b*l.a);have k4:=Ce hm h1 (sj hl h1);have k5:=qw (af m (ct l)) (slp l m);have k6:ht (slp l m)≤7*L:=by unfold slp;omega
 rw [gq];exact⟨k6,om,om⟩
theorem LG {k u:Rat}{n:Nat}(h:ht u≤n) (h1:1≤n):(hlf k u).le n:=by
 have:=uG;unfold hlf;split
 ·exact⟨h,by simp only;omega⟩
 ·exact⟨by simp only;omega,h⟩
theorem BW {l m:Li}{v:Spn}{L:Nat}(hl:l.le L) (hm:m.le L) (h1:1≤L) (hv:v.le (50*L)):(qR l v m).1.le (50*L):=by
 obtain⟨_,_,k⟩:=Hx hl hm h1;unfold qR;split
 ·exact hv
 ·exact Ds hv (LG om om)
theorem GW {l m:Li}{v:Spn}{L:Nat}(hl:l.le L) (hm:m.le L) (h1:1≤L) (hU:L≤1000) (hv:v.le (50*L)):Pu Tryz.prog 274 [lfl l,iv v,lfl m] (Ab.tup [iv (qR l v m).1,lit (.bool (qR l v m).2)]):=by
 obtain⟨a1,a2,a3⟩:=hl.hts h1;obtain⟨b1,b2,b3⟩:=hm.hts h1;obtain⟨k1,k2,k3⟩:=Hx hl hm h1;obtain⟨d1,d2⟩:=sj hl h1;have hz:=uG;have na:ht (-(l.a:Rat))≤L:=by rw [gq];exact a1
 have c1:=tu (m.a:Rat) m.b m.c;have c2:=wS l (hl.gr om);have c3:=uf (m.a:Rat) m.b l.b (-(l.a:Rat)) om om om om;rw [show(m.a:Rat)*l.b+m.b * -(l.a:Rat)=slp l m by unfold slp;grind]at c3;have c4:=Du hl h1 om;have c5:=Al (m.a:Rat) m.b m.c (ct l).1 (ct l).2 om om om om om;rw [show(m.a:Rat)*(ct l).1+m.b*(ct l).2+m.c=af m (ct l)from rfl]at c5;have c6:=oc (slp l m) om;have c7:=oc (af m (ct l)) om;have c8:=He (af m (ct l)) (slp l m) om om;have c9:=m7 (af m (ct l)/slp l m) (by rw [←gq];omega);have hw:=LG (k:=slp l m) (u := -(af m (ct l)/slp l m)) (n:=1000000) om om;have c10:=IN v (hlf (slp l m) (-(af m (ct l)/slp l m))) ⟨by have:=hv.1;omega,by have:=hv.2;omega⟩ hw;have e0:r0 (0:Rat)=0:=by decide +kernel
 have e1:r1 (0:Rat)=0:=by decide +kernel
 have e2:r2 (0:Rat)=lit (.pointer none):=if_pos (by decide +kernel);unfold qR;clear a1 a2 a3 b1 b2 b3 k1 k2 k3 d1 d2 hz na hl hm hv hw;generalize hbad:j6 (iB v (hlf (slp l m) (-(af m (ct l)/slp l m))))=bad at *;clear hbad;generalize hmt:iB v (hlf (slp l m) (-(af m (ct l)/slp l m)))=mt at *;clear hmt;unfold hlf at c10;generalize -(af m (ct l)/slp l m)=u at *;generalize af m (ct l)/slp l m=u' at *;generalize af m (ct l)=w at *;generalize slp l m=k at *;generalize k.num.sign=z at *;generalize w.num.sign=y at *;by_cases z0:z=0
 ·rw [if_pos z0];clear c8 c9 c10;refine Pi Tryz.func274 fun C=>?_
  repeat(first|(refine AS ⟨?_⟩;intros)|(refine O1 ⟨?_⟩;intros))
  refine WdL 11 2 ?_;refine D5 c1 c2 c3 c4 c5 ⟨?_⟩;intros;refine dL2 fun b8 b9=>?_
  refine Gs (sv:=fr k) (cs':=frx k) rfl rfl rfl (by first|exact .here _|exact .there _ (.here _)) rfl rfl ?_ ?_
  ·(repeat(first|exact LOk.nil|refine Lsk ?_|refine Lcv ?_))
  refine Gs (sv:=fr w) (cs':=frx w) rfl rfl rfl (by first|exact .here _|exact .there _ (.here _)) rfl rfl ?_ ?_
  ·(repeat(first|exact LOk.nil|refine Lsk ?_|refine Lcv ?_))
  refine Gn ?_ ?_
  ·(repeat(first|exact LOk.nil|refine Lsk ?_|refine Lcv ?_))
  repeat(first|(refine AS ⟨?_⟩;intros)|(refine O1 ⟨?_⟩;intros)|(refine Wcx (c6) ?_)|(refine iN (c6) ?_))
  apply WdS [4] [ivx v] (aq.there _ (aq.there _ (aq.here _))) kr (by decide +kernel);refine MkD 4 ?_;(repeat(first|(refine A1 ⟨?_⟩;intros)|refine W4 c7 ⟨?_⟩));refine zx ?_;refine MkS ?_;refine MkD 1 ?_;(repeat(first|(refine A1 ⟨?_⟩;intros)|refine W4 c7 ⟨?_⟩));refine zx ?_;refine MkN ?_;(repeat(refine A1 ⟨?_⟩;intros));exact G3
 ·rw [if_neg z0];by_cases z1:z=1
  ·rw [if_pos z1]at c10;unfold iv ivx at c10;rw [e0,e1,e2]at c10;refine Pi Tryz.func274 fun C=>?_
   repeat(first|(refine AS ⟨?_⟩;intros)|(refine O1 ⟨?_⟩;intros))
   refine WdL 11 2 ?_;refine D5 c1 c2 c3 c4 c5 ⟨?_⟩;intros;refine dL2 fun b8 b9=>?_
   refine Gs (sv:=fr k) (cs':=frx k) rfl rfl rfl (by first|exact .here _|exact .there _ (.here _)) rfl rfl ?_ ?_
   ·(repeat(first|exact LOk.nil|refine Lsk ?_|refine Lcv ?_))
   refine Gs (sv:=fr w) (cs':=frx w) rfl rfl rfl (by first|exact .here _|exact .there _ (.here _)) rfl rfl ?_ ?_
   ·(repeat(first|exact LOk.nil|refine Lsk ?_|refine Lcv ?_))
   refine Gn ?_ ?_
   ·(repeat(first|exact LOk.nil|refine Lsk ?_|refine Lcv ?_))
   repeat(first|(refine AS ⟨?_⟩;intros)|(refine O1 ⟨?_⟩;intros)|(refine Wcx (c6) ?_)|(refine iN (c6) ?_))
   refine D3 c8 c9 c10 ⟨?_⟩;intros;exact G3
  ·rw [if_neg z1]at c10;unfold iv ivx at c10;rw [e0,e1,e2]at c10;refine Pi Tryz.func274 fun C=>?_
   repeat(first|(refine AS ⟨?_⟩;intros)|(refine O1 ⟨?_⟩;intros))
   refine WdL 11 2 ?_;refine D5 c1 c2 c3 c4 c5 ⟨?_⟩;intros;refine dL2 fun b8 b9=>?_
   refine Gs (sv:=fr k) (cs':=frx k) rfl rfl rfl (by first|exact .here _|exact .there _ (.here _)) rfl rfl ?_ ?_
   ·(repeat(first|exact LOk.nil|refine Lsk ?_|refine Lcv ?_))
   refine Gs (sv:=fr w) (cs':=frx w) rfl rfl rfl (by first|exact .here _|exact .there _ (.here _)) rfl rfl ?_ ?_
   ·(repeat(first|exact LOk.nil|refine Lsk ?_|refine Lcv ?_))
   refine Gn ?_ ?_
   ·(repeat(first|exact LOk.nil|refine Lsk ?_|refine Lcv ?_))
   repeat(first|(refine AS ⟨?_⟩;intros)|(refine O1 ⟨?_⟩;intros)|(refine Wcx (c6) ?_)|(refine iN (c6) ?_))
   refine D3 c8 c9 c10 ⟨?_⟩;intros;exact G3
end Go.Ab
