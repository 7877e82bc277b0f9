/- Texts laid one behind the other: Rng, RngB, Drw, ArrA, Edg, PLn, WdS, PIv, PCut. -/
import Derived.RangeFuncLeaves
import Derived.RangeFuncRecord
import Derived.TacticsIn
import Derived.OrdersIn
import Derived.LoopNIn
import Derived.Test.YtpeidlcjlfkpcaaGreatDoorB22
set_option linter.all false
set_option maxHeartbeats 16000000
namespace Go.Ab
open Go.Proofs
variable [Base]
abbrev fe (ro:Option Nat):Fence:={fn:=fun _=>True,depth:=none,alive:=false,round:=ro}
section
variable {P:Program}{C:Ctx}{n:Nat}{Q:Exit→Fr→LH→Prop}{F:Fr}{H:LH}{ro:Option Nat}
attribute [local semireducible] WP WPL j8 rG
def WPX (ro:Option Nat) (P:Program) (C:Ctx) (n:Nat) (c:Code) (Q:Exit→Fr→LH→Prop) (F:Fr) (H:LH):Prop:=∀a w,St C n F H a w→∀d,c.wpIn (fe ro) d P (oE C n Q) a w
theorem WPX.exit {id:Nat}(h:Q (.exit id) F H):WPX ro P C n (.exit id) Q F H:=fun _ _ hs _=>wpIn_exit (.mk hs h)
end
section
variable {P:Program}{C:Ctx}{n:Nat}{Q:Exit→Fr→LH→Prop}{F:Fr}{H:LH}{Post:Exit→Act→World→Prop}
attribute [local semireducible] WP WPL j8 rG
end
section
variable {P:Program}{ops:Array Oper}{C:Ctx}{n:Nat}{F F':Fr}{H:LH}
attribute [local semireducible] WP WPL j8 rG Dk
end
section
variable {P:Program}{F:Fr}{H:LH}{ty:TypeId}
theorem jl {T e:TypeId}{len k sz by_ by2:Nat}{z z2:List SV}{g g2:Bool} [hE:TY P e k by2 z2 g2] [hT:TY P T sz by_ z g] (hA:P.underlying T=some (.array len e)){l:List (Nat×Operand)}{r:List (Nat×List SV)}{cs:List SV}
  (hp:dO F l r) (hf:lm ((List.range len).map fun i=>(i*k,k)) z r=some cs):OpV P (.build T l.toArray) ty F H (ag cs) :=
 OpV.pure fun m w o a ho _ _ _ h=>by
  obtain⟨v,hz,hall⟩:=hT.run_zero w;have hv:∀p∈l,(ev F p.2).p m (a.eval p.2):=fun p hp'=>h p.2 (by simp only [Op.operands,vA,aj];exact⟨p,hp',rfl⟩)
  obtain⟨arr',hfill,hall'⟩:=sk (m:=m) (ρ:=a.eval) (fun i=>some (i*k,k)) (fun i p h=>by
   simp only [jg,gC]at h;obtain⟨j,hj,rfl⟩:=h;obtain⟨hlt,rfl⟩:=bI.1 hj;simp) hp hv z v.cells cs (hall m) hf
  refine⟨.agg arr',?_,by unfold ag;exact⟨arr',rfl,hall'⟩⟩;simp only [execOp,ho,Instr.build,Sem.run_bind,hz,Result.andThen_ok,underlying,run_program,hA,Sem.run_pure,hE.run_size,iH];rw [hfill];rfl
theorem fN {x ix:Operand}{T e:TypeId}{len k by2:Nat}{z2:List SV}{g2:Bool} [hE:TY P e k by2 z2 g2] (hA:P.underlying T=some (.array len e)){ki:IntKind}{b:Nat}{i:Int}
  (hx:ev F x=lit (.pointer (some ⟨b,0,none⟩))) (hi:ev F ix=lit (.int ki i)) (h0:0≤i) (h1:i<len):OpV P (.indexAddr T x ix) ty F H (lit (.pointer (some ⟨b,i.toNat*k,none⟩))) :=
 OpV.pure fun m w o a hop _ _ _ h=>by
  have e0:=h x (by simp [Op.operands]);rw [hx,ap]at e0;have e1:=h ix (by simp [Op.operands]);rw [hi,ap]at e1;refine⟨.pointer (some ⟨b,i.toNat*k,none⟩),?_,ap.2 rfl⟩;simp [execOp,hop,e0,e1,Instr.indexAt,Instr.sureAddr,asIntOf,underlying,hA,h0,h1,hE.run_size,cE]
end
section
variable {P:Program}{C:Ctx}{n:Nat}{F:Fr}{H:LH}{Post:Exit→Act→World→Prop}
attribute [local semireducible] WP WPL j8 rG Dk
end
abbrev lfl (l:Li):SV:=lf l.a l.b l.c
abbrev ppq (p:Pq):SV:=pp p.1 p.2
theorem Li.le.hts {l:Li}{L:Nat}(h:l.le L) (hL:1≤L):ht (l.a:Rat)≤L∧ht (l.b:Rat)≤L∧ht (l.c:Rat)≤L:=by
 have ha:=iG l.a h.a;have hb:=iG l.b h.b;have hc:=iG l.c h.c;omega
theorem Hx (x y:Rat) (hx:ht x≤1000000) (hy:ht y≤1000000):Pu Tryz.prog 311 [fr x,fr y] (fr (x/y)):=by
 have h1:=yN y;have c1:=Me y om;have c2:=l8 x y⁻¹ om om;rw [←iY]at c2;refine Pi Tryz.func311 fun C=>?_
 exact X2 c1 c2
theorem ME (x:Rat) (hx:ht x≤1000000):Pu Tryz.prog 326 [fr x] (fr (x/2)):=by
 have h2:ht ((1:Rat)/2)≤10:=by have h1:=qC 1 2;have h2:=lU;have h3:ht (2:Rat)≤1:=uU 2 om;clear hx;omega
 have c2:=l8 x (1/2) om om;rw [show x*(1/2)=x/2 by grind]at c2;have e0:r0 ((1:Rat)/2)=1:=by decide +kernel
 have e1:r1 ((1:Rat)/2)=1:=by decide +kernel
 have e2:r2 ((1:Rat)/2)=lit (.pointer none):=if_pos (by decide +kernel);rw [show fr ((1:Rat)/2)=ag [lit (.int .i64 1),lit (.int .i64 1),lit (.pointer none)] by unfold fr;rw [e0,e1,e2]]at c2;clear h2 e0 e1 e2;refine Pi Tryz.func326 fun C=>?_
 exact X1 c2
theorem PL (x y:Rat) (hx:ht x≤1000000) (hy:ht y≤1000000):Pu Tryz.prog 328 [fr x,fr y] (fr (yA x y)):=by
 have c1:=qH y x om om;have e:(0≤(x-y).num.sign)↔¬0<(y-x).num.sign:=by rw [pf,eR];grind
 unfold yA;by_cases h:0<(y-x).num.sign
 ·rw [if_neg (fun k=>e.1 k h)];clear e;generalize(y-x).num.sign=z at *;refine Pi Tryz.func328 fun C=>?_
  exact X1 c1
 ·rw [if_pos (e.2 h)];clear e;generalize(y-x).num.sign=z at *;refine Pi Tryz.func328 fun C=>?_
  exact X1 c1
theorem PK (x y:Rat) (hx:ht x≤1000000) (hy:ht y≤1000000):Pu Tryz.prog 329 [fr x,fr y] (fr (yw x y)):=by
 have c1:=qH y x om om;have e:((x-y).num.sign≤0)↔¬(y-x).num.sign<0:=by rw [←pa,eR,jk];grind
 unfold yw;by_cases h:(y-x).num.sign<0
 ·rw [if_neg (fun k=>e.1 k h)];clear e;generalize(y-x).num.sign=z at *;refine Pi Tryz.func329 fun C=>?_
  exact X1 c1
 ·rw [if_pos (e.2 h)];clear e;generalize(y-x).num.sign=z at *;refine Pi Tryz.func329 fun C=>?_
  exact X1 c1
theorem Pb (l:Li) (h:l.le 1000000):Pu Tryz.prog 262 [lfl l] (lfl l.neg):=by
 have ha:=iG l.a h.a;have hb:=iG l.b h.b;have hc:=iG l.c h.c;have c1:=lZ (l.a:Rat) om;have c2:=lZ (l.b:Rat) om;have c3:=lZ (l.c:Rat) om;rw [←gF]at c1 c2 c3;refine Pi Tryz.func262 fun C=>?_
 refine D3 c1 c2 c3 ⟨?_⟩;intros;exact G1
theorem xe (l:Li) (h:l.le 1000000):Pu Tryz.prog 287 [lfl l] (ppq (cM l)):=by
 have ha:=iG l.a h.a;have c1:=lZ (l.a:Rat) om;refine Pi Tryz.func287 fun C=>?_
 exact X1 c1
theorem Li.bf_htL {l:Li}{L:Nat}(h:l.le L) (hL:1≤L):ht l.bf≤10*L:=by
 obtain⟨ha,hb,hc⟩:=h.hts hL;unfold Li.bf;have h1:=be (l.b:Rat) l.b;have h2:=be (-(l.a:Rat)) (-(l.a:Rat));have h3:=fo ((l.b:Rat)*l.b) (-(l.a:Rat) * -(l.a:Rat));have h4:=yN ((l.b:Rat)*l.b + -(l.a:Rat) * -(l.a:Rat));have h5:=be (l.c:Rat) ((l.b:Rat)*l.b + -(l.a:Rat) * -(l.a:Rat))⁻¹;rw [fI]at h2⊢;rw [iY];omega
theorem sG {l:Li}{L:Nat}(h:l.le L) (hL:1≤L):hp (bX l) (12*L):=by
 obtain⟨ha,hb,hc⟩:=h.hts hL;have:=Li.bf_htL h hL;have:=be l.bf (l.a:Rat);have:=be l.bf (l.b:Rat);unfold bX;constructor <;> simp only <;> omega
theorem Q5 {l:Li}{L:Nat}(h:l.le L) (hL:1≤L){t:Rat}{n:Nat}(k:ht t≤n):hp (atL l t) (n+15*L):=by
 obtain⟨ha,hb,hc⟩:=h.hts hL;have hd:hp (cM l) L:=⟨hb,by show ht (-(l.a:Rat))≤L;rw [fI];exact ha⟩
 obtain⟨h1,h2⟩:=vm (sG h hL) k hd;unfold atL;exact⟨om,om⟩
theorem Cs {l:Li}{L:Nat}(h:l.le L) (hL:1≤L){p:Pq}{n:Nat}(k:hp p n):ht (af l p)≤2*n+7*L:=by
 obtain⟨h1,h2,h3⟩:=h.hts hL;obtain⟨k1,k2⟩:=k;have:=be (l.a:Rat) p.1;have:=be (l.b:Rat) p.2;have:=fo ((l.a:Rat)*p.1) ((l.b:Rat)*p.2);have:=fo ((l.a:Rat)*p.1+(l.b:Rat)*p.2) (l.c:Rat);unfold af;omega
theorem DH {l:Li}{L:Nat}(h:l.le L) (hL:1≤L) (hU:L≤10000):Pu Tryz.prog 309 [lfl l] (ppq (bX l)):=by
 obtain⟨ha,hb,hc⟩:=h.hts hL;have hf:=Li.bf_htL h hL;have h1:=be (l.a:Rat) l.a;have h2:=be (l.b:Rat) l.b;have h3:=fo ((l.a:Rat)*l.a) ((l.b:Rat)*l.b);have hcn:ht (-(l.c:Rat))≤L:=by rw [fI];exact hc
 have e : -(l.c:Rat)/((l.a:Rat)*l.a+l.b*l.b)=l.bf:=by
  unfold Li.bf;rw [show(l.b:Rat)*l.b + -(l.a:Rat) * -(l.a:Rat)=(l.a:Rat)*l.a+l.b*l.b by grind,iY,iY,Rat.neg_mul]
 have c1:=tN (l.a:Rat) l.b l.c;have c2:=lZ (l.c:Rat) om;have c3:=uz (l.a:Rat) l.b l.a l.b om om om om;have c4:=Hx (-(l.c:Rat)) ((l.a:Rat)*l.a+l.b*l.b) om om;rw [e]at c4;have c5:=Ae (l.a:Rat) l.b l.bf om om om;rw [eK (l.a:Rat) l.bf,eK (l.b:Rat) l.bf]at c5;clear h1 h2 h3 hcn ha hb hc hf e;refine Pi Tryz.func309 fun C=>?_
 refine D5 c1 c2 c3 c4 c5 ⟨?_⟩;intros;exact G1
theorem Rt {l:Li}{L:Nat}(h:l.le L) (hL:1≤L) (hU:L≤10000){t:Rat}(k:ht t≤200000):Pu Tryz.prog 304 [lfl l,fr t] (ppq (atL l t)):=by
 obtain⟨ha,hb,hc⟩:=h.hts hL;obtain⟨b1,b2⟩:=sG h hL;have d2:ht (-(l.a:Rat))≤L:=by rw [fI];exact ha
 have m1:=be (l.b:Rat) t;have m2:=be (-(l.a:Rat)) t;have c1:=DH h hL hU;have c2:=xe l (h.gr om);have c3:=Ae (l.b:Rat) (-(l.a:Rat)) t om om om;have c4:=Ob (bX l).1 (bX l).2 ((l.b:Rat)*t) (-(l.a:Rat)*t) om om om om;rw [eK (l.b:Rat) t,eK (-(l.a:Rat)) t]at c3 c4;clear m1 m2 b1 b2 d2 ha hb hc;refine Pi Tryz.func304 fun C=>?_
 refine D4 c1 c2 c3 c4 ⟨?_⟩;intros;exact G1
theorem LV {l:Li}{L:Nat}(h:l.le L) (hL:1≤L) (hU:L≤10000){p:Pq}(k:hp p 100000):Pu Tryz.prog 303 [lfl l,ppq p] (lit (.int .i64 (gR l p))):=by
 obtain⟨ha,hb,hc⟩:=h.hts hL;have hv:=Cs h hL k;have c1:=AB (l.a:Rat) l.b l.c p.1 p.2 om om om k.1 k.2;have c2:=oh (af l p) om;clear ha hb hc hv;refine Pi Tryz.func303 fun C=>?_
 exact Y2 c1 c2
section
variable {P:Program}{C:Ctx}{n:Nat}{F:Fr}{H:LH}{Q:Exit→Fr→LH→Prop}
theorem WdS {id:Nat}{l:List Oper}(ks:List Nat){b:Nat}{T:TypeId}{cs:List SV}(css:List (List SV)){Hc:LH}(hd:aq b T cs H Hc) (hm:P.follows .mixedOrders=true) (hchk:Ay l.toArray ks=true)
  (h:Mk P C n l.toArray ks Hc (fun s=>[(b,T,(cs::css).getD s [])]) 0 0 l (fun Fe=>Q .normal Fe ((b,T,(cs::css).getD ks.length [])::Hc)) F):WP P C n (.region id l.toArray true) Q F H :=
 .perm hd.perm (WdM ks Hc (fun s=>[(b,T,(cs::css).getD s [])]) h rfl hm hchk)
theorem MkS {ops:Array Oper}{rs:List Nat}{Hc:LH}{E:Nat→LH}{i s:Nat}{l:List Oper}{K:Fr→Prop}{T T':TypeId}{sz by_:Nat}{z:List SV}{g:Bool} [hT:TY P T sz by_ z g]{x v:Operand}{b o:Nat}{sv:SV}{cs cs' ds:List SV}{ty:TypeId}{pos:String}{aft:Array Edge}
  (h:Mk P C n ops rs Hc E (i+1) (s+1) l K F) (hE:E s=[(b,T',cs)]:=by exact rfl) (hE':E (s+1)=[(b,T',cs')]:=by exact rfl) (hx:ev F x=lit (.pointer (some ⟨b,o,none⟩)):=by exact rfl)
  (hv:ev F v=sv:=by(first|exact Eq.refl (lit _)|exact Eq.refl (dg _)|exact Eq.refl (ag _)|exact Eq.refl (pt _)|exact Eq.refl (sl _ _)|exact Eq.refl (nsl _ _)|exact Eq.refl (tup _)|exact Eq.refl top|exact rfl)) (hco:CO sv ds:=by infer_instance)
  (hlen:Nat.beq ds.length sz=true:=by exact rfl) (hsp:spl cs o ds=cs':=by exact rfl) (hle:Nat.ble (o+sz) cs.length=true:=by exact rfl)
  (ho:ops[i]? = some ⟨none, .store T x v,ty,pos,aft,none⟩:=by exact rfl) (hr:rs[s]? = some i:=by exact rfl):Mk P C n ops rs Hc E i s (⟨none, .store T x v,ty,pos,aft,none⟩::l) K F :=
 MkR (sv:=top) (by rw [hE,hE'];exact TS.store ho hx hv hlen (br.here _) hsp hle) h hr
end
abbrev ivx (s:Spn):List SV:=[lit (.int .i64 (r0 s.lo)),lit (.int .i64 (r1 s.lo)),r2 s.lo,lit (.int .i64 (r0 s.hi)),lit (.int .i64 (r1 s.hi)),r2 s.hi,lit (.bool s.nl),lit (.bool s.nh)]
abbrev iv (s:Spn):SV:=ag (ivx s)
theorem Ma:Pu Tryz.prog 302 [] (iv Spn.full):=by
 have e0:r0 (0:Rat)=0:=by decide +kernel
 have e1:r1 (0:Rat)=0:=by decide +kernel
 have e2:r2 (0:Rat)=lit (.pointer none):=if_pos (by decide +kernel);unfold iv ivx;rw [e0,e1,e2];refine Pi Tryz.func302 fun C=>?_
 exact Z2
theorem Fx (s:Spn) (h:s.le 1000000):Pu Tryz.prog 330 [iv s] (lit (.bool (j9 s))):=by
 have c1:=qH s.lo s.hi (by have:=h.1;omega) (by have:=h.2;omega);obtain⟨lo,hi,nl,nh⟩:=s;unfold j9;simp only at *;generalize(lo-hi).num.sign=z at *;clear h;cases nl
 ·cases nh
  ·by_cases hz:0≤z
   ·rw [a9 hz];refine Pi Tryz.func330 fun C=>?_
    exact Y1 c1
   ·rw [aa hz];refine Pi Tryz.func330 fun C=>?_
    exact Y1 c1
  ·refine Pi Tryz.func330 fun C=>?_
   exact Y1 c1
 ·refine Pi Tryz.func330 fun C=>?_
  exact Y1 c1
theorem DF {v w:Spn}{n:Nat}(h:v.le n) (k:w.le n):(iD v w).le n:=by
 obtain⟨h1,h2⟩:=h;obtain⟨k1,k2⟩:=k;unfold iD yA yw;constructor
 ·simp only;split
  ·exact k1
  ·split
   ·exact h1
   ·split <;> assumption
 ·simp only;split
  ·exact k2
  ·split
   ·exact h2
   ·split <;> assumption
abbrev z8:List SV:=[lit (.int .i64 0),lit (.int .i64 0),lit (.pointer none),lit (.int .i64 0),lit (.int .i64 0),lit (.pointer none),lit (.bool false),lit (.bool false)]
theorem Jb (v w:Spn) (h:v.le 1000000) (k:w.le 1000000):Pu Tryz.prog 310 [iv v,iv w] (Ab.tup [iv (iD v w),lit (.bool (!j9 (iD v w)))]):=by
 have c1:=PL v.lo w.lo h.1 k.1;have c2:=PK v.hi w.hi h.2 k.2;have c3:=Fx (iD v w) (DF h k);clear h k;generalize j9 (iD v w)=bad at *;obtain⟨lo,hi,nl,nh⟩:=v;obtain⟨lo',hi',nl',nh'⟩:=w;unfold iD at *;simp only at *;generalize yA lo lo'=a at *;generalize yw hi hi'=b at *;refine Pi Tryz.func310 fun C=>?_
 repeat(first|(refine AS ⟨?_⟩;intros)|(refine O1 ⟨?_⟩;intros))
 rename_i b2 b3 b4 b6
 refine WP.viaB (fun F H=>LeF F (fm [(2,lit (.pointer (some ⟨b2,0,none⟩))),(3,lit (.pointer (some ⟨b3,0,none⟩))),(4,lit (.pointer (some ⟨b4,0,none⟩))),(6,lit (.pointer (some ⟨b6,0,none⟩)))])∧
  H=[(b6,409,ivx ⟨if nl then lo' else if nl' then lo else a,hi,nl&&nl',nh⟩),(b4,409,z8),(b3,409,ivx ⟨lo',hi',nl',nh'⟩),(b2,409,ivx ⟨lo,hi,nl,nh⟩)]) ?_ ?_
 ·clear c2 c3;cases nl
  ·cases nl'
   ·repeat(first|(refine AS ⟨?_⟩;intros)|(refine O1 ⟨?_⟩;intros)|(refine Wcx (c1) ?_)|(refine iE (c1) ?_))
    exact⟨lfA,rfl⟩
   ·repeat(first|(refine AS ⟨?_⟩;intros)|(refine O1 ⟨?_⟩;intros)|(refine Wcx (c1) ?_)|(refine iE (c1) ?_))
    exact⟨lfA,rfl⟩
  ·repeat(first|(refine AS ⟨?_⟩;intros)|(refine O1 ⟨?_⟩;intros))
   apply WdS [5,7] [ivx ⟨lo',hi,true,nh⟩,ivx ⟨lo',hi,nl',nh⟩] (aq.here _) kr (by decide +kernel);refine MkD 5 ?_;(repeat(first|(refine A1 ⟨?_⟩;intros)));refine zL ?_;refine MkS ?_;refine MkD 1 ?_;(repeat(first|(refine A1 ⟨?_⟩;intros)));refine zL ?_;refine MkS ?_;refine MkN ?_;(repeat(refine A1 ⟨?_⟩;intros));refine A2 ⟨?_⟩;intros;exact⟨lfA,rfl⟩
 ·rintro F H ⟨hF,rfl⟩;refine WP.le hF ?_;clear c1;generalize hu:(if nl=true then lo' else if nl'=true then lo else a)=u at *;generalize hn:(nl&&nl')=n at *;repeat(first|(refine AS ⟨?_⟩;intros)|(refine O1 ⟨?_⟩;intros))
  refine WP.viaB (fun F H=>LeF F (fm [(4,lit (.pointer (some ⟨b4,0,none⟩))),(6,lit (.pointer (some ⟨b6,0,none⟩)))])∧
   H=[(b6,409,ivx ⟨u,if nh then hi' else if nh' then hi else b,n,nh&&nh'⟩),(b4,409,z8),(b3,409,ivx ⟨lo',hi',nl',nh'⟩),(b2,409,ivx ⟨lo,hi,nl,nh⟩)]) ?_ ?_
  ·clear c3;cases nh
   ·cases nh'
    ·repeat(first|(refine AS ⟨?_⟩;intros)|(refine O1 ⟨?_⟩;intros)|(refine Wcx (c2) ?_)|(refine iE (c2) ?_))
     exact⟨lfA,rfl⟩
    ·repeat(first|(refine AS ⟨?_⟩;intros)|(refine O1 ⟨?_⟩;intros)|(refine Wcx (c2) ?_)|(refine iE (c2) ?_))
     exact⟨lfA,rfl⟩
   ·repeat(first|(refine AS ⟨?_⟩;intros)|(refine O1 ⟨?_⟩;intros))
    apply WdS [5,7] [ivx ⟨u,hi',n,true⟩,ivx ⟨u,hi',n,nh'⟩] (aq.here _) kr (by decide +kernel);refine MkD 5 ?_;(repeat(first|(refine A1 ⟨?_⟩;intros)));refine zL ?_;refine MkS ?_;refine MkD 1 ?_;(repeat(first|(refine A1 ⟨?_⟩;intros)));refine zL ?_;refine MkS ?_;refine MkN ?_;(repeat(refine A1 ⟨?_⟩;intros));refine A2 ⟨?_⟩;intros;exact⟨lfA,rfl⟩
  ·rintro F H ⟨hF,rfl⟩;refine WP.le hF ?_;repeat(first|(refine AS ⟨?_⟩;intros)|(refine O1 ⟨?_⟩;intros))
   apply WdS [4] [ivx ⟨u,if nh then hi' else if nh' then hi else b,n,nh&&nh'⟩] (aq.there _ (aq.here _)) kr (by decide +kernel);refine MkD 4 ?_;(repeat(first|(refine A1 ⟨?_⟩;intros)|refine W4 c3 ⟨?_⟩));refine zL ?_;refine MkS ?_;refine MkD 1 ?_;(repeat(first|(refine A1 ⟨?_⟩;intros)|refine W4 c3 ⟨?_⟩));refine zL ?_;refine MkN ?_;(repeat(refine A1 ⟨?_⟩;intros));exact G3
theorem DO (s:Spn) (h:s.le 100000):Pu Tryz.prog 305 [iv s] (fr (dp s)):=by
 obtain⟨h1,h2⟩:=h;have h1':=lU;have m1:=fo s.lo s.hi;have c0:=C6 1 om om;have c1:=um s.hi 1 om om;have c2:=qp s.lo 1 om om;have c3:=qp s.lo s.hi om om;have c4:=ME (s.lo+s.hi) om;have e0:r0 (0:Rat)=0:=by decide +kernel
 have e1:r1 (0:Rat)=0:=by decide +kernel
 have e2:r2 (0:Rat)=lit (.pointer none):=if_pos (by decide +kernel);obtain⟨lo,hi,nl,nh⟩:=s;unfold dp mQ;simp only at *;clear h1 h2 h1' m1;cases nl
 ·cases nh
  ·simp only [jE,bE,aO];refine Pi Tryz.func305 fun C=>?_
   refine D3 c0 c3 c4 ⟨?_⟩;intros;exact G1
  ·simp only [bo,bE,aO,aV];refine Pi Tryz.func305 fun C=>?_
   exact X2 c0 c2
 ·cases nh
  ·simp only [aS,bE,aO,aV];refine Pi Tryz.func305 fun C=>?_
   exact X2 c0 c1
  ·simp only [jE,aV];unfold fr;rw [e0,e1,e2];refine Pi Tryz.func305 fun C=>?_
   exact Z2
abbrev frx (x:Rat):List SV:=[lit (.int .i64 (r0 x)),lit (.int .i64 (r1 x)),r2 x]
def qW (l:Li) (v:Spn) (m:Li):Spn×Bool :=
 if(slp l m).num.sign=0 then(v,decide (0<(af m (bX l)).num.sign))
 else(iD v (hlf (slp l m) (-(af m (bX l)/slp l m))),!j9 (iD v (hlf (slp l m) (-(af m (bX l)/slp l m)))))
theorem FU (l:Li) (v:Spn) (m:Li):jp l v m=if(qW l v m).2 then some (qW l v m).1 else none:=by
 unfold jp qW;by_cases h:(slp l m).num.sign=0
 ·rw [if_pos h,if_pos h];by_cases k:0<(af m (bX l)).num.sign
  ·rw [if_pos k,a9 k];rfl
  ·rw [if_neg k,aa k];rfl
 ·rw [if_neg h,if_neg h];cases j9 (iD v (hlf (slp l m) (-(af m (bX l)/slp l m)))) <;> rfl
theorem uT:ht (0:Rat)≤1:=by have:=kv;omega
theorem HR {l m:Li}{L:Nat}(hl:l.le L) (hm:m.le L) (h1:1≤L):ht (slp l m)≤7*L∧ht (af m (bX l))≤31*L∧ht (-(af m (bX l)/slp l m))≤40*L:=by
 obtain⟨a1,a2,a3⟩:=hl.hts h1;obtain⟨b1,b2,b3⟩:=hm.hts h1;have k1:=be (m.a:Rat) l.b;have k2:=be (m.b:Rat) l.a;have k3:=gh ((m.a:Rat)*l.b) (m.b*l.a);have k4:=Cs hm h1 (sG hl h1);have k5:=qC (af m (bX l)) (slp l m);have k6:ht (slp l m)≤7*L:=by unfold slp;omega
 rw [fI];exact⟨k6,om,om⟩
theorem Mn {k u:Rat}{n:Nat}(h:ht u≤n) (h1:1≤n):(hlf k u).le n:=by
 have:=uT;unfold hlf;split
 ·exact⟨h,by simp only;omega⟩
 ·exact⟨by simp only;omega,h⟩
theorem Cc {l m:Li}{v:Spn}{L:Nat}(hl:l.le L) (hm:m.le L) (h1:1≤L) (hv:v.le (50*L)):(qW l v m).1.le (50*L):=by
 obtain⟨_,_,k⟩:=HR hl hm h1;unfold qW;split
 ·exact hv
 ·exact DF hv (Mn om om)
theorem Hl {l m:Li}{v:Spn}{L:Nat}(hl:l.le L) (hm:m.le L) (h1:1≤L) (hU:L≤1000) (hv:v.le (50*L)):Pu Tryz.prog 283 [lfl l,iv v,lfl m] (Ab.tup [iv (qW l v m).1,lit (.bool (qW l v m).2)]):=by
 obtain⟨a1,a2,a3⟩:=hl.hts h1;obtain⟨b1,b2,b3⟩:=hm.hts h1;obtain⟨k1,k2,k3⟩:=HR hl hm h1;obtain⟨d1,d2⟩:=sG hl h1;have hz:=uT;have na:ht (-(l.a:Rat))≤L:=by rw [fI];exact a1
 have c1:=tN (m.a:Rat) m.b m.c;have c2:=xe l (hl.gr om);have c3:=uz (m.a:Rat) m.b l.b (-(l.a:Rat)) om om om om;rw [show(m.a:Rat)*l.b+m.b * -(l.a:Rat)=slp l m by unfold slp;grind]at c3;have c4:=DH hl h1 om;have c5:=AB (m.a:Rat) m.b m.c (bX l).1 (bX l).2 om om om om om;rw [show(m.a:Rat)*(bX l).1+m.b*(bX l).2+m.c=af m (bX l)from rfl]at c5;have c6:=oh (slp l m) om;have c7:=oh (af m (bX l)) om;have c8:=Hx (af m (bX l)) (slp l m) om om;have c9:=lZ (af m (bX l)/slp l m) (by rw [←fI];omega);have hw:=Mn (k:=slp l m) (u := -(af m (bX l)/slp l m)) (n:=1000000) om om;have c10:=Jb v (hlf (slp l m) (-(af m (bX l)/slp l m))) ⟨by have:=hv.1;omega,by have:=hv.2;omega⟩ hw;have e0:r0 (0:Rat)=0:=by decide +kernel
 have e1:r1 (0:Rat)=0:=by decide +kernel
 have e2:r2 (0:Rat)=lit (.pointer none):=if_pos (by decide +kernel);unfold qW;clear a1 a2 a3 b1 b2 b3 k1 k2 k3 d1 d2 hz na hl hm hv hw;generalize hbad:j9 (iD v (hlf (slp l m) (-(af m (bX l)/slp l m))))=bad at *;clear hbad;generalize hmt:iD v (hlf (slp l m) (-(af m (bX l)/slp l m)))=mt at *;clear hmt;unfold hlf at c10;generalize -(af m (bX l)/slp l m)=u at *;generalize af m (bX l)/slp l m=u' at *;generalize af m (bX l)=w at *;generalize slp l m=k at *;generalize k.num.sign=z at *;generalize w.num.sign=y at *;by_cases z0:z=0
 ·rw [if_pos z0];clear c8 c9 c10;refine Pi Tryz.func283 fun C=>?_
  repeat(first|(refine AS ⟨?_⟩;intros)|(refine O1 ⟨?_⟩;intros))
  refine WdL 11 2 ?_;refine D5 c1 c2 c3 c4 c5 ⟨?_⟩;intros;refine dL2 fun b8 b9=>?_
  refine Gs (sv:=fr k) (cs':=frx k) rfl rfl rfl (by first|exact .here _|exact .there _ (.here _)) rfl rfl ?_ ?_
  ·(repeat(first|exact LOk.nil|refine Lsk ?_|refine Lcv ?_))
  refine Gs (sv:=fr w) (cs':=frx w) rfl rfl rfl (by first|exact .here _|exact .there _ (.here _)) rfl rfl ?_ ?_
  ·(repeat(first|exact LOk.nil|refine Lsk ?_|refine Lcv ?_))
  refine Gn ?_ ?_
  ·(repeat(first|exact LOk.nil|refine Lsk ?_|refine Lcv ?_))
  repeat(first|(refine AS ⟨?_⟩;intros)|(refine O1 ⟨?_⟩;intros)|(refine Wcx (c6) ?_)|(refine iE (c6) ?_))
  apply WdS [4] [ivx v] (aq.there _ (aq.there _ (aq.here _))) kr (by decide +kernel);refine MkD 4 ?_;(repeat(first|(refine A1 ⟨?_⟩;intros)|refine W4 c7 ⟨?_⟩));refine zL ?_;refine MkS ?_;refine MkD 1 ?_;(repeat(first|(refine A1 ⟨?_⟩;intros)|refine W4 c7 ⟨?_⟩));refine zL ?_;refine MkN ?_;(repeat(refine A1 ⟨?_⟩;intros));exact G3
 ·rw [if_neg z0];by_cases z1:z=1
  ·rw [if_pos z1]at c10;unfold iv ivx at c10;rw [e0,e1,e2]at c10;refine Pi Tryz.func283 fun C=>?_
   repeat(first|(refine AS ⟨?_⟩;intros)|(refine O1 ⟨?_⟩;intros))
   refine WdL 11 2 ?_;refine D5 c1 c2 c3 c4 c5 ⟨?_⟩;intros;refine dL2 fun b8 b9=>?_
   refine Gs (sv:=fr k) (cs':=frx k) rfl rfl rfl (by first|exact .here _|exact .there _ (.here _)) rfl rfl ?_ ?_
   ·(repeat(first|exact LOk.nil|refine Lsk ?_|refine Lcv ?_))
   refine Gs (sv:=fr w) (cs':=frx w) rfl rfl rfl (by first|exact .here _|exact .there _ (.here _)) rfl rfl ?_ ?_
   ·(repeat(first|exact LOk.nil|refine Lsk ?_|refine Lcv ?_))
   refine Gn ?_ ?_
   ·(repeat(first|exact LOk.nil|refine Lsk ?_|refine Lcv ?_))
   repeat(first|(refine AS ⟨?_⟩;intros)|(refine O1 ⟨?_⟩;intros)|(refine Wcx (c6) ?_)|(refine iE (c6) ?_))
   refine D3 c8 c9 c10 ⟨?_⟩;intros;exact G3
  ·rw [if_neg z1]at c10;unfold iv ivx at c10;rw [e0,e1,e2]at c10;refine Pi Tryz.func283 fun C=>?_
   repeat(first|(refine AS ⟨?_⟩;intros)|(refine O1 ⟨?_⟩;intros))
   refine WdL 11 2 ?_;refine D5 c1 c2 c3 c4 c5 ⟨?_⟩;intros;refine dL2 fun b8 b9=>?_
   refine Gs (sv:=fr k) (cs':=frx k) rfl rfl rfl (by first|exact .here _|exact .there _ (.here _)) rfl rfl ?_ ?_
   ·(repeat(first|exact LOk.nil|refine Lsk ?_|refine Lcv ?_))
   refine Gs (sv:=fr w) (cs':=frx w) rfl rfl rfl (by first|exact .here _|exact .there _ (.here _)) rfl rfl ?_ ?_
   ·(repeat(first|exact LOk.nil|refine Lsk ?_|refine Lcv ?_))
   refine Gn ?_ ?_
   ·(repeat(first|exact LOk.nil|refine Lsk ?_|refine Lcv ?_))
   repeat(first|(refine AS ⟨?_⟩;intros)|(refine O1 ⟨?_⟩;intros)|(refine Wcx (c6) ?_)|(refine iE (c6) ?_))
   refine D3 c8 c9 c10 ⟨?_⟩;intros;exact G3
end Go.Ab
