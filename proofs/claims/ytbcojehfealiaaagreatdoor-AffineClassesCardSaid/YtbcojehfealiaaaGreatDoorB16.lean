/- Texts laid one behind the other: Tape, AffC, LnC, Rng, RngB, Drw. -/
import Derived.Test.YtbcojehfealiaaaGreatDoorB15
import Derived.RangeFuncLeaves
import Derived.RangeFuncRecord
import Derived.TacticsIn
import Derived.OrdersIn
set_option linter.all false
set_option maxHeartbeats 16000000
namespace Go.Ab
open Go.Proofs
variable [Base]
abbrev mn (zs:List Int):List SV:=[nsl .i64 zs,ex fun k:{k:Nat // k≤zs.length}=>lit (.int .i64 (k.1:Int))]
section
variable {P:Program}{F:Fr}{H:LH}
variable {C:Ctx}{n:Nat}{ops:Array Oper}{K:Fr→LH→Prop}{rest:List Oper}{ty:TypeId}{pos:String}{aft:Array Edge}
theorem Wtx {d:Nat}{f:FuncId}{l:List Operand}{tys:Array TypeId}{T:TypeId}{b:Nat}{args:Nat→List SV}{cs:List SV}{α:Type}{res:α→SV}(hc:PuM P f T args cs (fun _:Unit=>cs) (fun _=>ex res)) (hm:(b,T,cs)∈H) (k:∀x,WPL P C n ops rest K (upd F d (res x)) H)
  (ha:l.map (ev F)=args b:=by exact rfl) (hd:Nat.blt d n=true:=by exact rfl):WPL P C n ops (⟨some d, .call ⟨.value (.func f),l.toArray,tys⟩,ty,pos,aft,none⟩::rest) K F H :=
 WPL.val (qH hc ha hm) hd (WPL.exd (d:=d) aA fun x=>by
  have e:upd (upd F d (ex res)) d (res x)=upd F d (res x):=by
   funext t
   by_cases h:t=d
   ·subst h;rw [aA,aA]
   ·rw [au h,au h,au h]
  rw [e];exact k x)
theorem r9 {rs:Array ResultVar}{T:TypeId}{cs:List SV}(b:Nat) (cs0:List SV) (h:jP P rs.toList (lit (.pointer (some ⟨b,0,none⟩))) F H) (hm:(b,T,cs0)∈H) (hl:LeL cs0 cs):Hi P rs T cs .ret F H:=⟨b,cs0,h,hm,hl⟩
theorem bN {rs:Array ResultVar}{α:Type}{b:Nat}{T:TypeId}{cs':α→List SV}{res:α→SV}(x:α) (cs:List SV) (h:jP P rs.toList (res x) F H) (hm:(b,T,cs)∈H) (hl:LeL cs (cs' x)):IT P rs b T cs' res .ret F H:=⟨x,h,cs,hm,hl⟩
theorem ak.exI {α:Type}{m:Mem}{f:α→SV}:∀{cs:List SV}{vs:List Value}(i:Nat),ak m cs vs→cs[i]? = some (ex f)→∃x,ak m (cs.set i (f x)) vs
 | [],_,i,_,h=>by simp at h
 |_::_,[],_,h,_=>h.elim
 |s::cs,v::vs,0,h,hi=>by
  simp only [List.getElem?_cons_zero,Option.some.injEq]at hi;subst hi;have h1:=h.1.1;unfold ex at h1;obtain⟨x,hx⟩:=h1;exact⟨x,⟨hx,h.1.2⟩,h.2⟩
 |s::cs,v::vs,i+1,h,hi=>by
  obtain⟨x,hx⟩:=ak.exI i h.2 (by simpa using hi);exact⟨x,h.1,hx⟩
theorem WP.exH {C:Ctx}{n:Nat}{Q:Exit→Fr→LH→Prop}{α:Type}{f:α→SV}{c:Code}{b:Nat}{T:TypeId}{cs:List SV}{H':α→LH}(i:Nat) (hi:cs[i]? = some (ex f)) (hu:∀x,aq b T cs (cs.set i (f x)) H (H' x)) (x0:α)
  (k:∀x,WP P C n c Q F (H' x)):WP P C n c Q F H:=by
 unfold WP at *;rintro a w ⟨hdef,hn,m,h1,h2,h3,h4,h5⟩;obtain⟨g1,arr,g2,g3⟩:=h2.2 _ (hu x0).mem;obtain⟨x,hx⟩:=g3.exI i hi;refine k x a w ⟨hdef,hn,m,h1,⟨(hu x).keys▸h2.1,fun e he=>?_⟩,h3,fun e he=>?_,h5⟩
 ·rcases(hu x).mem' h2.1 e he with rfl|⟨he',_⟩
  ·exact⟨g1,arr,g2,hx⟩
  ·exact h2.2 e he'
 ·have:e.1∈(H' x).map (·.1):=List.mem_map.2 ⟨e,he,rfl⟩;rw [(hu x).keys]at this;obtain⟨e',he',hk'⟩:=List.mem_map.1 this;exact hk'▸h4 e' he'
end
theorem I4 (zs:List Int) (hz:zs.length≤9223372036854775807):PuN Tryz.prog 5 75 [nsl .i64 zs] (mn (zs.take (min zs.length 400))):=by
 obtain⟨k,hk⟩:∃k,k=min zs.length 400:=⟨_,rfl⟩
 rw [←hk];by_cases h:zs.length≤400
 ·have hk:k=zs.length:=by omega
  subst hk;refine PuN.intro Tryz.func5 rfl kr fun C=>?_
  repeat(refine A1 ⟨?_⟩;intros)
  refine Wo (o9 (i:=0) (j:=zs.length) rfl (fun _ h=>by cases h) (fun _=>rfl) (fun y h=>⟨_,_,by cases h;exact rfl,rfl⟩) (fun h=>by cases h) om om rfl) ?_;repeat(refine A1 ⟨?_⟩;intros)
  exact r9 _ _ (ax (RV.tmp rfl) Lr) List.mem_cons_self ⟨Le.refl _,Le.ex ⟨0,by simp⟩ Lr,trivial⟩
 ·have hk:k=400:=by omega
  subst hk;refine PuN.intro Tryz.func5 rfl kr fun C=>?_
  repeat(refine A1 ⟨?_⟩;intros)
  refine Wo (o9 (i:=0) (j:=400) rfl (fun _ h=>by cases h) (fun _=>rfl) (fun y h=>⟨_,_,by cases h;exact rfl,rfl⟩) (fun h=>by cases h) om om rfl) ?_;repeat(refine A1 ⟨?_⟩;intros)
  exact r9 _ _ (ax (RV.tmp rfl) Lr) List.mem_cons_self ⟨Le.refl _,Le.ex ⟨0,by simp⟩ Lr,trivial⟩
abbrev PuT (f:FuncId) (zs:List Int) (args:List SV) (res:SV):Prop:=PuM Tryz.prog f 75 (fun b=>lit (.pointer (some ⟨b,0,none⟩))::args) (mn zs) (fun _:Unit=>mn zs) (fun _=>res)
abbrev Ed (n:Nat):SV:=ex fun k:{k:Nat // k<n}=>lit (.int .i64 (k.1:Int))
theorem bR (zs:List Int) (hz:zs.length≤400) (n:Nat) (hn:0<n) (hn':n≤1000000000):PuT 28 zs [lit (.int .i64 n)] (Ed n):=by
 refine PuM.intro Tryz.func28 rfl kr fun C b=>?_
 refine WP.exH 1 rfl (fun x=>aq.here _) ⟨0,om⟩ fun x=>?_
 obtain⟨k,hk⟩:=x;simp only [mn,List.set_cons_succ,List.set_cons_zero];by_cases hkl:k<zs.length
 ·have m1:=Int.tmod_lt_of_pos (zs.getD k 0) (show(0:Int)<n by omega);have m2:=Int.lt_tmod_of_pos (zs.getD k 0) (show(0:Int)<n by omega);repeat(refine A1 ⟨?_⟩;intros)
  generalize(zs.getD k 0).tmod (n:Int)=r at *;refine WPd (fun h=>?_) (fun h=>?_)
  ·repeat(refine A1 ⟨?_⟩;intros)
   exact bN () _ (ax (RV.tmp rfl) (Le.ex ⟨(r+n).toNat,om⟩ (Le.int (by simp only;omega)))) List.mem_cons_self ⟨Le.refl _,Le.ex ⟨k+1,om⟩ Lr,trivial⟩
  ·repeat(refine A1 ⟨?_⟩;intros)
   exact bN () _ (ax (RV.tmp rfl) (Le.ex ⟨r.toNat,om⟩ (Le.int (by simp only;omega)))) List.mem_cons_self ⟨Le.refl _,Le.ex ⟨k+1,om⟩ Lr,trivial⟩
 ·repeat(refine A1 ⟨?_⟩;intros)
  exact bN () _ (ax (RV.tmp rfl) (Le.ex ⟨0,hn⟩ Lr)) List.mem_cons_self ⟨Le.refl _,Le.ex ⟨k,hk⟩ Lr,trivial⟩
abbrev smallR:SV:=ex fun x:{x:Rat // ht x≤1}=>rq x.1
theorem Dy (z:Int) (d:Nat) (hz:z.natAbs<4294967296) (hd:d<4294967296):ht (mkRat z d)≤1:=by
 have h:=sY z d;have h1:il z≤1:=bi (k:=1) (by simpa using hz);have h2:=bi (n:=d) (k:=1) (by simpa using hd);omega
theorem uG (z:Int) (h:z.natAbs<4294967296):ht (z:Rat)≤1:=by
 unfold ht;rw [Rat.num_intCast,Rat.den_intCast,jB];have:il z≤1:=bi (k:=1) (by simpa using h);simp;omega
theorem kY (zs:List Int) (hz:zs.length≤400):PuT 27 zs [] smallR:=by
 refine PuM.intro Tryz.func27 rfl kr fun C b=>?_
 repeat(refine A1 ⟨?_⟩;intros)
 refine Wtx (bR zs hz 9 om om) (Mc Ms) fun k=>?_
 obtain⟨k,hk⟩:=k;simp only [];repeat(refine A1 ⟨?_⟩;intros)
 refine Wtx (bR zs hz 6 om om) (Mc Ms) fun j=>?_
 obtain⟨j,hj⟩:=j;simp only [];have fin:∀(x:Rat),ht x≤1→Le (ag [lit (.bool (decide (x.num<0))),nat x.num.natAbs,dg (gb x.den)]) smallR:=fun x hx=>Le.ex ⟨x,hx⟩ Lr
 by_cases hj0:j=0
 ·have hp:=vF (2*((k:Int)-4)+1) 2 om om om om;repeat(first|(refine A1 ⟨?_⟩;intros)|refine W4 hp ⟨?_⟩)
  exact bN () _ (ax (RV.cellA rfl List.mem_cons_self rfl rfl) (fin _ (Dy _ _ om om))) (Mc Ms) (LeL.refl _)
 ·by_cases hj1:j=1
  ·have hp:=vF (3*((k:Int)-4)+1) 3 om om om om;repeat(first|(refine A1 ⟨?_⟩;intros)|refine W4 hp ⟨?_⟩)
   exact bN () _ (ax (RV.cellA rfl List.mem_cons_self rfl rfl) (fin _ (Dy _ _ om om))) (Mc Ms) (LeL.refl _)
  ·have hp:=nX ((k:Int)-4) om om;repeat(first|(refine A1 ⟨?_⟩;intros)|refine W4 hp ⟨?_⟩)
   exact bN () _ (ax (RV.cellA rfl List.mem_cons_self rfl rfl) (fin _ (uG _ om))) (Mc Ms) (LeL.refl _)
theorem kW:Le (lit (.slice none 0 0)) (nat (0:Rat).num.natAbs):=by
 rw [show(0:Rat).num.natAbs=0 from rfl,show nat 0=dg []from by show dg (dgs 0)=_;rw [aN]];exact dX
theorem kX:Le (lit (.slice none 0 0)) (dg (gb (0:Rat).den)):=by
 rw [show(0:Rat).den=1 from rfl,j7];exact dX
abbrev smallP:SV:=ex fun p:{p:Rat×Rat // ht p.1≤1∧ht p.2≤1}=>rp p.1.1 p.1.2
abbrev smallM:SV:=ex fun m:{m:M6 Rat // m.le 1}=>rm m.1
theorem nP (zs:List Int) (hz:zs.length≤400):PuT 66 zs [] smallP:=by
 refine PuM.intro Tryz.func66 rfl kr fun C b=>?_
 repeat(refine A1 ⟨?_⟩;intros)
 refine Wtx (kY zs hz) (Mc Ms) fun x=>?_
 repeat(refine A1 ⟨?_⟩;intros)
 refine Wtx (kY zs hz) (Mc Ms) fun y=>?_
 repeat(refine A1 ⟨?_⟩;intros)
 exact bN () _ (ax (RV.cellA rfl List.mem_cons_self rfl rfl) (Le.ex ⟨(x.1,y.1),x.2,y.2⟩ Lr)) (Mc Ms) (LeL.refl _)
theorem EC (zs:List Int) (hz:zs.length≤400):PuT 6 zs [] smallM:=by
 have h0:ht 0≤1:=by rw [show(0:Rat)=((0:Int):Rat)from rfl];exact uG 0 om
 have h1:ht 1≤1:=by rw [fv];omega
 refine PuM.intro Tryz.func6 rfl kr fun C b=>?_
 repeat(first|(refine A1 ⟨?_⟩;intros)|refine W4 jT ⟨?_⟩)
 refine Wtx (kY zs hz) (Mc Ms) fun c=>?_
 repeat(refine A1 ⟨?_⟩;intros)
 refine Wtx (kY zs hz) (Mc Ms) fun f=>?_
 repeat(refine A1 ⟨?_⟩;intros)
 refine Wtx (bR zs hz 4 om om) (Mc (Mc Ms)) fun j=>?_
 obtain⟨j,hj⟩:=j;simp only [];by_cases hj0:j=0
 ·repeat(refine A1 ⟨?_⟩;intros)
  refine Wtx (kY zs hz) (Mc (Mc Ms)) fun xa=>?_
  repeat(refine A1 ⟨?_⟩;intros)
  refine Wtx (kY zs hz) (Mc (Mc Ms)) fun xb=>?_
  repeat(refine A1 ⟨?_⟩;intros)
  refine Wtx (kY zs hz) (Mc (Mc Ms)) fun xd=>?_
  repeat(refine A1 ⟨?_⟩;intros)
  refine Wtx (kY zs hz) (Mc (Mc Ms)) fun xe=>?_
  repeat(refine A1 ⟨?_⟩;intros)
  exact bN () _ (ax (RV.cellA rfl (Mc Ms) rfl rfl) (Le.ex ⟨⟨xa.1,xb.1,c.1,xd.1,xe.1,f.1⟩,⟨xa.2,xb.2,c.2,xd.2,xe.2,f.2⟩⟩ (Le.ag (by repeat(first|exact trivial|refine⟨?_,?_⟩|exact Le.refl _|exact kW|exact kX))))) (Mc (Mc Ms)) (LeL.refl _)
 ·by_cases hj1:j=1
  ·repeat(first|(refine A1 ⟨?_⟩;intros)|refine W4 jT ⟨?_⟩)
   exact bN () _ (ax (RV.cellA rfl (Mc Ms) rfl rfl) (Le.ex ⟨⟨0,1,c.1,1,0,f.1⟩,⟨h0,h1,c.2,h1,h0,f.2⟩⟩ (Le.ag (by repeat(first|exact trivial|refine⟨?_,?_⟩|exact Le.refl _|exact kW|exact kX))))) (Mc (Mc Ms)) (LeL.refl _)
  ·by_cases hj2:j=2
   ·repeat(refine A1 ⟨?_⟩;intros)
    refine Wtx (kY zs hz) (Mc (Mc Ms)) fun xb=>?_
    repeat(refine A1 ⟨?_⟩;intros)
    exact bN () _ (ax (RV.cellA rfl (Mc Ms) rfl rfl) (Le.ex ⟨⟨1,xb.1,c.1,0,1,f.1⟩,⟨h1,xb.2,c.2,h0,h1,f.2⟩⟩ (Le.ag (by repeat(first|exact trivial|refine⟨?_,?_⟩|exact Le.refl _|exact kW|exact kX))))) (Mc (Mc Ms)) (LeL.refl _)
   ·repeat(refine A1 ⟨?_⟩;intros)
    exact bN () _ (ax (RV.cellA rfl (Mc Ms) rfl rfl) (Le.ex ⟨⟨1,0,c.1,0,1,f.1⟩,⟨h1,h0,c.2,h0,h1,f.2⟩⟩ (Le.ag (by repeat(first|exact trivial|refine⟨?_,?_⟩|exact Le.refl _|exact kW|exact kX))))) (Mc (Mc Ms)) (LeL.refl _)
theorem AC {m:M6 Rat}{L:Nat}(h:m.le L) (hL:L≤100000) (h0:m.det≠0):Pu Tryz.prog 39 [mq m] (Ab.tup [mf m,lit .nilIface]):=by
 have hd:=pQ h om;have ho:=J1 (m:=m) ⟨Nat.le_trans h.a om,Nat.le_trans h.b om,Nat.le_trans h.c om,Nat.le_trans h.d om,Nat.le_trans h.e om,Nat.le_trans h.f om⟩;have hz:=lS m.det;rw [show m.a*m.e-m.d*m.b=m.det from rfl]at hd;rw [decide_eq_false (fun e=>h0 (Rat.num_eq_zero.1 e))]at hz;refine Pi Tryz.func39 fun C=>?_
 repeat(first|(refine A1 ⟨?_⟩;intros)|refine W4 ho ⟨?_⟩|refine W4 hd ⟨?_⟩|refine W4 hz ⟨?_⟩)
 exact G3
abbrev mz:SV:=ag [lit (.bool false),lit (.slice none 0 0),lit (.slice none 0 0),lit (.bool false),lit (.slice none 0 0),lit (.slice none 0 0),lit (.bool false),lit (.slice none 0 0),lit (.slice none 0 0),lit (.bool false),lit (.slice none 0 0),lit (.slice none 0 0),lit (.bool false),lit (.slice none 0 0),lit (.slice none 0 0),lit (.bool false),lit (.slice none 0 0),lit (.slice none 0 0)]
theorem Hb {a b c:Rat}{L:Nat}(ha:ht a≤L) (hb:ht b≤L) (hc:ht c≤L):ht (bP a b)≤2*L+1∧ht (g3 a b c)≤3*L+2∧ht (g3 a b c)⁻¹≤3*L+3:=by
 have h1:=np a b;have h2:=np (bP a b) c;have h3:=ly (g3 a b c);have e:g3 a b c=bP (bP a b) c:=rfl;rw [←e]at h2;omega
set_option maxRecDepth 20000 in
theorem Ga (a b c:Rat){L:Nat}(hL:L≤100000) (ha:ht a≤L) (hb:ht b≤L) (hc:ht c≤L) (h:a≠0∨b≠0):Pu Tryz.prog 148 [fr a,fr b,fr c] (Ab.tup [lf (dD a b c).a (dD a b c).b (dD a b c).c,lit (.bool true)]):=by
 obtain⟨h1,h2,h3⟩:=Hb ha hb hc;have c1:=lS a;have c2:=lS b;have c3:=k9 a b om om;have c4:=k9 (bP a b) c om om;have c5:Pu Tryz.prog 54 [fr (bP (bP a b) c)] (fr (g3 a b c)⁻¹):=ya (g3 a b c) om;obtain⟨e1,e2,e3⟩:=mM (c:=c) h;have c6:=fun b0=>Av b0 (g3 a b c)⁻¹ a b c om om om om
 rw [e1,e2,e3]at c6;generalize(g3 a b c)⁻¹=q at *;generalize bP a b=r1 at *;generalize bP r1 c=r2 at *;clear e1 e2 e3;by_cases h0:a.num=0
 ·have h9:b.num≠0:=fun e=>by
   rcases h with h|h
   ·exact h (Rat.num_eq_zero.1 h0)
   ·exact h (Rat.num_eq_zero.1 e)
  rw [decide_eq_true h0]at c1;rw [decide_eq_false h9]at c2;clear h0 h9 h;refine Pi Tryz.func148 fun C=>?_
  repeat(first|(refine AS ⟨?_⟩;intros)|(refine O1 ⟨?_⟩;intros)|(refine Wcx (c1) ?_)|(refine dq (c1) ?_)|(refine Wcx (c2) ?_)|(refine dq (c2) ?_))
  refine WdN 10 ?_;repeat(first|(refine A1 ⟨?_⟩;intros)|refine W4 c3 ⟨?_⟩|refine W4 c4 ⟨?_⟩|refine W4 c5 ⟨?_⟩)
  simp only [List.drop_succ_cons,List.drop_zero];refine WfT (c6 _) ?_;rintro _ _ ⟨rfl,rfl⟩;repeat(refine A1 ⟨?_⟩;intros)
  exact G3
 ·rw [decide_eq_false h0]at c1;clear h0 h;refine Pi Tryz.func148 fun C=>?_
  repeat(first|(refine AS ⟨?_⟩;intros)|(refine O1 ⟨?_⟩;intros)|(refine Wcx (c1) ?_)|(refine dq (c1) ?_))
  refine WdN 10 ?_;repeat(first|(refine A1 ⟨?_⟩;intros)|refine W4 c3 ⟨?_⟩|refine W4 c4 ⟨?_⟩|refine W4 c5 ⟨?_⟩)
  simp only [List.drop_succ_cons,List.drop_zero];refine WfT (c6 _) ?_;rintro _ _ ⟨rfl,rfl⟩;repeat(refine A1 ⟨?_⟩;intros)
  exact G3
theorem F8 {a b c:Rat}{L:Nat}(ha:ht a≤L) (hb:ht b≤L) (hc:ht c≤L):(dD a b c).le (4*L+4):=by
 obtain⟨_,_,h3⟩:=Hb ha hb hc;have k1:=af a (g3 a b c)⁻¹;have k2:=af b (g3 a b c)⁻¹;have k3:=af c (g3 a b c)⁻¹;have n1:=bD (a*(g3 a b c)⁻¹);have n2:=bD (b*(g3 a b c)⁻¹);have n3:=bD (c*(g3 a b c)⁻¹);unfold dD;constructor <;> simp only <;> omega
theorem Li.im_le {m:M6 Rat}{l:Li}{L:Nat}(hm:m.le L) (h:l.le L) (h1:1≤L):(l.im m).le (200*L+200):=by
 have hi:=M6.inv_le hm;obtain⟨i1,i2,i3,i4,i5,i6⟩:=hi;obtain⟨ha,hb,hc⟩:=h;have e1:=bU l.a;have e2:=bU l.b;have e3:=bU l.c;have k1:=af (l.a:Rat) m.inv.a;have k2:=af (l.b:Rat) m.inv.d;have k3:=af (l.a:Rat) m.inv.b;have k4:=af (l.b:Rat) m.inv.e;have k5:=af (l.a:Rat) m.inv.c;have k6:=af (l.b:Rat) m.inv.f;have j1:=aO ((l.a:Rat)*m.inv.a) (l.b*m.inv.d);have j2:=aO ((l.a:Rat)*m.inv.b) (l.b*m.inv.e);have j3:=aO ((l.a:Rat)*m.inv.c) (l.b*m.inv.f);have j4:=aO ((l.a:Rat)*m.inv.c+l.b*m.inv.f) l.c;unfold Li.im;have:=F8 (a:=l.a*m.inv.a+l.b*m.inv.d) (b:=l.a*m.inv.b+l.b*m.inv.e) (c:=l.a*m.inv.c+l.b*m.inv.f+l.c) (L:=46*L+48) om om om;exact⟨Nat.le_trans this.a om,Nat.le_trans this.b om,Nat.le_trans this.c om⟩
theorem Gb {l:Li}(hl:l.ok) (h:l.le 100000):Pu Tryz.prog 145 [lq l] (Ab.tup [lf l.a l.b l.c,lit (.bool true)]):=by
 obtain⟨ha,hb,hc⟩:=h;have e1:=bU l.a;have e2:=bU l.b;have e3:=bU l.c;have n1:=jZ l.a om;have n2:=jZ l.b om;have n3:=jZ l.c om;have w1:=pU l.a om;have w2:=pU l.b om;have w3:=pU l.c om;have z1:=lS (l.a:Rat);have z2:=lS (l.b:Rat);rw [Rat.num_intCast]at z1 z2;have hg1:=np (l.a:Rat) (l.b:Rat);have g1:=k9 (l.a:Rat) (l.b:Rat) om om;have g2:=k9 (bP l.a l.b) (l.c:Rat) om om
 have hg:bP (bP l.a l.b) l.c=1:=by
  rw [er,show((Nat.gcd l.a.natAbs l.b.natAbs:Nat):Rat)=(((Nat.gcd l.a.natAbs l.b.natAbs:Nat):Int):Rat)from rfl,er,Int.natAbs_natCast,hl.1];rfl
 rw [hg]at g2;generalize bP (l.a:Rat) (l.b:Rat)=G at *;have f1:Pu Tryz.prog 73 [lit (.int .i64 1)] (fr 1):=uM 1 om om;have q:=Bf 1 1 (by decide +kernel) (by decide +kernel);rw [decide_eq_true rfl]at q;have hne:=hl.2;clear hg hg1 e1 e2 e3 ha hb hc hl;by_cases h0:l.a=0
 ·have h9:l.b≠0:=by
   rcases hne with h|h
   ·exact absurd h0 h
   ·exact h
  rw [decide_eq_true h0]at z1;rw [decide_eq_false h9]at z2;clear hne h9 h0;refine Pi Tryz.func145 fun C=>?_
  repeat(first|(refine A1 ⟨?_⟩;intros)|refine W4 n1 ⟨?_⟩|refine W4 n2 ⟨?_⟩|refine W4 n3 ⟨?_⟩|refine W4 w1 ⟨?_⟩|refine W4 w2 ⟨?_⟩|refine W4 w3 ⟨?_⟩|refine W4 z1 ⟨?_⟩|refine W4 z2 ⟨?_⟩|refine W4 g1 ⟨?_⟩|refine W4 g2 ⟨?_⟩|refine W4 f1 ⟨?_⟩|refine W4 q ⟨?_⟩)
  exact G3
 ·rw [decide_eq_false h0]at z1;clear hne h0 z2;refine Pi Tryz.func145 fun C=>?_
  repeat(first|(refine A1 ⟨?_⟩;intros)|refine W4 n1 ⟨?_⟩|refine W4 n2 ⟨?_⟩|refine W4 n3 ⟨?_⟩|refine W4 w1 ⟨?_⟩|refine W4 w2 ⟨?_⟩|refine W4 w3 ⟨?_⟩|refine W4 z1 ⟨?_⟩|refine W4 g1 ⟨?_⟩|refine W4 g2 ⟨?_⟩|refine W4 f1 ⟨?_⟩|refine W4 q ⟨?_⟩)
  exact G3
theorem Ej {m:M6 Rat}{l:Li}{L:Nat}(hm:m.le L) (h:l.le L) (h1:1≤L) (hL:L≤400) (hdet:m.det≠0) (hl:l.ok):Pu Tryz.prog 92 [mf m,lf l.a l.b l.c] (lf (l.im m).a (l.im m).b (l.im m).c):=by
 have c1:=y9 hm om;obtain⟨i1,i2,i3,i4,i5,i6⟩:=M6.inv_le hm;obtain⟨ha,hb,hc⟩:=h;have e1:=bU l.a;have e2:=bU l.b;have e3:=bU l.c;have k1:=af (l.a:Rat) m.inv.a;have k2:=af (l.b:Rat) m.inv.d;have k3:=af (l.a:Rat) m.inv.b;have k4:=af (l.b:Rat) m.inv.e;have k5:=af (l.a:Rat) m.inv.c;have k6:=af (l.b:Rat) m.inv.f;have j1:=aO ((l.a:Rat)*m.inv.a) (l.b*m.inv.d);have j2:=aO ((l.a:Rat)*m.inv.b) (l.b*m.inv.e);have j3:=aO ((l.a:Rat)*m.inv.c) (l.b*m.inv.f);have j4:=aO ((l.a:Rat)*m.inv.c+l.b*m.inv.f) l.c;have c2:=lp l.a l.b l.c;have c3:=po l.a l.b m.inv.a m.inv.d om om om om;have c4:=po l.a l.b m.inv.b m.inv.e om om om om;have c5:=sR l.a l.b l.c m.inv.c m.inv.f om om om om om;have c6:=Ga (l.a*m.inv.a+l.b*m.inv.d) (l.a*m.inv.b+l.b*m.inv.e) (l.a*m.inv.c+l.b*m.inv.f+l.c) (L:=46*L+48) om om om om (Li.im_ne hdet hl);rw [show dD (l.a*m.inv.a+l.b*m.inv.d) (l.a*m.inv.b+l.b*m.inv.e) (l.a*m.inv.c+l.b*m.inv.f+l.c)=l.im m from rfl]at c6;generalize l.im m=l' at *;clear k1 k2 k3 k4 k5 k6 j1 j2 j3 j4 e1 e2 e3 i1 i2 i3 i4 i5 i6 ha hb hc;refine Pi Tryz.func92 fun C=>?_
 repeat(first|(refine A1 ⟨?_⟩;intros)|refine W4 c1 ⟨?_⟩|refine W4 c2 ⟨?_⟩|refine W4 c3 ⟨?_⟩|refine W4 c4 ⟨?_⟩|refine W4 c5 ⟨?_⟩|refine W4 c6 ⟨?_⟩)
 exact G1
abbrev fe (ro:Option Nat):Fence:={fn:=fun _=>True,depth:=none,alive:=false,round:=ro}
theorem rD {ro:Option Nat}{n:Nat}{P:Program}{f:FuncId}{args:Array Value}{w:World}{R:Ending→World→Prop}(h:Calls P f args w R):CallsIn (fe ro) n P f args w R:=callsIn_wide.2 h
theorem AA {ro:Option Nat}{n:Nat}{P:Program}{row:String}{args:Array Value}{w:World}{R:Value→World→Prop}(h:Rows P row args w R):RowsIn (fe ro) n P row args w R :=
 fun c cs _=>let⟨v,w',r,s⟩:=h c cs;⟨v,w',r,stepsIn_wide.2 s⟩
def n8:Op→Bool
 | .defer _=>true
 |_=>false
theorem B0 {o:Oper}(h:(!n8 o.op)=true):∀c,o.op≠ .defer c:=fun c e=>by rw [e]at h;cases h
theorem up1 {ro:Option Nat}{d:Nat}{P:Program}{o:Oper}{a:Act}{w:World}{K:Act→World→Prop}{Q:Exit→Act→World→Prop}(hd:(!n8 o.op)=true) (h:o.wp P a w K Q):o.wpIn (fe ro) d P a w K Q:=by
 refine⟨fun _ _=>trivial,?_⟩;rw [Oper.semAt_eq _ _ _ (B0 hd)];unfold Oper.wp at h;generalize(execOp a.eval o).run P w=r at *;cases r with
 |ok x w' =>
  cases x with
  |value v=>exact h
  |skip=>exact h
  |defer d=>exact h
  |enter f args=>exact⟨(fun e=>by cases e),rD h⟩
  |row r args=>exact⟨(fun e=>by cases e),AA h⟩
  |_=>exact h.elim
 |halt x w' =>
  cases x with
  |panic v=>exact h
  |_=>exact h.elim
theorem upL {ro:Option Nat}{d:Nat}{P:Program}{ops:Array Oper}{Q:Exit→Act→World→Prop}(hq:∀a w,¬Q .outgrown a w):∀(l:List Oper) (a:Act) (w:World),(l.all fun o => !n8 o.op)=true→wpList P ops Q l a w→wpListIn (fe ro) d P ops Q l a w
 | [],a,w,_,h=>h
 |o::l,a,w,hd,h=>by
  rw [List.all_cons,Bool.and_eq_true]at hd;unfold wpList at h;unfold wpListIn;split
  ·rename_i hw;rw [if_pos hw]at h;rcases h with h|⟨_,a0,w0,h0⟩
   ·exact Oper.wpIn_mono (fun a w=>upL hq l a w hd.2) (up1 hd.1 h)
   ·exact(hq _ _ h0).elim
  ·rename_i hw;rw [if_neg hw]at h;exact⟨fun _ _=>trivial,upL hq l _ w hd.2 h⟩
section
variable {P:Program}{C:Ctx}{n:Nat}{Q:Exit→Fr→LH→Prop}{F:Fr}{H:LH}{ro:Option Nat}
attribute [local semireducible] WP WPL dZ jD
def WPX (ro:Option Nat) (P:Program) (C:Ctx) (n:Nat) (c:Code) (Q:Exit→Fr→LH→Prop) (F:Fr) (H:LH):Prop:=∀a w,St C n F H a w→∀d,c.wpIn (fe ro) d P (gV C n Q) a w
theorem WPX.le {c:Code}{F':Fr}(k:LeF F F') (h:WPX ro P C n c Q F' H):WPX ro P C n c Q F H:=fun a w hs=>h a w (hs.le k)
theorem WPX.seq {x y:Code}(h:WPX ro P C n x (dZ (WPX ro P C n y Q) Q) F H):WPX ro P C n (.seq x y) Q F H:=by
 intro a w hs d;refine wpIn_seq (wpIn_mono (h a w hs d) ?_);rintro e a' w' (⟨F',H',hs',hq⟩|⟨ch,rfl,hp⟩)
 ·cases e with
  |normal=>exact hq a' w' hs' d
  |_=>exact .inl ⟨F',H',hs',hq⟩
 ·exact .inr ⟨ch,rfl,hp⟩
theorem WPX.block {id:Nat}{c:Code}(h:WPX ro P C n c (jD id Q) F H):WPX ro P C n (.block id c) Q F H:=by
 intro a w hs d;refine wpIn_block (wpIn_mono (h a w hs d) ?_);rintro e a' w' (⟨F',H',hs',hq⟩|⟨ch,rfl,hp⟩)
 ·cases e with
  |exit id' =>
   simp only [jD]at hq;simp only [Exit.inBlock];cases hb:Nat.beq id' id with
   |true=>rw [hb]at hq;rw [if_pos (Nat.eq_of_beq_eq_true hb)];exact .inl ⟨F',H',hs',hq⟩
   |false=>rw [hb]at hq;rw [if_neg (fun h=>by rw [h,Nat.beq_refl]at hb;cases hb)];exact .inl ⟨F',H',hs',hq⟩
  |_=>exact .inl ⟨F',H',hs',hq⟩
 ·exact .inr ⟨ch,rfl,hp⟩
theorem WPX.skip (h:Q .normal F H):WPX ro P C n .skip Q F H:=fun _ _ hs _=>wpIn_skip (.mk hs h)
theorem WPX.exit {id:Nat}(h:Q (.exit id) F H):WPX ro P C n (.exit id) Q F H:=fun _ _ hs _=>wpIn_exit (.mk hs h)
theorem WPX.ret (h:Q .ret F H):WPX ro P C n .ret Q F H:=fun _ _ hs _=>wpIn_ret (.mk hs h)
theorem WPX.cond {c:Operand}{x y:Code}{t:Bool}(hc:ev F c=lit (.bool t)) (h1:t=true→WPX ro P C n x Q F H) (h2:t=false→WPX ro P C n y Q F H):WPX ro P C n (.cond c x y) Q F H:=by
 intro a w hs d;obtain⟨m,_,hp⟩:=hs.evp;have hv:=hp c;rw [hc,aj]at hv;exact wpIn_cond_split hv (fun h=>h1 h a w hs d) (fun h=>h2 h a w hs d)
theorem WPX.reg {id:Nat}{l:List Oper}(h:WPL P C n l.toArray l (fun F H=>Q .normal F H) F H) (hd:(l.all fun o => !n8 o.op)=true:=by exact rfl):WPX ro P C n (.region id l.toArray false) Q F H:=by
 intro a w hs d;have h1:=h a w hs (fun e a w=>e≠ .outgrown∧gV C n Q e a w) ⟨fun _ _ _ _ hs hq=>⟨(by intro e;cases e), .mk hs hq⟩,fun ch _ _ hp=>⟨(by intro e;cases e), .inr ⟨ch,rfl,hp⟩⟩⟩;exact wpIn_mono (wpIn_region_lit (upL (fun a w h=>h.1 rfl) l a w hd h1)) fun e a w h=>h.2
theorem aI.putObj {m:Mem}{w:World}{l:Nat}{o:Obj}(h:aI m w) (hl:m l=none):aI m (w.putObj l o) :=
 ⟨fun b x hb=>by
  have hne:b≠l:=fun e=>by rw [e,hl]at hb;cases hb
  rw [World.putObj_heap_other hne];exact h b x hb,h.base⟩
theorem HOk.putObj {m:Mem}{w:World}{l:Nat}{o:Obj}(h:HOk m w H) (hl:∀e∈H,e.1≠l):HOk m (w.putObj l o) H :=
 ⟨h.1,fun e he=>by
  obtain⟨h1,arr,h2,h3⟩:=h.2 e he;exact⟨h1,arr,by rw [World.putObj_heap_other (hl e he)];exact h2,h3⟩⟩
theorem HOk.ne_loop {m:Mem}{w:World}{l:Nat}{r:Loop}(h:HOk m w H) (hl:w.heap[l]? = some (.loop r)):∀e∈H,e.1≠l:=fun e he hel=>by
 obtain⟨_,arr,h2,_⟩:=h.2 e he;rw [hel,hl]at h2;cases h2
theorem iU {w:World}{l:Nat}{o:Obj}(h:w.heap[l]? = some o):l<w.heap.size:=(Array.getElem?_eq_some_iff.1 h).1
theorem Rel.putL {m:Mem}{w:World}{l:Nat}{o:Obj}:Rel [l] m w m (w.putObj l o) :=
 ⟨Mem.le_refl m,fun _ _ _=>rfl,rfl,rfl,⟨rfl,Nat.le_refl _⟩,by rw [World.putObj_size];exact Nat.le_refl _,fun b _ hn=>World.putObj_heap_other (fun e=>hn (by rw [e];exact List.mem_singleton.2 rfl))⟩
theorem Rel.around {ks:List Nat}{m m':Mem}{w w':World}{l:Nat}{o o1:Obj}(h:Rel ks m (w.putObj l o1) m' w') (hl:w.heap[l]? = some o):Rel ks m w m' (w'.putObj l o):=by
 have hs:w.heap.size≤w'.heap.size:=by have:=h.size;rwa [World.putObj_size]at this
 refine⟨h.le,fun b hb hn=>h.old b (by rwa [World.putObj_size]) hn,h.os,h.tape,h.output,by rw [World.putObj_size];exact hs,fun b hb hn=>?_⟩;by_cases e:b=l
 ·subst e;rw [World.putObj_heap_same om,hl]
 ·rw [World.putObj_heap_other e];have:=h.block b (by rwa [World.putObj_size]) hn;rwa [World.putObj_heap_other e]at this
theorem Rel.after {ks:List Nat}{m m':Mem}{w w':World}{l:Nat}{o o1:Obj}(h:Rel ks m (w.putObj l o1) m' w'):Rel (l::ks) m w m' (w'.putObj l o):=by
 have hs:w.heap.size≤w'.heap.size:=by have:=h.size;rwa [World.putObj_size]at this
 refine⟨h.le,fun b hb hn=>h.old b (by rwa [World.putObj_size]) (fun x=>hn (Mc x)),h.os,h.tape,h.output,by rw [World.putObj_size];exact hs,fun b hb hn=>?_⟩;have e:b≠l:=fun e=>hn (by rw [e];exact Ms)
 rw [World.putObj_heap_other e];have:=h.block b (by rwa [World.putObj_size]) (fun x=>hn (Mc x));rwa [World.putObj_heap_other e]at this
theorem St.putLoop {a:Act}{w1:World}{l:Nat}{r:Loop}{o:Obj}(h:St C n F H a w1) (hm:C.m l=none) (hl:C.w.heap[l]? = some (.loop r)) (hk:l∉C.ks):St {C with w:=C.w.putObj l o} n F H a (w1.putObj l o):=by
 obtain⟨hdef,hn,m,h1,h2,h3,h4,h5⟩:=h;have hlt:=iU hl;have hl1:w1.heap[l]? = some (.loop r):=(h3.block l hlt hk).trans hl;have hml:m l=none:=(h3.old l hlt hk).trans hm;refine⟨hdef,hn,m,h1.putObj hml,h2.putObj (h2.ne_loop hl1),⟨h3.le,fun b hb hn=>h3.old b (by rwa [World.putObj_size]at hb) hn,h3.os,h3.tape,h3.output,by rw [World.putObj_size,World.putObj_size];exact h3.size,fun b hb hn=>?_⟩,fun e he=>by rw [World.putObj_size];exact h4 e he,h5⟩;by_cases e:b=l
 ·subst e;rw [World.putObj_heap_same (iU hl1),World.putObj_heap_same hlt]
 ·rw [World.putObj_heap_other e,World.putObj_heap_other e];exact h3.block b (by rwa [World.putObj_size]at hb) hn
def BN (F:Fr):List (Nat×SV)→Fr
 | []=>F
 |(d,s)::r=>BN (upd F d s) r
theorem yE {m:Mem}:∀(l:List (Nat×SV)) (ps:List (Tmp×Value)) (F:Fr) (tmps:Array Value),l.map (·.1)=ps.map (·.1)→aP m (l.map (·.2)) (ps.map (·.2))→(∀e∈l,e.1<tmps.size)→(∀t,(F t).p m (tmps.getD t undef))→
  ∀t,(BN F l t).p m ((ps.foldl (fun t (p,v)=>t.setIfInBounds p v) tmps).getD t undef)
 | [],[],F,tmps,_,_,_,h=>h
 |(d,s)::l,(p,v)::ps,F,tmps,he,ha,hl,h=>by
  simp only [List.map_cons,List.cons.injEq]at he;obtain⟨rfl,he⟩:=he;refine yE l ps (upd F d s) (tmps.setIfInBounds d v) he ha.2 (fun e h=>by rw [Array.size_setIfInBounds];exact hl e (Mc h)) fun t=>?_
  have hd:=hl (d,s) Ms;by_cases ht:t=d
  ·subst ht;rw [aA];simpa [Array.getD,hd] using ha.1
  ·rw [au ht];have:=h t;simpa [Array.getD_eq_getD_getElem?,Array.getElem?_setIfInBounds_ne (Ne.symm ht)] using this
 | [],_::_,_,_,he,_,_,_=>by cases he
 |_::_,[],_,_,he,_,_,_=>by cases he
end
def IF (G:LH) (Gx:LH→Prop) (T:Prop):Exit→Fr→LH→Prop
 | .normal,_,H=>G.Sublist H∧T
 | .ret,_,H=>∃H',H'.Sublist H∧Gx H'
 |_,_,_=>False
def w6 (K:Fr→LH→Prop):Exit→Fr→LH→Prop
 | .normal,F,H=>K F H
 |_,_,_=>False
def YOk (P:Program) (l:Nat) (rec:Loop) (G:LH) (ys:List SV) (Gx:LH→Prop) (T:Prop) (m0:Mem):Prop :=
 ∀(m:Mem) (w:World) (vs:List Value),aI m w→HOk m w G→m0.le m→m l=none→l∉keys G→w.heap[l]? = some (.loop rec)→aP m ys vs→
  ∃fn tmps assign body,(Instr.yield l vs.toArray).run P w = .ok (.round l fn tmps assign body) w∧∀d,RoundIn (fe none) d P l fn tmps assign body w fun e w' =>
   (e = .returned (.bool true)∧T∧w'.heap[l]? = some (.loop rec)∧∃m',aI m' w'∧HOk m' w' G∧Rel (keys G) m w m' w')∨
   (e = .returned (.bool false)∧w'.heap[l]? = some (.loop {rec with state := .done,pending:=some .ret})∧∃m' H',aI m' w'∧HOk m' w' H'∧Rel (l::keys G) m w m' w'∧m' l=none∧(∀e∈H',e.1∈keys G∨w.heap.size≤e.1)∧Gx H')
def Jt (P:Program) (gf:FuncId) (caps:List SV) (ys:Nat→List SV) (N:Nat):Prop :=
  f9 P gf=true∧∀(l:Nat) (rec:Loop) (G:LH) (Gx:LH→Prop) (T:Nat→Prop) (m:Mem) (w:World) (lb:List Value),rec.state = .ready→rec.pending=none→aI m w→HOk m w G→m l=none→l∉keys G→w.heap[l]? = some (.loop rec)→aP m caps lb→
    (∀i,i<N→YOk P l rec G (ys i) Gx (T i) m)→Calls P gf (Value.func (.yield l) #[] #[]::lb).toArray w fun e w'=>(∃v,e = .returned v)∧
      (((∀i,i<N→T i)∧w'.heap[l]? = some (.loop rec)∧∃m',aI m' w'∧HOk m' w' G∧Rel (keys G) m w m' w')∨
       (w'.heap[l]? = some (.loop {rec with state := .done,pending:=some .ret})∧∃m' H',aI m' w'∧HOk m' w' H'∧Rel (l::keys G) m w m' w'∧m' l=none∧(∀e∈H',e.1∈keys G∨w.heap.size≤e.1)∧Gx H'))
section
variable {P:Program}{C:Ctx}{n:Nat}{Q:Exit→Fr→LH→Prop}{F:Fr}{H:LH}{Post:Exit→Act→World→Prop}
attribute [local semireducible] WP WPL dZ jD
theorem aP.len {m:Mem}:∀{ss:List SV}{vs:List Value},aP m ss vs→ss.length=vs.length
 | [],[],_=>rfl
 |_::_,_::_,h=>by rw [List.length_cons,List.length_cons,aP.len h.2]
 | [],_::_,h=>h.elim
 |_::_,[],h=>h.elim
theorem tv {α β:Type}:∀(a:List α) (b:List β),a.length=b.length→(a.zip b).map (·.1)=a
 | [],[],_=>rfl
 |x::a,y::b,h=>by simp [tv a b (by simpa using h)]
 | [],_::_,h=>by cases h
 |_::_,[],h=>by cases h
theorem tu {α β:Type}:∀(a:List α) (b:List β),a.length=b.length→(a.zip b).map (·.2)=b
 | [],[],_=>rfl
 |x::a,y::b,h=>by simp [tu a b (by simpa using h)]
 | [],_::_,h=>by cases h
 |_::_,[],h=>by cases h
theorem YOk.of {l:Nat}{rec:Loop}{G:LH}{ys:List SV}{Gx:LH→Prop}{T:Prop}{m0:Mem}{ps:List Nat}(hs:rec.state = .ready) (hpd:rec.pending=none) (hps:rec.params=ps.toArray) (hpl:ps.length=ys.length) (hpn:∀p∈ps,p<n) (hn:n≤rec.tmps.size)
  (hF:∀t,(F t).p m0 (rec.tmps.getD t undef))
  (h:∀C:Ctx,C.ks=keys G→C.dfs=[]→(∀pv H,¬C.pan pv H)→WPX (some l) P C n rec.assign (w6 fun F' H'=>∀C2:Ctx,C2.ks=keys G→C2.dfs=[]→(∀pv H,¬C2.pan pv H)→WPX (some l) P C2 n rec.body (IF G Gx T) F' H') (BN F (ps.zip ys)) G) :
  YOk P l rec G ys Gx T m0:=by
 intro m w vs hm hH hle hml hlk hl hargs;have hlen:=hargs.len;have hlt:=iU hl;have hpar:∀(X:Loop),X.params=ps.toArray→vs.toArray.size=X.params.size:=fun X hX=>by rw [hX];simp;omega
 refine⟨rec.fn,_,rec.assign,rec.body,run_yield hl (hpar rec hps),fun d=>roundIn_of_wpIn trivial ?_⟩
 have hst:St ⟨keys G,m,w,noX,[]⟩ n (BN F (ps.zip ys)) G {tmps:=(rec.params.zip vs.toArray).foldl (fun tmps (t,a)=>tmps.setIfInBounds t a) rec.tmps,defers:=[]} w:=by
  have hz:rec.params.zip vs.toArray=(ps.zip vs).toArray:=by rw [hps];simp
  have hsz:∀(l:List (Tmp×Value)) (t:Array Value),(l.foldl (fun tmps (x:Tmp×Value)=>tmps.setIfInBounds x.1 x.2) t).size=t.size:=fun l=>by
   induction l with
   |nil=>intro t;rfl
   |cons x l ih=>intro t;rw [List.foldl_cons,ih,Array.size_setIfInBounds]
  rw [hz];refine⟨rfl,by simp only [List.foldl_toArray'];rw [hsz];exact hn,m,hm,hH,Rel.refl _ _ _,fun e he => .inl (iS he),fun t=>?_⟩
  have:=yE (m:=m) (ps.zip ys) (ps.zip vs) F rec.tmps (by rw [tv _ _ hpl,tv _ _ om]) (by rw [tu _ _ hpl,tu _ _ om];exact hargs) (fun e he=>by
   have:=List.of_mem_zip (a:=e.1) (b:=e.2) he;exact Nat.lt_of_lt_of_le (hpn _ this.1) hn) (fun t=>(F t).mono hle (hF t)) t
  simpa using this
 have h1:=h ⟨keys G,m,w,noX,[]⟩ rfl rfl (fun _ _ h=>h) _ _ hst d;refine wpIn_mono h1 ?_;rintro e a1 w1 (⟨F1,H1,hs1,hq1⟩|⟨ch,_,_,_,_,_,_,_,_,_,_,_,_,hx⟩);case inr=>exact hx.elim
 cases e with
 |normal =>
  have hl1:w1.heap[l]? = some (.loop rec):=by
   obtain⟨_,_,m1,_,_,h3,_⟩:=hs1;exact(h3.block l hlt hlk).trans hl
  refine⟨_,run_beginRound hl1 hs,?_⟩;have hs2:=hs1.putLoop (o := .loop {rec with state := .busy}) hml hl hlk;refine wpIn_mono (hq1 _ rfl rfl (fun _ _ h=>h) _ _ hs2 d) ?_;rintro e a3 w3 (⟨F3,H3,⟨_,_,m3,g1,g2,g3,g4,_⟩,hq3⟩|⟨ch,_,_,_,_,_,_,_,_,_,_,_,_,hx⟩);case inr=>exact hx.elim
  have hlt2:l<(w.putObj l (.loop {rec with state := .busy})).heap.size:=by rw [World.putObj_size];exact hlt
  have hm3:m3 l=none:=(g3.old l hlt2 hlk).trans hml;have hl3:w3.heap[l]? = some (.loop {rec with state := .busy}):=(g3.block l hlt2 hlk).trans (World.putObj_heap_same hlt);have hne:=g2.ne_loop hl3;cases e with
  |normal =>
   have e0:({{rec with state:=LoopState.busy}with state:=LoopState.ready,pending:=none}:Loop)=rec:=by
    cases rec;simp only at hs hpd;subst hs;subst hpd;rfl
   refine⟨_,_,run_endRound none hl3, .inl ⟨rfl,hq3.2,?_,m3,g1.putObj hm3,(g2.sub' hq3.1).putObj (fun e he=>hne e (hq3.1.subset he)),?_⟩⟩
   ·rw [World.putObj_heap_same (iU hl3)];exact congrArg (fun x=>some (Obj.loop x)) e0
   ·exact(show Obj.loop {{rec with state:=LoopState.busy}with state:=LoopState.ready,pending:=none} = .loop rec from congrArg _ e0)▸g3.around hl
  |ret =>
   obtain⟨H',hsub,hx⟩:=hq3;refine⟨_,_,run_endRound (some .ret) hl3, .inr ⟨rfl,?_,m3,H',g1.putObj hm3,(g2.sub' hsub).putObj (fun e he=>hne e (hsub.subset he)),g3.after,hm3,fun e he=>?_,hx⟩⟩
   ·rw [World.putObj_heap_same (iU hl3)];rfl
   ·have:=g4 e (hsub.subset he);simp only [World.putObj_size]at this;exact this
  |_=>exact hq3.elim
 |_=>exact hq1.elim
def WPE (P:Program) (C:Ctx) (n:Nat) (c:Code) (Post:Exit→Act→World→Prop) (F:Fr) (H:LH):Prop:=∀a w,St C n F H a w→c.wp P Post a w
theorem WPE.seq {x y:Code}(h:WP P C n x (dZ (fun F H=>WPE P C n y Post F H) Q) F H) (k:∀e a w,e≠ .normal→gV C n Q e a w→Post e a w):WPE P C n (.seq x y) Post F H:=by
 intro a w hs;unfold WP at h;refine wp_seq (wp_mono (h a w hs) ?_);rintro e a' w' (⟨F',H',hs',hq⟩|⟨ch,rfl,hp⟩)
 ·cases e with
  |normal=>exact hq a' w' hs'
  |_=>exact k _ _ _ (by intro e;cases e) (.inl ⟨F',H',hs',hq⟩)
 ·exact k _ _ _ (by intro e;cases e) (.inr ⟨ch,rfl,hp⟩)
theorem WPE.ahead {x y:Code}(h:WPE P C n x (Exit.then (fun a w=>y.wp P Post a w) Post) F H):WPE P C n (.seq x y) Post F H:=fun a w hs=>wp_seq (h a w hs)
theorem WPE.fin {c:Code}(h:WP P C n c Q F H) (k:∀e a w,gV C n Q e a w→Post e a w):WPE P C n c Post F H:=by
 unfold WP at h;exact fun a w hs=>wp_mono (h a w hs) k
structure RB (C C1:Ctx) (D:Nat):Prop where
 dfs:C1.dfs=⟨.collected D,#[]⟩::C.dfs
 pan:C1.pan=C.pan
 rel:Rel C.ks C.m C.w C1.m C1.w
 own:∀b∈C1.ks,b∈C.ks∨C.w.heap.size≤b
 mark:C1.w.heap[D]? = some (.deferred (some []))
 nd:D∉C1.ks
 mem:C1.m D=none
 ge:C.w.heap.size≤D
theorem HOk.frame {m m':Mem}{w w':World}{Rs G H':LH}{ks:List Nat}(h:HOk m w (Rs++G)) (h':HOk m' w' H') (r:Rel ks m w m' w') (hk:∀e∈Rs,e.1∉ks) (hn:∀e∈H',e.1∈keys G∨w.heap.size≤e.1):HOk m' w' (Rs++H'):=by
 refine⟨?_,fun e he=>?_⟩
 ·rw [List.map_append,List.nodup_append];have h0:=h.1;rw [List.map_append,List.nodup_append]at h0;refine⟨h0.1,h'.1,fun x hx y hy hxy=>?_⟩;obtain⟨e1,he1,rfl⟩:=List.mem_map.1 hx;obtain⟨e2,he2,rfl⟩:=List.mem_map.1 hy;rcases hn e2 he2 with g|g
  ·exact h0.2.2 _ (List.mem_map.2 ⟨e1,he1,rfl⟩) _ g hxy
  ·have:=(h.2 e1 (List.mem_append_left _ he1)).2.lt;omega
 ·rcases List.mem_append.1 he with g|g
  ·obtain⟨h1,hc⟩:=h.2 e (List.mem_append_left _ g);have hlt:=hc.lt;obtain⟨arr,h2,h3⟩:=hc;exact⟨(r.old _ hlt (hk e g)).trans h1,arr,(r.block _ hlt (hk e g)).trans h2,h3.mono r.le⟩
  ·exact h'.2 e g
theorem WPE.range {out gf:Nat}{g:Operand}{ps:List Nat}{assign body:Code}{caps:List SV}{ys:Nat→List SV}{N:Nat}{G Rs:LH}{Gx:LH→Prop}{T:Nat→Prop}(hg:ev F g=fnv gf [] caps) (hit:Jt P gf caps ys N) (hp:H.Perm (Rs++G)) (hpl:∀i,i<N→ps.length=(ys i).length) (hpn:∀p∈ps,p<n)
  (hbody:∀(i:Nat) (l:Nat) (C:Ctx),i<N→C.ks=keys G→C.dfs=[]→(∀pv H,¬C.pan pv H)→WPX (some l) P C n assign (w6 fun F' H'=>∀C2:Ctx,C2.ks=keys G→C2.dfs=[]→(∀pv H,¬C2.pan pv H)→WPX (some l) P C2 n body (IF G Gx (T i)) F' H') (BN F (ps.zip (ys i))) G)
  (k1:∀C1 D a w,(∀i,i<N→T i)→RB C C1 D→St C1 n F (Rs++G) a w→Post .normal a w) (k2:∀C1 D H' a w,RB C C1 D→Gx H'→St C1 n F (Rs++H') a w→Post .ret a w) :
  WPE P C n (.block out (.rangeFunc g ps.toArray assign body)) Post F H:=by
 intro a w hs;refine wp_block ((wpIn_wide (n:=2)).1 (wpIn_rangeFunc fun fn _=>?_));obtain⟨hdef,hn,m,h1,h2,h3,h4,h5⟩:=hs;have h2p:=h2.perm hp
 have hev:(ev F g).p m (a.eval g):=by
  cases g with
  |tmp t=>exact h5 t
  |const v=>unfold ev lit;rfl
  |global g=>unfold ev lit;rfl
  |func f=>unfold ev lit;rfl
 rw [hg]at hev;unfold fnv at hev;obtain⟨fa,ca,hev,hfa,hca⟩:=hev
 have hfa':fa = #[]:=by
  cases fa with
  |mk l=>cases l with
   |nil=>rfl
   |cons _ _=>exact hfa.elim
 subst hfa';obtain⟨rec,hrec⟩:∃rec:Loop,rec={state := .ready,pending:=none,fn,tmps:=a.tmps,params:=ps.toArray,assign,body,defers:=w.heap.size}:=⟨_,rfl⟩
 obtain⟨w1,hw1⟩:∃w1,(w.alloc (.deferred (some []))).alloc (.loop rec)=w1:=⟨_,rfl⟩
 have hsz1:w1.heap.size=w.heap.size+2:=by rw [←hw1,World.size_alloc,World.size_alloc]
 have hold:∀b,b<w.heap.size→w1.heap[b]? = w.heap[b]?:=fun b hb=>by
  rw [←hw1,@heap_alloc_old _ _ b (by rw [World.size_alloc];omega),@heap_alloc_old _ _ b hb]
 have hD1:w1.heap[w.heap.size]? = some (.deferred (some [])):=by
  rw [←hw1,@heap_alloc_old _ _ _ (by rw [World.size_alloc];omega)];exact heap_alloc_new w _
 have hL1:w1.heap[w.heap.size+1]? = some (.loop rec):=by
  rw [←hw1];have:=heap_alloc_new (w.alloc (.deferred (some []))) (.loop rec);rwa [World.size_alloc]at this
 have hmlt:∀b o,m b=some o→b<w.heap.size:=fun b o hb=>iU (h1 b o hb)
 have hmD:m w.heap.size=none:=by
  cases hx:m w.heap.size with
  |none=>rfl
  |some o=>have:=hmlt _ _ hx;omega
 have hmL:m (w.heap.size+1)=none:=by
  cases hx:m (w.heap.size+1)with
  |none=>rfl
  |some o=>have:=hmlt _ _ hx;omega
 have hm1:aI m w1:=⟨fun b o hb=>by rw [hold b (hmlt b o hb)];exact h1 b o hb,h1.base⟩
 have hr1:Rel [] m w m w1:=⟨Mem.le_refl m,fun _ _ _=>rfl,by rw [←hw1];rfl,by rw [←hw1];rfl,⟨by rw [←hw1];rfl,by rw [←hw1];exact Nat.le_refl _⟩,om,fun b hb _=>hold b hb⟩
 have hH1:HOk m w1 (Rs++G):=h2p.rel hr1 fun _ _=>by simp
 have hG1:HOk m w1 G:=hH1.sub' (List.sublist_append_right _ _);have hklt:∀e∈Rs++G,e.1<w.heap.size:=fun e he=>(h2p.2 e he).2.lt
 have hlk:w.heap.size+1∉keys G:=fun hk=>by
  obtain⟨e,he,hk⟩:=List.mem_map.1 hk;have:=hklt e (List.mem_append_right _ he);omega
 refine⟨w.heap.size+1,[{target := .collected w.heap.size,args := #[]}],w1,{target := .fn (.func gf) ca,args := #[.func (.yield (w.heap.size+1)) #[] #[]]},w1,gf,(Value.func (.yield (w.heap.size+1)) #[] #[]::ca.toList).toArray,w1,?_,?_,fun _ _=>trivial,?_,(fun e=>by cases e),?_⟩
 ·rw [←hw1,hrec];exact run_enterLoop_outer _ _ _ _ _
 ·simp only [resolve,hev];simp [go_sem]
 ·simp only [invoke,cV hit.1];congr 2
  apply Array.ext';simp
 ·refine rD (Calls.mono (hit.2 (w.heap.size+1) rec G Gx T m w1 ca.toList (by rw [hrec]) (by rw [hrec]) hm1 hG1 hmL hlk hL1 hca fun i hi=>?_) ?_)
  ·refine YOk.of (n:=n) (F:=F) (ps:=ps) (by rw [hrec]) (by rw [hrec]) (by rw [hrec]) (hpl i hi) hpn (by rw [hrec];exact hn) (by rw [hrec];exact h5) fun C e1 e2 e3=>?_
   have:=hbody i (w.heap.size+1) C hi e1 e2 e3;rw [hrec];exact this
  ·have hRs:∀e∈Rs,e.1∉keys G:=fun e he hk=>by
    have:=h2p.1;rw [List.map_append,List.nodup_append]at this;exact this.2.2 _ (List.mem_map.2 ⟨e,he,rfl⟩) _ hk rfl
   have hRs':∀e∈Rs,e.1∉(w.heap.size+1)::keys G:=fun e he hk=>by
    rcases List.mem_cons.1 hk with hk|hk
    ·have:=hklt e (List.mem_append_left _ he);omega
    ·exact hRs e he hk
   have hks:∀b,b<C.w.heap.size→b∈keys G→b∈C.ks:=fun b hb hk=>by
    obtain⟨e,he,rfl⟩:=List.mem_map.1 hk;rcases h4 e (hp.mem_iff.2 (List.mem_append_right _ he))with h|h
    ·exact h
    ·omega
   have hCw:=h3.size
   have mk:∀(w2:World) (m2:Mem) (H':LH) (o:Obj),aI m2 w2→HOk m2 w2 H'→Rel ((w.heap.size+1)::keys G) m w1 m2 w2→m2 (w.heap.size+1)=none→(∀e∈H',e.1∈keys G∨w1.heap.size≤e.1)→(∀e∈H',e.1≠w.heap.size+1)→
     RB C {ks:=keys (Rs++H'),m:=m2,w:=w2.putObj (w.heap.size+1) o,pan:=C.pan,dfs:=⟨.collected w.heap.size,#[]⟩::C.dfs} w.heap.size∧
     St {ks:=keys (Rs++H'),m:=m2,w:=w2.putObj (w.heap.size+1) o,pan:=C.pan,dfs:=⟨.collected w.heap.size,#[]⟩::C.dfs} n F (Rs++H') {a with defers:=[{target := .collected w.heap.size,args := #[]}]++a.defers} (w2.putObj (w.heap.size+1) o):=by
    intro w2 m2 H' o q1 q2 q3 q4 q5 q6;have hHn:HOk m2 w2 (Rs++H'):=hH1.frame q2 q3 hRs' q5
    have hall:∀e∈Rs++H',e.1≠w.heap.size+1:=fun e he=>by
     rcases List.mem_append.1 he with g|g
     ·have:=hklt e (List.mem_append_left _ g);omega
     ·exact q6 e g
    have hDk:w.heap.size∉(w.heap.size+1)::keys G:=fun hk=>by
     rcases List.mem_cons.1 hk with hk|hk
     ·omega
     ·obtain⟨e,he,hk⟩:=List.mem_map.1 hk;have:=hklt e (List.mem_append_right _ he);omega
    have hDne:w.heap.size≠w.heap.size+1:=by omega
    have hDat:(w2.putObj (w.heap.size+1) o).heap[w.heap.size]? = some (.deferred (some [])):=by
     rw [World.putObj_heap_other hDne,q3.block _ om hDk];exact hD1
    have hD2:m2 w.heap.size=none:=(q3.old _ om hDk).trans hmD;have hMn:aI m2 (w2.putObj (w.heap.size+1) o):=q1.putObj q4;have hHf:=hHn.putObj (o:=o) hall;refine⟨⟨rfl,rfl,?_,fun b hb=>?_,hDat,fun hk=>?_,hD2,hCw⟩,⟨by show _::a.defers=_::C.dfs;rw [hdef],hn,m2,hMn,hHf,Rel.refl _ _ _,fun e he => .inl (iS he),fun t=>(F t).mono q3.le (h5 t)⟩⟩
    ·refine((h3.trans hr1 fun b _ h=>by cases h).trans q3 fun b hb hk=>?_).trans Rel.putL fun b hb hk=>?_
     ·rcases List.mem_cons.1 hk with hk|hk
      ·omega
      ·exact hks b hb hk
     ·rw [List.mem_singleton.1 hk]at hb;omega
    ·obtain⟨e,he,rfl⟩:=List.mem_map.1 hb;rcases List.mem_append.1 he with g|g
     ·exact h4 e (hp.mem_iff.2 (List.mem_append_left _ g))
     ·rcases q5 e g with g|g
      ·obtain⟨e',he',g⟩:=List.mem_map.1 g;have:=h4 e' (hp.mem_iff.2 (List.mem_append_right _ he'));rw [g]at this;exact this
      ·exact .inr om
    ·obtain⟨e,he,hk⟩:=List.mem_map.1 hk;obtain⟨_,arr,hb,_⟩:=hHf.2 e he;rw [hk,hDat]at hb;cases hb
   rintro e w2 ⟨⟨v,rfl⟩,⟨hTT,hl2,m2,q1,q2,q3⟩|⟨hl2,m2,H',q1,q2,q3,q4,q5,q6⟩⟩
   ·have hne:=q2.ne_loop hl2;have hml2:m2 (w.heap.size+1)=none:=(q3.old _ om hlk).trans hmL;obtain⟨r1,r2⟩:=mk w2 m2 G (.loop {rec with state := .exhausted}) q1 q2 (q3.mono fun b hb=>Mc hb) hml2 (fun e he => .inl (iS he)) hne;exact⟨none,_,(run_endLoop (P:=P) hl2 (by rw [hrec];simp)).trans (congrArg (fun x=>Result.ok x (w2.putObj (w.heap.size+1) (.loop {rec with state := .exhausted}))) (show rec.pending=none by rw [hrec])),k1 _ _ _ _ hTT r1 r2⟩
   ·have hne:=q2.ne_loop hl2;obtain⟨r1,r2⟩:=mk w2 m2 H' (.loop {{rec with state := .done,pending:=some .ret}with state := .exhausted}) q1 q2 q3 q4 q5 hne;exact⟨some .ret,_,run_endLoop (P:=P) hl2 (by simp),wpIn_ret (k2 _ _ _ _ _ r1 q6 r2)⟩
end
section
variable {P:Program}{ops:Array Oper}{C:Ctx}{n:Nat}{F F':Fr}{H:LH}
attribute [local semireducible] WP WPL dZ jD Dk
end
end Go.Ab
