/- Texts laid one behind the other: Tape, AffC, Row, LnC, Rng. -/
import Derived.Test.YtbcojehfealiaaaGreatDoorB12
import Derived.RangeFuncLeaves
import Derived.RangeFuncRecord
import Derived.TacticsIn
import Derived.OrdersIn
set_option linter.all false
set_option maxHeartbeats 16000000
namespace Go.Ab
open Go.Proofs
variable [Base]
abbrev nJ (zs:List Int):List SV:=[nsl .i64 zs,ex fun k:{k:Nat // k≤zs.length}=>lit (.int .i64 (k.1:Int))]
section
variable {P:Program}{F:Fr}{H:LH}
variable {C:Ctx}{n:Nat}{ops:Array Oper}{K:Fr→LH→Prop}{rest:List Oper}{ty:TypeId}{pos:String}{aft:Array Edge}
theorem Wtx {d:Nat}{f:FuncId}{l:List Operand}{tys:Array TypeId}{T:TypeId}{b:Nat}{args:Nat→List SV}{cs:List SV}{α:Type}{res:α→SV}(hc:PuM P f T args cs (fun _:Unit=>cs) (fun _=>ex res)) (hm:(b,T,cs)∈H) (k:∀x,WPL P C n ops rest K (upd F d (res x)) H)
  (ha:l.map (ev F)=args b:=by exact rfl) (hd:Nat.blt d n=true:=by exact rfl):WPL P C n ops (⟨some d, .call ⟨.value (.func f),l.toArray,tys⟩,ty,pos,aft,none⟩::rest) K F H :=
 WPL.val (EF hc ha hm) hd (WPL.exd (d:=d) aF fun x=>by
  have e:upd (upd F d (ex res)) d (res x)=upd F d (res x):=by
   funext t
   by_cases h:t=d
   ·subst h;rw [aF,aF]
   ·rw [av h,av h,av h]
  rw [e];exact k x)
theorem se {rs:Array ResultVar}{T:TypeId}{cs:List SV}(b:Nat) (cs0:List SV) (h:jt P rs.toList (lit (.pointer (some ⟨b,0,none⟩))) F H) (hm:(b,T,cs0)∈H) (hl:LeL cs0 cs):Jo P rs T cs .ret F H:=⟨b,cs0,h,hm,hl⟩
theorem fh {rs:Array ResultVar}{α:Type}{b:Nat}{T:TypeId}{cs':α→List SV}{res:α→SV}(x:α) (cs:List SV) (h:jt P rs.toList (res x) F H) (hm:(b,T,cs)∈H) (hl:LeL cs (cs' x)):Lg P rs b T cs' res .ret F H:=⟨x,h,cs,hm,hl⟩
theorem az.exI {α:Type}{m:Mem}{f:α→SV}:∀{cs:List SV}{vs:List Value}(i:Nat),az m cs vs→cs[i]? = some (ex f)→∃x,az m (cs.set i (f x)) vs
 | [],_,i,_,h=>by simp at h
 |_::_,[],_,h,_=>h.elim
 |s::cs,v::vs,0,h,hi=>by
  simp only [List.getElem?_cons_zero,Option.some.injEq]at hi;subst hi;have h1:=h.1.1;unfold ex at h1;obtain⟨x,hx⟩:=h1;exact⟨x,⟨hx,h.1.2⟩,h.2⟩
 |s::cs,v::vs,i+1,h,hi=>by
  obtain⟨x,hx⟩:=az.exI i h.2 (by simpa using hi);exact⟨x,h.1,hx⟩
theorem WP.exH {C:Ctx}{n:Nat}{Q:Exit→Fr→LH→Prop}{α:Type}{f:α→SV}{c:Code}{b:Nat}{T:TypeId}{cs:List SV}{H':α→LH}(i:Nat) (hi:cs[i]? = some (ex f)) (hu:∀x,ay b T cs (cs.set i (f x)) H (H' x)) (x0:α)
  (k:∀x,WP P C n c Q F (H' x)):WP P C n c Q F H:=by
 unfold WP at *;rintro a w ⟨hdef,hn,m,h1,h2,h3,h4,h5⟩;obtain⟨g1,arr,g2,g3⟩:=h2.2 _ (hu x0).mem;obtain⟨x,hx⟩:=g3.exI i hi;refine k x a w ⟨hdef,hn,m,h1,⟨(hu x).keys▸h2.1,fun e he=>?_⟩,h3,fun e he=>?_,h5⟩
 ·rcases(hu x).mem' h2.1 e he with rfl|⟨he',_⟩
  ·exact⟨g1,arr,g2,hx⟩
  ·exact h2.2 e he'
 ·have:e.1∈(H' x).map (·.1):=List.mem_map.2 ⟨e,he,rfl⟩;rw [(hu x).keys]at this;obtain⟨e',he',hk'⟩:=List.mem_map.1 this;exact hk'▸h4 e' he'
end
theorem Kh (zs:List Int) (hz:zs.length≤9223372036854775807):PuN Tryz.prog 5 75 [nsl .i64 zs] (nJ (zs.take (min zs.length 400))):=by
 obtain⟨k,hk⟩:∃k,k=min zs.length 400:=⟨_,rfl⟩
 rw [←hk];by_cases h:zs.length≤400
 ·have hk:k=zs.length:=by omega
  subst hk;refine PuN.intro Tryz.func5 rfl kr fun C=>?_
  repeat(refine A1 ⟨?_⟩;intros)
  refine Wo (pa (i:=0) (j:=zs.length) rfl (fun _ h=>by cases h) (fun _=>rfl) (fun y h=>⟨_,_,by cases h;exact rfl,rfl⟩) (fun h=>by cases h) om om rfl) ?_;repeat(refine A1 ⟨?_⟩;intros)
  exact se _ _ (aJ (RV.tmp rfl) Lr) List.mem_cons_self ⟨Le.refl _,Le.ex ⟨0,by simp⟩ Lr,trivial⟩
 ·have hk:k=400:=by omega
  subst hk;refine PuN.intro Tryz.func5 rfl kr fun C=>?_
  repeat(refine A1 ⟨?_⟩;intros)
  refine Wo (pa (i:=0) (j:=400) rfl (fun _ h=>by cases h) (fun _=>rfl) (fun y h=>⟨_,_,by cases h;exact rfl,rfl⟩) (fun h=>by cases h) om om rfl) ?_;repeat(refine A1 ⟨?_⟩;intros)
  exact se _ _ (aJ (RV.tmp rfl) Lr) List.mem_cons_self ⟨Le.refl _,Le.ex ⟨0,by simp⟩ Lr,trivial⟩
abbrev PuT (f:FuncId) (zs:List Int) (args:List SV) (res:SV):Prop:=PuM Tryz.prog f 75 (fun b=>lit (.pointer (some ⟨b,0,none⟩))::args) (nJ zs) (fun _:Unit=>nJ zs) (fun _=>res)
abbrev Jt (n:Nat):SV:=ex fun k:{k:Nat // k<n}=>lit (.int .i64 (k.1:Int))
theorem eF (zs:List Int) (hz:zs.length≤400) (n:Nat) (hn:0<n) (hn':n≤1000000000):PuT 28 zs [lit (.int .i64 n)] (Jt n):=by
 refine PuM.intro Tryz.func28 rfl kr fun C b=>?_
 refine WP.exH 1 rfl (fun x=>ay.here _) ⟨0,om⟩ fun x=>?_
 obtain⟨k,hk⟩:=x;simp only [nJ,List.set_cons_succ,List.set_cons_zero];by_cases hkl:k<zs.length
 ·have m1:=Int.tmod_lt_of_pos (zs.getD k 0) (show(0:Int)<n by omega);have m2:=Int.lt_tmod_of_pos (zs.getD k 0) (show(0:Int)<n by omega);repeat(refine A1 ⟨?_⟩;intros)
  generalize(zs.getD k 0).tmod (n:Int)=r at *;refine WPd (fun h=>?_) (fun h=>?_)
  ·repeat(refine A1 ⟨?_⟩;intros)
   exact fh () _ (aJ (RV.tmp rfl) (Le.ex ⟨(r+n).toNat,om⟩ (Le.int (by simp only;omega)))) List.mem_cons_self ⟨Le.refl _,Le.ex ⟨k+1,om⟩ Lr,trivial⟩
  ·repeat(refine A1 ⟨?_⟩;intros)
   exact fh () _ (aJ (RV.tmp rfl) (Le.ex ⟨r.toNat,om⟩ (Le.int (by simp only;omega)))) List.mem_cons_self ⟨Le.refl _,Le.ex ⟨k+1,om⟩ Lr,trivial⟩
 ·repeat(refine A1 ⟨?_⟩;intros)
  exact fh () _ (aJ (RV.tmp rfl) (Le.ex ⟨0,hn⟩ Lr)) List.mem_cons_self ⟨Le.refl _,Le.ex ⟨k,hk⟩ Lr,trivial⟩
abbrev smallR:SV:=ex fun x:{x:Rat // ht x≤1}=>rq x.1
theorem zB (z:Int) (d:Nat) (hz:z.natAbs<4294967296) (hd:d<4294967296):ht (mkRat z d)≤1:=by
 have h:=rX z d;have h1:il z≤1:=bC (k:=1) (by simpa using hz);have h2:=bC (n:=d) (k:=1) (by simpa using hd);omega
theorem vK (z:Int) (h:z.natAbs<4294967296):ht (z:Rat)≤1:=by
 unfold ht;rw [Rat.num_intCast,Rat.den_intCast,kt];have:il z≤1:=bC (k:=1) (by simpa using h);simp;omega
theorem qJ (zs:List Int) (hz:zs.length≤400):PuT 27 zs [] smallR:=by
 refine PuM.intro Tryz.func27 rfl kr fun C b=>?_
 repeat(refine A1 ⟨?_⟩;intros)
 refine Wtx (eF zs hz 9 om om) (Mc Ms) fun k=>?_
 obtain⟨k,hk⟩:=k;simp only [];repeat(refine A1 ⟨?_⟩;intros)
 refine Wtx (eF zs hz 6 om om) (Mc Ms) fun j=>?_
 obtain⟨j,hj⟩:=j;simp only [];have fin:∀(x:Rat),ht x≤1→Le (ag [lit (.bool (decide (x.num<0))),nat x.num.natAbs,dg (gO x.den)]) smallR:=fun x hx=>Le.ex ⟨x,hx⟩ Lr
 by_cases hj0:j=0
 ·have hp:=wE (2*((k:Int)-4)+1) 2 om om om om;repeat(first|(refine A1 ⟨?_⟩;intros)|refine W4 hp ⟨?_⟩)
  exact fh () _ (aJ (RV.cellA rfl List.mem_cons_self rfl rfl) (fin _ (zB _ _ om om))) (Mc Ms) (LeL.refl _)
 ·by_cases hj1:j=1
  ·have hp:=wE (3*((k:Int)-4)+1) 3 om om om om;repeat(first|(refine A1 ⟨?_⟩;intros)|refine W4 hp ⟨?_⟩)
   exact fh () _ (aJ (RV.cellA rfl List.mem_cons_self rfl rfl) (fin _ (zB _ _ om om))) (Mc Ms) (LeL.refl _)
  ·have hp:=oX ((k:Int)-4) om om;repeat(first|(refine A1 ⟨?_⟩;intros)|refine W4 hp ⟨?_⟩)
   exact fh () _ (aJ (RV.cellA rfl List.mem_cons_self rfl rfl) (fin _ (vK _ om))) (Mc Ms) (LeL.refl _)
theorem mu:Le (lit (.slice none 0 0)) (nat (0:Rat).num.natAbs):=by
 rw [show(0:Rat).num.natAbs=0 from rfl,show nat 0=dg []from by show dg (dgs 0)=_;rw [aT]];exact eC
theorem mv:Le (lit (.slice none 0 0)) (dg (gO (0:Rat).den)):=by
 rw [show(0:Rat).den=1 from rfl,jP];exact eC
abbrev smallM:SV:=ex fun m:{m:M6 Rat // m.le 1}=>rm m.1
theorem GK (zs:List Int) (hz:zs.length≤400):PuT 6 zs [] smallM:=by
 have h0:ht 0≤1:=by rw [show(0:Rat)=((0:Int):Rat)from rfl];exact vK 0 om
 have h1:ht 1≤1:=by rw [fD];omega
 refine PuM.intro Tryz.func6 rfl kr fun C b=>?_
 repeat(first|(refine A1 ⟨?_⟩;intros)|refine W4 mn ⟨?_⟩)
 refine Wtx (qJ zs hz) (Mc Ms) fun c=>?_
 repeat(refine A1 ⟨?_⟩;intros)
 refine Wtx (qJ zs hz) (Mc Ms) fun f=>?_
 repeat(refine A1 ⟨?_⟩;intros)
 refine Wtx (eF zs hz 4 om om) (Mc (Mc Ms)) fun j=>?_
 obtain⟨j,hj⟩:=j;simp only [];by_cases hj0:j=0
 ·repeat(refine A1 ⟨?_⟩;intros)
  refine Wtx (qJ zs hz) (Mc (Mc Ms)) fun xa=>?_
  repeat(refine A1 ⟨?_⟩;intros)
  refine Wtx (qJ zs hz) (Mc (Mc Ms)) fun xb=>?_
  repeat(refine A1 ⟨?_⟩;intros)
  refine Wtx (qJ zs hz) (Mc (Mc Ms)) fun xd=>?_
  repeat(refine A1 ⟨?_⟩;intros)
  refine Wtx (qJ zs hz) (Mc (Mc Ms)) fun xe=>?_
  repeat(refine A1 ⟨?_⟩;intros)
  exact fh () _ (aJ (RV.cellA rfl (Mc Ms) rfl rfl) (Le.ex ⟨⟨xa.1,xb.1,c.1,xd.1,xe.1,f.1⟩,⟨xa.2,xb.2,c.2,xd.2,xe.2,f.2⟩⟩ (Le.ag (by repeat(first|exact trivial|refine⟨?_,?_⟩|exact Le.refl _|exact mu|exact mv))))) (Mc (Mc Ms)) (LeL.refl _)
 ·by_cases hj1:j=1
  ·repeat(first|(refine A1 ⟨?_⟩;intros)|refine W4 mn ⟨?_⟩)
   exact fh () _ (aJ (RV.cellA rfl (Mc Ms) rfl rfl) (Le.ex ⟨⟨0,1,c.1,1,0,f.1⟩,⟨h0,h1,c.2,h1,h0,f.2⟩⟩ (Le.ag (by repeat(first|exact trivial|refine⟨?_,?_⟩|exact Le.refl _|exact mu|exact mv))))) (Mc (Mc Ms)) (LeL.refl _)
  ·by_cases hj2:j=2
   ·repeat(refine A1 ⟨?_⟩;intros)
    refine Wtx (qJ zs hz) (Mc (Mc Ms)) fun xb=>?_
    repeat(refine A1 ⟨?_⟩;intros)
    exact fh () _ (aJ (RV.cellA rfl (Mc Ms) rfl rfl) (Le.ex ⟨⟨1,xb.1,c.1,0,1,f.1⟩,⟨h1,xb.2,c.2,h0,h1,f.2⟩⟩ (Le.ag (by repeat(first|exact trivial|refine⟨?_,?_⟩|exact Le.refl _|exact mu|exact mv))))) (Mc (Mc Ms)) (LeL.refl _)
   ·repeat(refine A1 ⟨?_⟩;intros)
    exact fh () _ (aJ (RV.cellA rfl (Mc Ms) rfl rfl) (Le.ex ⟨⟨1,0,c.1,0,1,f.1⟩,⟨h1,h0,c.2,h0,h1,f.2⟩⟩ (Le.ag (by repeat(first|exact trivial|refine⟨?_,?_⟩|exact Le.refl _|exact mu|exact mv))))) (Mc (Mc Ms)) (LeL.refl _)
theorem C3 {m:M6 Rat}{L:Nat}(h:m.le L) (hL:L≤100000) (h0:m.det≠0):Pu Tryz.prog 39 [mq m] (Ab.tup [mf m,lit .nilIface]):=by
 have hd:=qA h om;have ho:=Ju (m:=m) ⟨Nat.le_trans h.a om,Nat.le_trans h.b om,Nat.le_trans h.c om,Nat.le_trans h.d om,Nat.le_trans h.e om,Nat.le_trans h.f om⟩;have hz:=l9 m.det;rw [show m.a*m.e-m.d*m.b=m.det from rfl]at hd;rw [decide_eq_false (fun e=>h0 (Rat.num_eq_zero.1 e))]at hz;refine Pi Tryz.func39 fun C=>?_
 repeat(first|(refine A1 ⟨?_⟩;intros)|refine W4 ho ⟨?_⟩|refine W4 hd ⟨?_⟩|refine W4 hz ⟨?_⟩)
 exact G3
def Own (T:TypeId) (sz n:Nat) (cs:List SV) (s:SV) (H:LH):Prop :=
 cs.length=n*sz∧((n=0∧s=lit (.slice none 0 0)∧H=[])∨
  ∃b c,n≤c∧c≤maxLen∧s=lit (.slice (some ⟨b,0,none⟩) n c)∧H=[(b,T,cs++List.replicate (c*sz-n*sz) top)])
theorem Own.nil (T:TypeId) (sz:Nat):Own T sz 0 [] (lit (.slice none 0 0)) []:=⟨by simp, .inl ⟨rfl,rfl,rfl⟩⟩
theorem az.tops {m:Mem}:∀(l:List Value),(∀v∈l,v.oneCell'=true)→az m (List.replicate l.length top) l
 | [],_=>trivial
 |v::l,h=>⟨⟨by unfold top;trivial,h v (by simp)⟩,az.tops l fun u hu=>h u (by simp [hu])⟩
theorem az.topL {m:Mem}{l:List Value}{k:Nat}(hk:l.length=k) (h:∀v∈l,v.oneCell'=true):az m (List.replicate k top) l:=hk▸az.tops l h
theorem dE {z:Array Value}{k:Nat}(h:z.toList.all (·.oneCell')=true):∀v∈(Builtin.zeroCells z k).toList,v.oneCell'=true:=by
 intro v hv;simp only [Builtin.zeroCells,Array.toList_map,Array.toList_range,List.mem_map,List.mem_range]at hv;obtain⟨i,hi,rfl⟩:=hv;have hp:0<z.size:=Nat.pos_of_ne_zero fun e=>by rw [e,Nat.mul_zero]at hi;omega
 have hlt:i%z.size<z.size:=Nat.mod_lt _ hp;rw [getElem!_pos z _ hlt];exact List.all_eq_true.1 h _ (by simp)
theorem az.split {m:Mem}:∀{cs ds:List SV}{l:List Value},az m (cs++ds) l→az m cs (l.take cs.length)∧az m ds (l.drop cs.length)
 | [],_,l,h=>⟨trivial,h⟩
 |_::_,_,[],h=>h.elim
 |_::_,_,_::_,h=>⟨⟨h.1,h.2.split.1⟩,h.2.split.2⟩
section
variable {P:Program}{C:Ctx}{n:Nat}{F:Fr}{H:LH}{ops:Array Oper}{K:Fr→LH→Prop}{rest:List Oper}{ty:TypeId}{pos:String}{aft:Array Edge}
theorem WPL.appOwn {T e:TypeId}{sz by_:Nat}{z:List SV}{g:Bool} [hS:TSl P T e] [hT:TY P e sz by_ z g]{d:Nat}{x y:Operand}{n0 b2 c2:Nat}{T':TypeId}{cs ds:List SV}{s:SV}{Hs Rs:LH}
  (hown:Own e sz n0 cs s Hs) (hx:ev F x=s) (hy:ev F y=lit (.slice (some ⟨b2,0,none⟩) 1 c2)) (hsp:Spl H Hs Rs) (hm:(b2,T',ds)∈Rs) (hds:ds.length=sz) (hpos:0<sz) (hl:n0≤1000000000) (hby:by_≤10000)
  (k:∀s' H',Own e sz (n0+1) (cs++ds) s' H'→WPL P C n ops rest K (upd F d s') (H'++Rs)) (hd:Nat.blt d n=true) :
  WPL P C n ops (⟨some d, .call ⟨.builtin .append,#[x,y],#[T,T]⟩,ty,pos,aft,none⟩::rest) K F H:=by
 unfold WPL;intro a w hs0 Q hq;have hs:=hs0.perm hsp.perm;refine wpList_plain rfl fun K' hK'=>?_
 obtain⟨hdef,hn,m0,h10,h20,h30,h40,h50⟩:=id hs
 have hp0:∀x,(ev F x).p m0 (a.eval x):=fun x=>by
  cases x with
  |tmp t=>exact h50 t
  |const v=>unfold ev lit;rfl
  |global g=>unfold ev lit;rfl
  |func f=>unfold ev lit;rfl
 have e0:=hp0 x;rw [hx]at e0;have e1:=hp0 y;rw [hy,aq]at e1;obtain⟨_,arr2,hb2,hall2⟩:=h20.2 _ (List.mem_append_right Hs hm);obtain⟨i,v,hi,hsz,hbyt,hz,hzl,hfl,hvs⟩:=hT.run_bytes;have hlen2:=hall2.length;simp only [Array.length_toList]at hlen2
 have hys:∀j u,arr2.toList[j]? = some u→w.cell? ((⟨b2,0,none⟩:Addr).add j)=some u:=fun j u hj=>by
  rw [aO,cu w b2 _ arr2 _ _ hb2];simpa using hj
 have hexec:execOp a.eval (⟨some d, .call ⟨.builtin .append,#[x,y],#[T,T]⟩,ty,pos,aft,none⟩:Oper)=(do let v←Builtin.append_ #[T,T] ty #[a.eval x,a.eval y];pure (.value v)):=by
  simp [execOp,resolve,invoke,builtin]
 have hmul:∀q,q≤1000000001→q*by_≤140737488355328:=fun q hq=>Nat.le_trans (Nat.mul_le_mul hq hby) (by decide)
 have get2:∀m,aU m w→HOk m w (Hs++Rs)→az m ds arr2.toList:=fun m _ h2=>by
  obtain⟨_,arr2',hb2',hall2'⟩:=h2.2 _ (List.mem_append_right Hs hm);rw [hb2]at hb2';simp only [Option.some.injEq,Obj.cells.injEq]at hb2';obtain⟨rfl,_⟩:=hb2';exact hall2'
 unfold Oper.wp;rw [hexec,e1];obtain⟨hcl,hcase⟩:=hown;rcases hcase with⟨rfl,rfl,rfl⟩|⟨b,c,hnc,hcm,rfl,rfl⟩
 ·rw [aq]at e0;have hcs:cs=[]:=List.eq_nil_of_length_eq_zero (by rw [hcl,Nat.zero_mul]);subst hcs;have hrun:=run_append_nil (P:=P) w T ty e i v hS.h hi hz ⟨b2,0,none⟩ 1 c2 arr2.toList (by rw [Array.length_toList,hlen2,hsz,hds,Nat.one_mul]) hys om om (by rw [hbyt];have:=hmul 1 om;omega);rw [e0];simp only [Sem.run_bind,hrun,Result.andThen_ok,Sem.run_pure];have hge:=grownCap_ge w 1 0 e;have hle:=grownCap_le_maxLen w 1 0 e (by simp only [maxLen];omega);have h:=k (lit (.slice (some ⟨w.heap.size,0,none⟩) 1 (grownCap w 1 0 e))) [(w.heap.size,e,([]++ds)++List.replicate (grownCap w 1 0 e*sz-1*sz) top)] ⟨by rw [List.nil_append,hds];omega, .inr ⟨_,_,hge,hle,rfl,by rw [Nat.zero_add]⟩⟩;unfold WPL at h;refine hK' _ _ (h _ _ (St.pushD (Nat.blt_eq.mp hd) hs fun m h1 h2 _=>?_) Q hq);simp only [Array.toList_append,List.toList_toArray,List.nil_append];refine(get2 m h1 h2).append (az.topL ?_ (dE hfl));rw [Array.length_toList,size_zeroCells,hvs,Nat.sub_mul]
 ·rw [aq]at e0;obtain⟨hmb,arr,hb,hall⟩:=h20.2 _ (List.mem_append_left Rs (List.mem_singleton.2 rfl));have hlen:=hall.length;simp only [List.length_append,List.length_replicate,hcl,Array.length_toList]at hlen;have hmono:n0*sz≤c*sz:=Nat.mul_le_mul_right _ hnc
  have getc:∀m,HOk m w ([(b,e,cs++List.replicate (c*sz-n0*sz) top)]++Rs)→az m (cs++List.replicate (c*sz-n0*sz) top) arr.toList:=fun m h2=>by
   obtain⟨_,arr',hb',hall'⟩:=h2.2 _ (List.mem_append_left Rs (List.mem_singleton.2 rfl));rw [hb]at hb';simp only [Option.some.injEq,Obj.cells.injEq]at hb';obtain⟨rfl,_⟩:=hb';exact hall'
  by_cases hroom:n0+1≤c
  ·have hm1:(n0+1)*sz≤c*sz:=Nat.mul_le_mul_right _ hroom;rw [Nat.succ_mul]at hm1;have hrun:=run_append_room (P:=P) w T ty e i hS.h hi b n0 c arr hb ⟨b2,0,none⟩ 1 c2 arr2.toList (by rw [Array.length_toList,hlen2,hsz,hds,Nat.one_mul]) hys hall2.flat hroom (by rw [hsz,Array.length_toList,hlen2,hds];omega);rw [e0];simp only [Sem.run_bind,hrun,Result.andThen_ok,Sem.run_pure];have h:=k (lit (.slice (some ⟨b,0,none⟩) (n0+1) c)) [(b,e,(cs++ds)++List.replicate (c*sz-(n0+1)*sz) top)] ⟨by rw [List.length_append,hcl,hds,Nat.succ_mul], .inr ⟨_,_,hroom,hcm,rfl,rfl⟩⟩;unfold WPL at h
   have hfin:az m0 ((cs++ds)++List.replicate (c*sz-(n0+1)*sz) top) (arr.toList.take (n0*i.size)++arr2.toList++arr.toList.drop (n0*i.size+arr2.toList.length)).toArray.toList:=by
    obtain⟨q1,q2⟩:=(getc m0 h20).split;rw [hcl]at q1 q2;rw [hsz,Array.length_toList,hlen2,hds,List.toList_toArray];refine(q1.append (get2 m0 h10 h20)).append (az.topL ?_ fun u hu=>?_)
    ·rw [List.length_drop,Array.length_toList,Nat.succ_mul];omega
    ·exact hall.flat u (List.mem_of_mem_drop hu)
   obtain⟨q1,q2,q3,q4⟩:=ik (w':=w.setRow b (arr.toList.take (n0*i.size)++arr2.toList++arr.toList.drop (n0*i.size+arr2.toList.length)).toArray) h10 h20 h30 h40 (.here Rs)
    (setRow_heap w b arr _ e _ hb) (fun j hj=>setRow_other w b j _ hj) rfl rfl ⟨rfl,rfl⟩ (by simp) hfin
   refine hK' _ _ (h (a.put (some d) (.slice (some ⟨b,0,none⟩) (n0+1) c)) _ ⟨hdef,by simpa [Act.put] using hn,m0,q1,q2,q3,q4,fun t=>?_⟩ Q hq);rw [dw (Nat.lt_of_lt_of_le (Nat.blt_eq.mp hd) hn)];unfold Ab.upd;by_cases ht:t=d
   ·subst ht;rw [if_pos rfl,Nat.beq_refl];exact aq.2 rfl
   ·rw [if_neg ht]
    have:Nat.beq t d=false:=by
     cases hbb:Nat.beq t d with
     |false=>rfl
     |true=>exact absurd (Nat.eq_of_beq_eq_true hbb) ht
    rw [this];exact h50 t
  ·have hxs:∀j u,(arr.toList.take (n0*sz))[j]? = some u→w.cell? ((⟨b,0,none⟩:Addr).add j)=some u:=fun j u hj=>by
    rw [aO,cu w b _ arr _ _ hb];rw [List.getElem?_take]at hj;split at hj
    ·simpa using hj
    ·cases hj
   have hrun:=run_append_grow (P:=P) w T ty e i v hS.h hi hz ⟨b,0,none⟩ n0 c (arr.toList.take (n0*sz)) (by rw [List.length_take,Array.length_toList,hsz];omega) hxs
    ⟨b2,0,none⟩ 1 c2 arr2.toList (by rw [Array.length_toList,hlen2,hsz,hds,Nat.one_mul]) hys om om (growslice_fits om (by rw [hbyt];exact hmul _ om))
   rw [e0];simp only [Sem.run_bind,hrun,Result.andThen_ok,Sem.run_pure];have hge:=grownCap_ge w (n0+1) c e;have hle:=grownCap_le_maxLen w (n0+1) c e (by simp only [maxLen];omega)
   have h:=k (lit (.slice (some ⟨w.heap.size,0,none⟩) (n0+1) (grownCap w (n0+1) c e))) [(w.heap.size,e,(cs++ds)++List.replicate (grownCap w (n0+1) c e*sz-(n0+1)*sz) top)]
    ⟨by rw [List.length_append,hcl,hds,Nat.succ_mul], .inr ⟨_,_,hge,hle,rfl,rfl⟩⟩
   unfold WPL at h
   have hst:=St.pushD (d:=d) (cs:=(cs++ds)++List.replicate (grownCap w (n0+1) c e*sz-(n0+1)*sz) top) (v := .slice (some ⟨w.heap.size,0,none⟩) (n0+1) (grownCap w (n0+1) c e)) (T:=e)
    (arr:=(arr.toList.take (n0*sz)).toArray++arr2.toList.toArray++Builtin.zeroCells v.cells (grownCap w (n0+1) c e-(n0+1))) (Nat.blt_eq.mp hd) hs fun m h1 h2 _=>?_
   ·refine hK' _ _ (h _ _ ?_ Q hq);exact hst.drop (.there _ (.here _))
   ·simp only [Array.toList_append,List.toList_toArray];obtain⟨q1,_⟩:=(getc m h2).split;rw [hcl]at q1;refine(q1.append (get2 m h1 h2)).append (az.topL ?_ (dE hfl));rw [Array.length_toList,size_zeroCells,hvs,Nat.sub_mul]
inductive Tk:LH→LH→LH→Prop
 |nil (R:LH):Tk R [] R
 |same (R:LH):Tk R R []
 |cons {b:Nat}{T:TypeId}{cs:List SV}{H H1 Hin R:LH}(h:ak b T cs H H1) (k:Tk H1 Hin R):Tk H ((b,T,cs)::Hin) R
 |skip (e:Nat×TypeId×List SV){H Hin R:LH}(k:Tk H Hin R):Tk (e::H) Hin (e::R)
theorem Tk.perm {H Hin R:LH}(h:Tk H Hin R):H.Perm (Hin++R):=by
 induction h with
 |nil=>exact List.Perm.refl _
 |same=>rw [List.append_nil]
 |cons h _ ih=>exact h.perm.trans (ih.cons _)
 |skip e _ ih=>exact(ih.cons e).trans List.perm_middle.symm
theorem Spl.app:∀(Hin R:LH),Spl (Hin++R) Hin R
 | [],R => .nil R
 |(_,_,_)::Hin,R => .cons (.here _) (Spl.app Hin R)
theorem WPL.perm {l:List Oper}{H':LH}(hp:H.Perm H') (k:WPL P C n ops l K F H'):WPL P C n ops l K F H:=by
 unfold WPL at *;exact fun a w hs=>k a w (hs.perm hp)
theorem WP.perm {c:Code}{H':LH}{Q:Exit→Fr→LH→Prop}(hp:H.Perm H') (k:WP P C n c Q F H'):WP P C n c Q F H:=by
 unfold WP at *;exact fun a w hs=>k a w (hs.perm hp)
theorem WfT {f:FuncId}{d:Nat}{l:List Operand}{tys:Array TypeId}{svs:List SV}{Hin Rs:LH}{R:SV→LH→Prop}(hc:PuH P f svs Hin R noX) (k:∀res H',R res H'→WPL P C n ops rest K (upd F d res) (Rs++H'))
  (ha:l.map (ev F)=svs:=by exact rfl) (hs:Tk H Hin Rs:=by(repeat(first|exact Tk.nil _|exact Tk.same _|(apply Tk.cons;(first|exact(ak.here _)|exact(ak.there _ (ak.here _))|exact(ak.there _ (ak.there _ (ak.here _)))|exact(ak.there _ (ak.there _ (ak.there _ (ak.here _))))|exact(ak.there _ (ak.there _ (ak.there _ (ak.there _ (ak.here _)))))|exact(ak.there _ (ak.there _ (ak.there _ (ak.there _ (ak.there _ (ak.here _))))))|exact(ak.there _ (ak.there _ (ak.there _ (ak.there _ (ak.there _ (ak.there _ (ak.here _)))))))|exact(ak.there _ (ak.there _ (ak.there _ (ak.there _ (ak.there _ (ak.there _ (ak.there _ (ak.here _))))))))|exact(ak.there _ (ak.there _ (ak.there _ (ak.there _ (ak.there _ (ak.there _ (ak.there _ (ak.there _ (ak.here _)))))))))|exact(ak.there _ (ak.there _ (ak.there _ (ak.there _ (ak.there _ (ak.there _ (ak.there _ (ak.there _ (ak.there _ (ak.here _))))))))))))|apply Tk.skip))) (hd:Nat.blt d n=true:=by exact rfl) :
  WPL P C n ops (⟨some d, .call ⟨.value (.func f),l.toArray,tys⟩,ty,pos,aft,none⟩::rest) K F H :=
 .perm hs.perm (.callH (s:=lit (.func (.func f) #[] #[])) (first:=[]) (caps:=[]) rfl hc (Spl.app _ _) (by rw [List.nil_append,List.append_nil];exact ha) hd (fun res H' h => .perm List.perm_append_comm (k res H' h)) fun _ _ h=>h.elim)
theorem WvT {x:Operand}{f:FuncId}{first caps:List SV}{d:Nat}{l:List Operand}{tys:Array TypeId}{svs:List SV}{Hin Rs:LH}{R:SV→LH→Prop}(hc:PuH P f svs Hin R noX) (k:∀res H',R res H'→WPL P C n ops rest K (upd F d res) (Rs++H'))
  (hx:ev F x=fnv f first caps:=by exact rfl) (ha:first++l.map (ev F)++caps=svs:=by exact rfl) (hs:Tk H Hin Rs:=by(repeat(first|exact Tk.nil _|exact Tk.same _|(apply Tk.cons;(first|exact(ak.here _)|exact(ak.there _ (ak.here _))|exact(ak.there _ (ak.there _ (ak.here _)))|exact(ak.there _ (ak.there _ (ak.there _ (ak.here _))))|exact(ak.there _ (ak.there _ (ak.there _ (ak.there _ (ak.here _)))))|exact(ak.there _ (ak.there _ (ak.there _ (ak.there _ (ak.there _ (ak.here _))))))|exact(ak.there _ (ak.there _ (ak.there _ (ak.there _ (ak.there _ (ak.there _ (ak.here _)))))))|exact(ak.there _ (ak.there _ (ak.there _ (ak.there _ (ak.there _ (ak.there _ (ak.there _ (ak.here _))))))))|exact(ak.there _ (ak.there _ (ak.there _ (ak.there _ (ak.there _ (ak.there _ (ak.there _ (ak.there _ (ak.here _)))))))))|exact(ak.there _ (ak.there _ (ak.there _ (ak.there _ (ak.there _ (ak.there _ (ak.there _ (ak.there _ (ak.there _ (ak.here _))))))))))))|apply Tk.skip))) (hd:Nat.blt d n=true:=by exact rfl) :
  WPL P C n ops (⟨some d, .call ⟨.value x,l.toArray,tys⟩,ty,pos,aft,none⟩::rest) K F H :=
 .perm hs.perm (.callH hx hc (Spl.app _ _) ha hd (fun res H' h => .perm List.perm_append_comm (k res H' h)) fun _ _ h=>h.elim)
theorem Dj {T e:TypeId}{sz by_:Nat}{z:List SV}{g:Bool} [hS:TSl P T e] [hT:TY P e sz by_ z g]{d:Nat}{x y:Operand}{n0 b2 c2:Nat}{T':TypeId}{cs ds:List SV}{s:SV}{Hs Rs:LH}
  (hown:Own e sz n0 cs s Hs) (hl:n0≤1000000000) (k:∀s' H',Own e sz (n0+1) (cs++ds) s' H'→WPL P C n ops rest K (upd F d s') (Rs++H'))
  (hx:ev F x=s:=by exact rfl) (hy:ev F y=lit (.slice (some ⟨b2,0,none⟩) 1 c2):=by exact rfl) (hsp:Tk H Hs Rs:=by(repeat(first|exact Tk.nil _|exact Tk.same _|(apply Tk.cons;(first|exact(ak.here _)|exact(ak.there _ (ak.here _))|exact(ak.there _ (ak.there _ (ak.here _)))|exact(ak.there _ (ak.there _ (ak.there _ (ak.here _))))|exact(ak.there _ (ak.there _ (ak.there _ (ak.there _ (ak.here _)))))|exact(ak.there _ (ak.there _ (ak.there _ (ak.there _ (ak.there _ (ak.here _))))))|exact(ak.there _ (ak.there _ (ak.there _ (ak.there _ (ak.there _ (ak.there _ (ak.here _)))))))|exact(ak.there _ (ak.there _ (ak.there _ (ak.there _ (ak.there _ (ak.there _ (ak.there _ (ak.here _))))))))|exact(ak.there _ (ak.there _ (ak.there _ (ak.there _ (ak.there _ (ak.there _ (ak.there _ (ak.there _ (ak.here _)))))))))|exact(ak.there _ (ak.there _ (ak.there _ (ak.there _ (ak.there _ (ak.there _ (ak.there _ (ak.there _ (ak.there _ (ak.here _))))))))))))|apply Tk.skip))) (hm:(b2,T',ds)∈Rs:=by(first|exact Ms|exact(Mc Ms)|exact(Mc (Mc Ms))|exact(Mc (Mc (Mc Ms)))|exact(Mc (Mc (Mc (Mc Ms))))|exact(Mc (Mc (Mc (Mc (Mc Ms)))))|exact(Mc (Mc (Mc (Mc (Mc (Mc Ms))))))|exact(Mc (Mc (Mc (Mc (Mc (Mc (Mc Ms)))))))|exact(Mc (Mc (Mc (Mc (Mc (Mc (Mc (Mc Ms))))))))|exact(Mc (Mc (Mc (Mc (Mc (Mc (Mc (Mc (Mc Ms))))))))))) (hds:ds.length=sz:=by exact rfl) (hpos:0<sz:=by decide) (hby:by_≤10000:=by decide)
  (hd:Nat.blt d n=true:=by exact rfl) :
  WPL P C n ops (⟨some d, .call ⟨.builtin .append,#[x,y],#[T,T]⟩,ty,pos,aft,none⟩::rest) K F H :=
 .perm hsp.perm (.appOwn hown hx hy (Spl.app _ _) hm hds hpos hl hby (fun s' H' h => .perm List.perm_append_comm (k s' H' h)) hd)
theorem Own.co {T:TypeId}{sz n0:Nat}{cs:List SV}{s:SV}{Hs:LH}(h:Own T sz n0 cs s Hs):CO s [s]:=by
 obtain⟨_,⟨_,rfl,_⟩|⟨_,_,_,_,rfl,_⟩⟩:=h <;> exact fX fun m v hv=>by rw [aq]at hv;subst hv;exact⟨rfl,rfl⟩
theorem aE {T e:TypeId}{sz n0:Nat}{cs:List SV}{s:SV}{Hs:LH}{x:Operand} [hS:TSl P T e] (h:Own e sz n0 cs s Hs) (hx:ev F x=s):OpV P (.call ⟨.builtin .len,#[x],#[T]⟩) ty F H (lit (.int .i64 n0)):=by
 obtain⟨_,⟨rfl,rfl,_⟩|⟨_,_,_,_,rfl,_⟩⟩:=h
 ·exact vc hx
 ·exact vc hx
end
theorem Jm {a b c:Rat}{L:Nat}(ha:ht a≤L) (hb:ht b≤L) (hc:ht c≤L):ht (ff a b)≤2*L+1∧ht (g3 a b c)≤3*L+2∧ht (g3 a b c)⁻¹≤3*L+3:=by
 have h1:=vJ a b;have h2:=vJ (ff a b) c;have h3:=kh (g3 a b c);have e:g3 a b c=ff (ff a b) c:=rfl;rw [←e]at h2;omega
set_option maxRecDepth 20000 in
theorem Ik (a b c:Rat){L:Nat}(hL:L≤100000) (ha:ht a≤L) (hb:ht b≤L) (hc:ht c≤L) (h:a≠0∨b≠0):Pu Tryz.prog 148 [fr a,fr b,fr c] (Ab.tup [lf (dV a b c).a (dV a b c).b (dV a b c).c,lit (.bool true)]):=by
 obtain⟨h1,h2,h3⟩:=Jm ha hb hc;have c1:=l9 a;have c2:=l9 b;have c3:=ou a b om om;have c4:=ou (ff a b) c om om;have c5:Pu Tryz.prog 54 [fr (ff (ff a b) c)] (fr (g3 a b c)⁻¹):=vE (g3 a b c) om;obtain⟨e1,e2,e3⟩:=iS (c:=c) h;have c6:=fun b0=>BQ b0 (g3 a b c)⁻¹ a b c om om om om
 rw [e1,e2,e3]at c6;generalize(g3 a b c)⁻¹=q at *;generalize ff a b=r1 at *;generalize ff r1 c=r2 at *;clear e1 e2 e3;by_cases h0:a.num=0
 ·have h9:b.num≠0:=fun e=>by
   rcases h with h|h
   ·exact h (Rat.num_eq_zero.1 h0)
   ·exact h (Rat.num_eq_zero.1 e)
  rw [decide_eq_true h0]at c1;rw [decide_eq_false h9]at c2;clear h0 h9 h;refine Pi Tryz.func148 fun C=>?_
  repeat(first|(refine AS ⟨?_⟩;intros)|(refine O1 ⟨?_⟩;intros)|(refine Wcx (c1) ?_)|(refine dH (c1) ?_)|(refine Wcx (c2) ?_)|(refine dH (c2) ?_))
  refine WdN 10 ?_;repeat(first|(refine A1 ⟨?_⟩;intros)|refine W4 c3 ⟨?_⟩|refine W4 c4 ⟨?_⟩|refine W4 c5 ⟨?_⟩)
  simp only [List.drop_succ_cons,List.drop_zero];refine WfT (c6 _) ?_;rintro _ _ ⟨rfl,rfl⟩;repeat(refine A1 ⟨?_⟩;intros)
  exact G3
 ·rw [decide_eq_false h0]at c1;clear h0 h;refine Pi Tryz.func148 fun C=>?_
  repeat(first|(refine AS ⟨?_⟩;intros)|(refine O1 ⟨?_⟩;intros)|(refine Wcx (c1) ?_)|(refine dH (c1) ?_))
  refine WdN 10 ?_;repeat(first|(refine A1 ⟨?_⟩;intros)|refine W4 c3 ⟨?_⟩|refine W4 c4 ⟨?_⟩|refine W4 c5 ⟨?_⟩)
  simp only [List.drop_succ_cons,List.drop_zero];refine WfT (c6 _) ?_;rintro _ _ ⟨rfl,rfl⟩;repeat(refine A1 ⟨?_⟩;intros)
  exact G3
theorem Hh {a b c:Rat}{L:Nat}(ha:ht a≤L) (hb:ht b≤L) (hc:ht c≤L):(dV a b c).le (4*L+4):=by
 obtain⟨_,_,h3⟩:=Jm ha hb hc;have k1:=ae a (g3 a b c)⁻¹;have k2:=ae b (g3 a b c)⁻¹;have k3:=ae c (g3 a b c)⁻¹;have n1:=bQ (a*(g3 a b c)⁻¹);have n2:=bQ (b*(g3 a b c)⁻¹);have n3:=bQ (c*(g3 a b c)⁻¹);unfold dV;constructor <;> simp only <;> omega
theorem Li.im_le {m:M6 Rat}{l:Li}{L:Nat}(hm:m.le L) (h:l.le L) (h1:1≤L):(l.im m).le (200*L+200):=by
 have hi:=M6.inv_le hm;obtain⟨i1,i2,i3,i4,i5,i6⟩:=hi;obtain⟨ha,hb,hc⟩:=h;have e1:=cp l.a;have e2:=cp l.b;have e3:=cp l.c;have k1:=ae (l.a:Rat) m.inv.a;have k2:=ae (l.b:Rat) m.inv.d;have k3:=ae (l.a:Rat) m.inv.b;have k4:=ae (l.b:Rat) m.inv.e;have k5:=ae (l.a:Rat) m.inv.c;have k6:=ae (l.b:Rat) m.inv.f;have j1:=aI ((l.a:Rat)*m.inv.a) (l.b*m.inv.d);have j2:=aI ((l.a:Rat)*m.inv.b) (l.b*m.inv.e);have j3:=aI ((l.a:Rat)*m.inv.c) (l.b*m.inv.f);have j4:=aI ((l.a:Rat)*m.inv.c+l.b*m.inv.f) l.c;unfold Li.im;have:=Hh (a:=l.a*m.inv.a+l.b*m.inv.d) (b:=l.a*m.inv.b+l.b*m.inv.e) (c:=l.a*m.inv.c+l.b*m.inv.f+l.c) (L:=46*L+48) om om om;exact⟨Nat.le_trans this.a om,Nat.le_trans this.b om,Nat.le_trans this.c om⟩
theorem Im {l:Li}(hl:l.ok) (h:l.le 100000):Pu Tryz.prog 145 [lq l] (Ab.tup [lf l.a l.b l.c,lit (.bool true)]):=by
 obtain⟨ha,hb,hc⟩:=h;have e1:=cp l.a;have e2:=cp l.b;have e3:=cp l.c;have n1:=kQ l.a om;have n2:=kQ l.b om;have n3:=kQ l.c om;have w1:=qD l.a om;have w2:=qD l.b om;have w3:=qD l.c om;have z1:=l9 (l.a:Rat);have z2:=l9 (l.b:Rat);rw [Rat.num_intCast]at z1 z2;have hg1:=vJ (l.a:Rat) (l.b:Rat);have g1:=ou (l.a:Rat) (l.b:Rat) om om;have g2:=ou (ff l.a l.b) (l.c:Rat) om om
 have hg:ff (ff l.a l.b) l.c=1:=by
  rw [eQ,show((Nat.gcd l.a.natAbs l.b.natAbs:Nat):Rat)=(((Nat.gcd l.a.natAbs l.b.natAbs:Nat):Int):Rat)from rfl,eQ,Int.natAbs_natCast,hl.1];rfl
 rw [hg]at g2;generalize ff (l.a:Rat) (l.b:Rat)=G at *;have f1:Pu Tryz.prog 73 [lit (.int .i64 1)] (fr 1):=lP 1 om om;have q:=CL 1 1 (by decide +kernel) (by decide +kernel);rw [decide_eq_true rfl]at q;have hne:=hl.2;clear hg hg1 e1 e2 e3 ha hb hc hl;by_cases h0:l.a=0
 ·have h9:l.b≠0:=by
   rcases hne with h|h
   ·exact absurd h0 h
   ·exact h
  rw [decide_eq_true h0]at z1;rw [decide_eq_false h9]at z2;clear hne h9 h0;refine Pi Tryz.func145 fun C=>?_
  repeat(first|(refine A1 ⟨?_⟩;intros)|refine W4 n1 ⟨?_⟩|refine W4 n2 ⟨?_⟩|refine W4 n3 ⟨?_⟩|refine W4 w1 ⟨?_⟩|refine W4 w2 ⟨?_⟩|refine W4 w3 ⟨?_⟩|refine W4 z1 ⟨?_⟩|refine W4 z2 ⟨?_⟩|refine W4 g1 ⟨?_⟩|refine W4 g2 ⟨?_⟩|refine W4 f1 ⟨?_⟩|refine W4 q ⟨?_⟩)
  exact G3
 ·rw [decide_eq_false h0]at z1;clear hne h0 z2;refine Pi Tryz.func145 fun C=>?_
  repeat(first|(refine A1 ⟨?_⟩;intros)|refine W4 n1 ⟨?_⟩|refine W4 n2 ⟨?_⟩|refine W4 n3 ⟨?_⟩|refine W4 w1 ⟨?_⟩|refine W4 w2 ⟨?_⟩|refine W4 w3 ⟨?_⟩|refine W4 z1 ⟨?_⟩|refine W4 g1 ⟨?_⟩|refine W4 g2 ⟨?_⟩|refine W4 f1 ⟨?_⟩|refine W4 q ⟨?_⟩)
  exact G3
theorem Gp {m:M6 Rat}{l:Li}{L:Nat}(hm:m.le L) (h:l.le L) (h1:1≤L) (hL:L≤400) (hdet:m.det≠0) (hl:l.ok):Pu Tryz.prog 92 [mf m,lf l.a l.b l.c] (lf (l.im m).a (l.im m).b (l.im m).c):=by
 have c1:=zw hm om;obtain⟨i1,i2,i3,i4,i5,i6⟩:=M6.inv_le hm;obtain⟨ha,hb,hc⟩:=h;have e1:=cp l.a;have e2:=cp l.b;have e3:=cp l.c;have k1:=ae (l.a:Rat) m.inv.a;have k2:=ae (l.b:Rat) m.inv.d;have k3:=ae (l.a:Rat) m.inv.b;have k4:=ae (l.b:Rat) m.inv.e;have k5:=ae (l.a:Rat) m.inv.c;have k6:=ae (l.b:Rat) m.inv.f;have j1:=aI ((l.a:Rat)*m.inv.a) (l.b*m.inv.d);have j2:=aI ((l.a:Rat)*m.inv.b) (l.b*m.inv.e);have j3:=aI ((l.a:Rat)*m.inv.c) (l.b*m.inv.f);have j4:=aI ((l.a:Rat)*m.inv.c+l.b*m.inv.f) l.c;have c2:=gn l.a l.b l.c;have c3:=nU l.a l.b m.inv.a m.inv.d om om om om;have c4:=nU l.a l.b m.inv.b m.inv.e om om om om;have c5:=pd l.a l.b l.c m.inv.c m.inv.f om om om om om;have c6:=Ik (l.a*m.inv.a+l.b*m.inv.d) (l.a*m.inv.b+l.b*m.inv.e) (l.a*m.inv.c+l.b*m.inv.f+l.c) (L:=46*L+48) om om om om (Li.im_ne hdet hl);rw [show dV (l.a*m.inv.a+l.b*m.inv.d) (l.a*m.inv.b+l.b*m.inv.e) (l.a*m.inv.c+l.b*m.inv.f+l.c)=l.im m from rfl]at c6;generalize l.im m=l' at *;clear k1 k2 k3 k4 k5 k6 j1 j2 j3 j4 e1 e2 e3 i1 i2 i3 i4 i5 i6 ha hb hc;refine Pi Tryz.func92 fun C=>?_
 repeat(first|(refine A1 ⟨?_⟩;intros)|refine W4 c1 ⟨?_⟩|refine W4 c2 ⟨?_⟩|refine W4 c3 ⟨?_⟩|refine W4 c4 ⟨?_⟩|refine W4 c5 ⟨?_⟩|refine W4 c6 ⟨?_⟩)
 exact G1
abbrev fe (ro:Option Nat):Fence:={fn:=fun _=>True,depth:=none,alive:=false,round:=ro}
theorem sD {ro:Option Nat}{n:Nat}{P:Program}{f:FuncId}{args:Array Value}{w:World}{R:Ending→World→Prop}(h:Calls P f args w R):CallsIn (fe ro) n P f args w R:=callsIn_wide.2 h
theorem BX {ro:Option Nat}{n:Nat}{P:Program}{row:String}{args:Array Value}{w:World}{R:Value→World→Prop}(h:Rows P row args w R):RowsIn (fe ro) n P row args w R :=
 fun c cs _=>let⟨v,w',r,s⟩:=h c cs;⟨v,w',r,stepsIn_wide.2 s⟩
def fu:Op→Bool
 | .defer _=>true
 |_=>false
theorem tE {o:Oper}(h:(!fu o.op)=true):∀c,o.op≠ .defer c:=fun c e=>by rw [e]at h;cases h
theorem up1 {ro:Option Nat}{d:Nat}{P:Program}{o:Oper}{a:Act}{w:World}{K:Act→World→Prop}{Q:Exit→Act→World→Prop}(hd:(!fu o.op)=true) (h:o.wp P a w K Q):o.wpIn (fe ro) d P a w K Q:=by
 refine⟨fun _ _=>trivial,?_⟩;rw [Oper.semAt_eq _ _ _ (tE hd)];unfold Oper.wp at h;generalize(execOp a.eval o).run P w=r at *;cases r with
 |ok x w' =>
  cases x with
  |value v=>exact h
  |skip=>exact h
  |defer d=>exact h
  |enter f args=>exact⟨(fun e=>by cases e),sD h⟩
  |row r args=>exact⟨(fun e=>by cases e),BX h⟩
  |_=>exact h.elim
 |halt x w' =>
  cases x with
  |panic v=>exact h
  |_=>exact h.elim
theorem upL {ro:Option Nat}{d:Nat}{P:Program}{ops:Array Oper}{Q:Exit→Act→World→Prop}(hq:∀a w,¬Q .outgrown a w):∀(l:List Oper) (a:Act) (w:World),(l.all fun o => !fu o.op)=true→wpList P ops Q l a w→wpListIn (fe ro) d P ops Q l a w
 | [],a,w,_,h=>h
 |o::l,a,w,hd,h=>by
  rw [List.all_cons,Bool.and_eq_true]at hd;unfold wpList at h;unfold wpListIn;split
  ·rename_i hw;rw [if_pos hw]at h;rcases h with h|⟨_,a0,w0,h0⟩
   ·exact Oper.wpIn_mono (fun a w=>upL hq l a w hd.2) (up1 hd.1 h)
   ·exact(hq _ _ h0).elim
  ·rename_i hw;rw [if_neg hw]at h;exact⟨fun _ _=>trivial,upL hq l _ w hd.2 h⟩
section
variable {P:Program}{C:Ctx}{n:Nat}{Q:Exit→Fr→LH→Prop}{F:Fr}{H:LH}{ro:Option Nat}
attribute [local semireducible] WP WPL dW iM
def WPX (ro:Option Nat) (P:Program) (C:Ctx) (n:Nat) (c:Code) (Q:Exit→Fr→LH→Prop) (F:Fr) (H:LH):Prop:=∀a w,St C n F H a w→∀d,c.wpIn (fe ro) d P (g8 C n Q) a w
theorem WPX.le {c:Code}{F':Fr}(k:LeF F F') (h:WPX ro P C n c Q F' H):WPX ro P C n c Q F H:=fun a w hs=>h a w (hs.le k)
theorem WPX.seq {x y:Code}(h:WPX ro P C n x (dW (WPX ro P C n y Q) Q) F H):WPX ro P C n (.seq x y) Q F H:=by
 intro a w hs d;refine wpIn_seq (wpIn_mono (h a w hs d) ?_);rintro e a' w' (⟨F',H',hs',hq⟩|⟨ch,rfl,hp⟩)
 ·cases e with
  |normal=>exact hq a' w' hs' d
  |_=>exact .inl ⟨F',H',hs',hq⟩
 ·exact .inr ⟨ch,rfl,hp⟩
theorem WPX.block {id:Nat}{c:Code}(h:WPX ro P C n c (iM id Q) F H):WPX ro P C n (.block id c) Q F H:=by
 intro a w hs d;refine wpIn_block (wpIn_mono (h a w hs d) ?_);rintro e a' w' (⟨F',H',hs',hq⟩|⟨ch,rfl,hp⟩)
 ·cases e with
  |exit id' =>
   simp only [iM]at hq;simp only [Exit.inBlock];cases hb:Nat.beq id' id with
   |true=>rw [hb]at hq;rw [if_pos (Nat.eq_of_beq_eq_true hb)];exact .inl ⟨F',H',hs',hq⟩
   |false=>rw [hb]at hq;rw [if_neg (fun h=>by rw [h,Nat.beq_refl]at hb;cases hb)];exact .inl ⟨F',H',hs',hq⟩
  |_=>exact .inl ⟨F',H',hs',hq⟩
 ·exact .inr ⟨ch,rfl,hp⟩
theorem WPX.exit {id:Nat}(h:Q (.exit id) F H):WPX ro P C n (.exit id) Q F H:=fun _ _ hs _=>wpIn_exit (.mk hs h)
theorem WPX.reg {id:Nat}{l:List Oper}(h:WPL P C n l.toArray l (fun F H=>Q .normal F H) F H) (hd:(l.all fun o => !fu o.op)=true:=by exact rfl):WPX ro P C n (.region id l.toArray false) Q F H:=by
 intro a w hs d;have h1:=h a w hs (fun e a w=>e≠ .outgrown∧g8 C n Q e a w) ⟨fun _ _ _ _ hs hq=>⟨(by intro e;cases e), .mk hs hq⟩,fun ch _ _ hp=>⟨(by intro e;cases e), .inr ⟨ch,rfl,hp⟩⟩⟩;exact wpIn_mono (wpIn_region_lit (upL (fun a w h=>h.1 rfl) l a w hd h1)) fun e a w h=>h.2
theorem aU.putObj {m:Mem}{w:World}{l:Nat}{o:Obj}(h:aU m w) (hl:m l=none):aU m (w.putObj l o) :=
 ⟨fun b x hb=>by
  have hne:b≠l:=fun e=>by rw [e,hl]at hb;cases hb
  rw [World.putObj_heap_other hne];exact h b x hb,h.base⟩
theorem HOk.putObj {m:Mem}{w:World}{l:Nat}{o:Obj}(h:HOk m w H) (hl:∀e∈H,e.1≠l):HOk m (w.putObj l o) H :=
 ⟨h.1,fun e he=>by
  obtain⟨h1,arr,h2,h3⟩:=h.2 e he;exact⟨h1,arr,by rw [World.putObj_heap_other (hl e he)];exact h2,h3⟩⟩
theorem HOk.ne_loop {m:Mem}{w:World}{l:Nat}{r:Loop}(h:HOk m w H) (hl:w.heap[l]? = some (.loop r)):∀e∈H,e.1≠l:=fun e he hel=>by
 obtain⟨_,arr,h2,_⟩:=h.2 e he;rw [hel,hl]at h2;cases h2
theorem iD {w:World}{l:Nat}{o:Obj}(h:w.heap[l]? = some o):l<w.heap.size:=(Array.getElem?_eq_some_iff.1 h).1
theorem Rel.putL {m:Mem}{w:World}{l:Nat}{o:Obj}:Rel [l] m w m (w.putObj l o) :=
 ⟨Mem.le_refl m,fun _ _ _=>rfl,rfl,rfl,⟨rfl,Nat.le_refl _⟩,by rw [World.putObj_size];exact Nat.le_refl _,fun b _ hn=>World.putObj_heap_other (fun e=>hn (by rw [e];exact List.mem_singleton.2 rfl))⟩
theorem Rel.around {ks:List Nat}{m m':Mem}{w w':World}{l:Nat}{o o1:Obj}(h:Rel ks m (w.putObj l o1) m' w') (hl:w.heap[l]? = some o):Rel ks m w m' (w'.putObj l o):=by
 have hs:w.heap.size≤w'.heap.size:=by have:=h.size;rwa [World.putObj_size]at this
 refine⟨h.le,fun b hb hn=>h.old b (by rwa [World.putObj_size]) hn,h.os,h.tape,h.output,by rw [World.putObj_size];exact hs,fun b hb hn=>?_⟩;by_cases e:b=l
 ·subst e;rw [World.putObj_heap_same om,hl]
 ·rw [World.putObj_heap_other e];have:=h.block b (by rwa [World.putObj_size]) hn;rwa [World.putObj_heap_other e]at this
theorem St.putLoop {a:Act}{w1:World}{l:Nat}{r:Loop}{o:Obj}(h:St C n F H a w1) (hm:C.m l=none) (hl:C.w.heap[l]? = some (.loop r)) (hk:l∉C.ks):St {C with w:=C.w.putObj l o} n F H a (w1.putObj l o):=by
 obtain⟨hdef,hn,m,h1,h2,h3,h4,h5⟩:=h;have hlt:=iD hl;have hl1:w1.heap[l]? = some (.loop r):=(h3.block l hlt hk).trans hl;have hml:m l=none:=(h3.old l hlt hk).trans hm;refine⟨hdef,hn,m,h1.putObj hml,h2.putObj (h2.ne_loop hl1),⟨h3.le,fun b hb hn=>h3.old b (by rwa [World.putObj_size]at hb) hn,h3.os,h3.tape,h3.output,by rw [World.putObj_size,World.putObj_size];exact h3.size,fun b hb hn=>?_⟩,fun e he=>by rw [World.putObj_size];exact h4 e he,h5⟩;by_cases e:b=l
 ·subst e;rw [World.putObj_heap_same (iD hl1),World.putObj_heap_same hlt]
 ·rw [World.putObj_heap_other e,World.putObj_heap_other e];exact h3.block b (by rwa [World.putObj_size]at hb) hn
def Dy (F:Fr):List (Nat×SV)→Fr
 | []=>F
 |(d,s)::r=>Dy (upd F d s) r
theorem A6 {m:Mem}:∀(l:List (Nat×SV)) (ps:List (Tmp×Value)) (F:Fr) (tmps:Array Value),l.map (·.1)=ps.map (·.1)→bn m (l.map (·.2)) (ps.map (·.2))→(∀e∈l,e.1<tmps.size)→(∀t,(F t).p m (tmps.getD t undef))→
  ∀t,(Dy F l t).p m ((ps.foldl (fun t (p,v)=>t.setIfInBounds p v) tmps).getD t undef)
 | [],[],F,tmps,_,_,_,h=>h
 |(d,s)::l,(p,v)::ps,F,tmps,he,ha,hl,h=>by
  simp only [List.map_cons,List.cons.injEq]at he;obtain⟨rfl,he⟩:=he;refine A6 l ps (upd F d s) (tmps.setIfInBounds d v) he ha.2 (fun e h=>by rw [Array.size_setIfInBounds];exact hl e (Mc h)) fun t=>?_
  have hd:=hl (d,s) Ms;by_cases ht:t=d
  ·subst ht;rw [aF];simpa [Array.getD,hd] using ha.1
  ·rw [av ht];have:=h t;simpa [Array.getD_eq_getD_getElem?,Array.getElem?_setIfInBounds_ne (Ne.symm ht)] using this
 | [],_::_,_,_,he,_,_,_=>by cases he
 |_::_,[],_,_,he,_,_,_=>by cases he
end
end Go.Ab
