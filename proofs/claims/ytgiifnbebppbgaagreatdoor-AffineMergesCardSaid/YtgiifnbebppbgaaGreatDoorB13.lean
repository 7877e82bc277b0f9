/- Texts laid one behind the other: Tape, AffC, Row, LnC, Fld. -/
import Derived.Test.YtgiifnbebppbgaaGreatDoorB03
import Derived.Test.YtgiifnbebppbgaaGreatDoorB12
import Derived.Test.YtgiifnbebppbgaaGreatDoorB11
import Derived.Test.YtgiifnbebppbgaaGreatDoorB05
import Derived.Laws.AppendOwn
set_option linter.unusedSectionVars false
set_option linter.unusedVariables false
set_option linter.unusedSimpArgs false
namespace Go.Ab
open Go.Proofs
variable [Base]
abbrev tapeC (zs:List Int):List SV:=[nsl .i64 zs,ex fun k:{k:Nat // k≤zs.length}=>lit (.int .i64 (k.1:Int))]
section
variable {P:Program}{F:Fr}{H:LH}
variable {C:Ctx}{n:Nat}{ops:Array Oper}{K:Fr→LH→Prop}{rest:List Oper}{ty:TypeId}{pos:String}{aft:Array Edge}
theorem Wtx {d:Nat}{f:FuncId}{l:List Operand}{tys:Array TypeId}{T:TypeId}{b:Nat}{args:Nat→List SV}{cs:List SV}{α:Type}{res:α→SV}(hc:PuM P f T args cs (fun _:Unit=>cs) (fun _=>ex res)) (hm:(b,T,cs)∈H) (k:∀x,WPL P C n ops rest K (upd F d (res x)) H)
  (ha:l.map (ev F)=args b:=by exact rfl) (hd:Nat.blt d n=true:=by exact rfl):WPL P C n ops (⟨some d, .call ⟨.value (.func f),l.toArray,tys⟩,ty,pos,aft,none⟩::rest) K F H :=
 WPL.val (ov_callT hc ha hm) hd (WPL.exd (d:=d) upd_eq fun x=>by
  have e:upd (upd F d (ex res)) d (res x)=upd F d (res x):=by
   funext t
   by_cases h:t=d
   ·subst h;rw [upd_eq,upd_eq]
   ·rw [upd_ne h,upd_ne h,upd_ne h]
  rw [e];exact k x)
theorem endNwR {rs:Array ResultVar}{T:TypeId}{cs:List SV}(b:Nat) (cs0:List SV) (h:Ends P rs.toList (lit (.pointer (some ⟨b,0,none⟩))) F H) (hm:(b,T,cs0)∈H) (hl:LeL cs0 cs):endNw P rs T cs .ret F H:=⟨b,cs0,h,hm,hl⟩
theorem endMR {rs:Array ResultVar}{α:Type}{b:Nat}{T:TypeId}{cs':α→List SV}{res:α→SV}(x:α) (cs:List SV) (h:Ends P rs.toList (res x) F H) (hm:(b,T,cs)∈H) (hl:LeL cs (cs' x)):endM P rs b T cs' res .ret F H:=⟨x,h,cs,hm,hl⟩
theorem All2.exI {α:Type}{m:Mem}{f:α→SV}:∀{cs:List SV}{vs:List Value}(i:Nat),All2 m cs vs→cs[i]? = some (ex f)→∃x,All2 m (cs.set i (f x)) vs
 | [],_,i,_,h=>by simp at h
 |_::_,[],_,h,_=>h.elim
 |s::cs,v::vs,0,h,hi=>by
  simp only [List.getElem?_cons_zero,Option.some.injEq]at hi
  subst hi
  have h1:=h.1.1
  unfold ex at h1
  obtain⟨x,hx⟩:=h1
  exact⟨x,⟨hx,h.1.2⟩,h.2⟩
 |s::cs,v::vs,i+1,h,hi=>by
  obtain⟨x,hx⟩:=All2.exI i h.2 (by simpa using hi)
  exact⟨x,h.1,hx⟩
theorem WP.exH {C:Ctx}{n:Nat}{Q:Exit→Fr→LH→Prop}{α:Type}{f:α→SV}{c:Code}{b:Nat}{T:TypeId}{cs:List SV}{H':α→LH}(i:Nat) (hi:cs[i]? = some (ex f)) (hu:∀x,HUpd b T cs (cs.set i (f x)) H (H' x)) (x0:α)
  (k:∀x,WP P C n c Q F (H' x)):WP P C n c Q F H:=by
 unfold WP at *
 rintro a w ⟨hdef,hn,m,h1,h2,h3,h4,h5⟩
 obtain⟨g1,arr,g2,g3⟩:=h2.2 _ (hu x0).mem
 obtain⟨x,hx⟩:=g3.exI i hi
 refine k x a w ⟨hdef,hn,m,h1,⟨(hu x).keys▸h2.1,fun e he=>?_⟩,h3,fun e he=>?_,h5⟩
 ·rcases(hu x).mem' h2.1 e he with rfl|⟨he',_⟩
  ·exact⟨g1,arr,g2,hx⟩
  ·exact h2.2 e he'
 ·have:e.1∈(H' x).map (·.1):=List.mem_map.2 ⟨e,he,rfl⟩
  rw [(hu x).keys]at this
  obtain⟨e',he',hk'⟩:=List.mem_map.1 this
  exact hk'▸h4 e' he'
end
theorem new_pu (zs:List Int) (hz:zs.length≤9223372036854775807):PuN Tryz.prog 7 85 [nsl .i64 zs] (tapeC (zs.take (min zs.length 400))):=by
 obtain⟨k,hk⟩:∃k,k=min zs.length 400:=⟨_,rfl⟩
 rw [←hk]
 by_cases h:zs.length≤400
 ·have hk:k=zs.length:=by omega
  subst hk
  refine PuN.intro Tryz.func7 rfl (by kernel_rfl) fun C=>?_
  repeat(refine A1 ⟨?_⟩;intros)
  refine Wo (ov_sliceN (i:=0) (j:=zs.length) rfl (fun _ h=>by cases h) (fun _=>rfl) (fun y h=>⟨_,_,by cases h;exact rfl,rfl⟩) (fun h=>by cases h) (by omega) (by omega) rfl) ?_
  repeat(refine A1 ⟨?_⟩;intros)
  exact endNwR _ _ (end1 (RV.tmp rfl) (Le.refl _)) List.mem_cons_self ⟨Le.refl _,Le.ex ⟨0,by simp⟩ (Le.refl _),trivial⟩
 ·have hk:k=400:=by omega
  subst hk
  refine PuN.intro Tryz.func7 rfl (by kernel_rfl) fun C=>?_
  repeat(refine A1 ⟨?_⟩;intros)
  refine Wo (ov_sliceN (i:=0) (j:=400) rfl (fun _ h=>by cases h) (fun _=>rfl) (fun y h=>⟨_,_,by cases h;exact rfl,rfl⟩) (fun h=>by cases h) (by omega) (by omega) rfl) ?_
  repeat(refine A1 ⟨?_⟩;intros)
  exact endNwR _ _ (end1 (RV.tmp rfl) (Le.refl _)) List.mem_cons_self ⟨Le.refl _,Le.ex ⟨0,by simp⟩ (Le.refl _),trivial⟩
abbrev PuT (f:FuncId) (zs:List Int) (args:List SV) (res:SV):Prop:=PuM Tryz.prog f 85 (fun b=>lit (.pointer (some ⟨b,0,none⟩))::args) (tapeC zs) (fun _:Unit=>tapeC zs) (fun _=>res)
abbrev below (n:Nat):SV:=ex fun k:{k:Nat // k<n}=>lit (.int .i64 (k.1:Int))
theorem next_pu (zs:List Int) (hz:zs.length≤400) (n:Nat) (hn:0<n) (hn':n≤1000000000):PuT 33 zs [lit (.int .i64 n)] (below n):=by
 refine PuM.intro Tryz.func33 rfl (by kernel_rfl) fun C b=>?_
 refine WP.exH 1 rfl (fun x=>HUpd.here _) ⟨0,by omega⟩ fun x=>?_
 obtain⟨k,hk⟩:=x
 simp only [tapeC,List.set_cons_succ,List.set_cons_zero]
 by_cases hkl:k<zs.length
 ·have m1:=Int.tmod_lt_of_pos (zs.getD k 0) (show(0:Int)<n by omega)
  have m2:=Int.lt_tmod_of_pos (zs.getD k 0) (show(0:Int)<n by omega)
  repeat(refine A1 ⟨?_⟩;intros)
  generalize(zs.getD k 0).tmod (n:Int)=r at *
  refine WPd (fun h=>?_) (fun h=>?_)
  ·repeat(refine A1 ⟨?_⟩;intros)
   exact endMR () _ (end1 (RV.tmp rfl) (Le.ex ⟨(r+n).toNat,by omega⟩ (Le.int (by simp only;omega)))) List.mem_cons_self ⟨Le.refl _,Le.ex ⟨k+1,by omega⟩ (Le.refl _),trivial⟩
  ·repeat(refine A1 ⟨?_⟩;intros)
   exact endMR () _ (end1 (RV.tmp rfl) (Le.ex ⟨r.toNat,by omega⟩ (Le.int (by simp only;omega)))) List.mem_cons_self ⟨Le.refl _,Le.ex ⟨k+1,by omega⟩ (Le.refl _),trivial⟩
 ·repeat(refine A1 ⟨?_⟩;intros)
  exact endMR () _ (end1 (RV.tmp rfl) (Le.ex ⟨0,hn⟩ (Le.refl _))) List.mem_cons_self ⟨Le.refl _,Le.ex ⟨k,hk⟩ (Le.refl _),trivial⟩
abbrev smallR:SV:=ex fun x:{x:Rat // ht x≤1}=>rq x.1
theorem ht_mkz (z:Int) (d:Nat) (hz:z.natAbs<4294967296) (hd:d<4294967296):ht (mkRat z d)≤1:=by
 have h:=ht_mk z d
 have h1:il z≤1:=len_le (k:=1) (by simpa using hz)
 have h2:=len_le (n:=d) (k:=1) (by simpa using hd)
 omega
theorem ht_int (z:Int) (h:z.natAbs<4294967296):ht (z:Rat)≤1:=by
 unfold ht
 rw [Rat.num_intCast,Rat.den_intCast,dgs_one]
 have:il z≤1:=len_le (k:=1) (by simpa using h)
 simp;omega
theorem tq_pu (zs:List Int) (hz:zs.length≤400):PuT 32 zs [] smallR:=by
 refine PuM.intro Tryz.func32 rfl (by kernel_rfl) fun C b=>?_
 repeat(refine A1 ⟨?_⟩;intros)
 refine Wtx (next_pu zs hz 9 (by omega) (by omega)) (List.mem_cons_of_mem _ List.mem_cons_self) fun k=>?_
 obtain⟨k,hk⟩:=k
 simp only []
 repeat(refine A1 ⟨?_⟩;intros)
 refine Wtx (next_pu zs hz 6 (by omega) (by omega)) (List.mem_cons_of_mem _ List.mem_cons_self) fun j=>?_
 obtain⟨j,hj⟩:=j
 simp only []
 have fin:∀(x:Rat),ht x≤1→Le (ag [lit (.bool (decide (x.num<0))),nat x.num.natAbs,dg (dden x.den)]) smallR:=fun x hx=>Le.ex ⟨x,hx⟩ (Le.refl _)
 by_cases hj0:j=0
 ·have hp:=rpart_pu (2*((k:Int)-4)+1) 2 (by omega) (by omega) (by omega) (by omega)
  repeat(first|(refine A1 ⟨?_⟩;intros)|refine W4 hp ⟨?_⟩)
  exact endMR () _ (end1 (RV.cellA rfl List.mem_cons_self rfl rfl) (fin _ (ht_mkz _ _ (by omega) (by omega)))) (List.mem_cons_of_mem _ List.mem_cons_self) (LeL.refl _)
 ·by_cases hj1:j=1
  ·have hp:=rpart_pu (3*((k:Int)-4)+1) 3 (by omega) (by omega) (by omega) (by omega)
   repeat(first|(refine A1 ⟨?_⟩;intros)|refine W4 hp ⟨?_⟩)
   exact endMR () _ (end1 (RV.cellA rfl List.mem_cons_self rfl rfl) (fin _ (ht_mkz _ _ (by omega) (by omega)))) (List.mem_cons_of_mem _ List.mem_cons_self) (LeL.refl _)
  ·have hp:=rof_pu ((k:Int)-4) (by omega) (by omega)
   repeat(first|(refine A1 ⟨?_⟩;intros)|refine W4 hp ⟨?_⟩)
   exact endMR () _ (end1 (RV.cellA rfl List.mem_cons_self rfl rfl) (fin _ (ht_int _ (by omega)))) (List.mem_cons_of_mem _ List.mem_cons_self) (LeL.refl _)
theorem leN0:Le (lit (.slice none 0 0)) (nat (0:Rat).num.natAbs):=by
 rw [show(0:Rat).num.natAbs=0 from rfl,show nat 0=dg []from by show dg (dgs 0)=_;rw [dgs_zero]]
 exact le_nil
theorem leD0:Le (lit (.slice none 0 0)) (dg (dden (0:Rat).den)):=by
 rw [show(0:Rat).den=1 from rfl,dden_one];exact le_nil
abbrev smallM:SV:=ex fun m:{m:M6 Rat // m.le 1}=>rm m.1
theorem tmap_pu (zs:List Int) (hz:zs.length≤400):PuT 8 zs [] smallM:=by
 have h0:ht 0≤1:=by rw [show(0:Rat)=((0:Int):Rat)from rfl];exact ht_int 0 (by omega)
 have h1:ht 1≤1:=by rw [ht_one];omega
 refine PuM.intro Tryz.func8 rfl (by kernel_rfl) fun C b=>?_
 repeat(first|(refine A1 ⟨?_⟩;intros)|refine W4 rof1 ⟨?_⟩)
 refine Wtx (tq_pu zs hz) (List.mem_cons_of_mem _ List.mem_cons_self) fun c=>?_
 repeat(refine A1 ⟨?_⟩;intros)
 refine Wtx (tq_pu zs hz) (List.mem_cons_of_mem _ List.mem_cons_self) fun f=>?_
 repeat(refine A1 ⟨?_⟩;intros)
 refine Wtx (next_pu zs hz 4 (by omega) (by omega)) (List.mem_cons_of_mem _ (List.mem_cons_of_mem _ List.mem_cons_self)) fun j=>?_
 obtain⟨j,hj⟩:=j
 simp only []
 by_cases hj0:j=0
 ·repeat(refine A1 ⟨?_⟩;intros)
  refine Wtx (tq_pu zs hz) (List.mem_cons_of_mem _ (List.mem_cons_of_mem _ List.mem_cons_self)) fun xa=>?_
  repeat(refine A1 ⟨?_⟩;intros)
  refine Wtx (tq_pu zs hz) (List.mem_cons_of_mem _ (List.mem_cons_of_mem _ List.mem_cons_self)) fun xb=>?_
  repeat(refine A1 ⟨?_⟩;intros)
  refine Wtx (tq_pu zs hz) (List.mem_cons_of_mem _ (List.mem_cons_of_mem _ List.mem_cons_self)) fun xd=>?_
  repeat(refine A1 ⟨?_⟩;intros)
  refine Wtx (tq_pu zs hz) (List.mem_cons_of_mem _ (List.mem_cons_of_mem _ List.mem_cons_self)) fun xe=>?_
  repeat(refine A1 ⟨?_⟩;intros)
  exact endMR () _ (end1 (RV.cellA rfl (List.mem_cons_of_mem _ List.mem_cons_self) rfl rfl) (Le.ex ⟨⟨xa.1,xb.1,c.1,xd.1,xe.1,f.1⟩,⟨xa.2,xb.2,c.2,xd.2,xe.2,f.2⟩⟩ (Le.ag (by repeat(first|exact trivial|refine⟨?_,?_⟩|exact Le.refl _|exact leN0|exact leD0))))) (List.mem_cons_of_mem _ (List.mem_cons_of_mem _ List.mem_cons_self)) (LeL.refl _)
 ·by_cases hj1:j=1
  ·repeat(first|(refine A1 ⟨?_⟩;intros)|refine W4 rof1 ⟨?_⟩)
   exact endMR () _ (end1 (RV.cellA rfl (List.mem_cons_of_mem _ List.mem_cons_self) rfl rfl) (Le.ex ⟨⟨0,1,c.1,1,0,f.1⟩,⟨h0,h1,c.2,h1,h0,f.2⟩⟩ (Le.ag (by repeat(first|exact trivial|refine⟨?_,?_⟩|exact Le.refl _|exact leN0|exact leD0))))) (List.mem_cons_of_mem _ (List.mem_cons_of_mem _ List.mem_cons_self)) (LeL.refl _)
  ·by_cases hj2:j=2
   ·repeat(refine A1 ⟨?_⟩;intros)
    refine Wtx (tq_pu zs hz) (List.mem_cons_of_mem _ (List.mem_cons_of_mem _ List.mem_cons_self)) fun xb=>?_
    repeat(refine A1 ⟨?_⟩;intros)
    exact endMR () _ (end1 (RV.cellA rfl (List.mem_cons_of_mem _ List.mem_cons_self) rfl rfl) (Le.ex ⟨⟨1,xb.1,c.1,0,1,f.1⟩,⟨h1,xb.2,c.2,h0,h1,f.2⟩⟩ (Le.ag (by repeat(first|exact trivial|refine⟨?_,?_⟩|exact Le.refl _|exact leN0|exact leD0))))) (List.mem_cons_of_mem _ (List.mem_cons_of_mem _ List.mem_cons_self)) (LeL.refl _)
   ·repeat(refine A1 ⟨?_⟩;intros)
    exact endMR () _ (end1 (RV.cellA rfl (List.mem_cons_of_mem _ List.mem_cons_self) rfl rfl) (Le.ex ⟨⟨1,0,c.1,0,1,f.1⟩,⟨h1,h0,c.2,h0,h1,f.2⟩⟩ (Le.ag (by repeat(first|exact trivial|refine⟨?_,?_⟩|exact Le.refl _|exact leN0|exact leD0))))) (List.mem_cons_of_mem _ (List.mem_cons_of_mem _ List.mem_cons_self)) (LeL.refl _)
theorem regular_t {m:M6 Rat}{L:Nat}(h:m.le L) (hL:L≤100000) (h0:m.det≠0):Pu Tryz.prog 55 [mq m] (Ab.tup [mf m,lit .nilIface]):=by
 have hd:=adet_pu h (by omega)
 have ho:=aof_q (m:=m) ⟨Nat.le_trans h.a (by omega),Nat.le_trans h.b (by omega),Nat.le_trans h.c (by omega),Nat.le_trans h.d (by omega),Nat.le_trans h.e (by omega),Nat.le_trans h.f (by omega)⟩
 have hz:=zero_pu m.det
 rw [show m.a*m.e-m.d*m.b=m.det from rfl]at hd
 rw [decide_eq_false (fun e=>h0 (Rat.num_eq_zero.1 e))]at hz
 refine Pu.intro Tryz.func55 rfl (by kernel_rfl) fun C=>?_
 repeat(first|(refine A1 ⟨?_⟩;intros)|refine W4 ho ⟨?_⟩|refine W4 hd ⟨?_⟩|refine W4 hz ⟨?_⟩)
 ((first|refine endR ?_|refine endN ?_);exact end2 RVa (RV.tmp rfl) (Le.refl _))
abbrev mz:SV:=ag [lit (.bool false),lit (.slice none 0 0),lit (.slice none 0 0),lit (.bool false),lit (.slice none 0 0),lit (.slice none 0 0),lit (.bool false),lit (.slice none 0 0),lit (.slice none 0 0),lit (.bool false),lit (.slice none 0 0),lit (.slice none 0 0),lit (.bool false),lit (.slice none 0 0),lit (.slice none 0 0),lit (.bool false),lit (.slice none 0 0),lit (.slice none 0 0)]
def Own (T:TypeId) (sz n:Nat) (cs:List SV) (s:SV) (H:LH):Prop :=
 cs.length=n*sz∧((n=0∧s=lit (.slice none 0 0)∧H=[])∨
  ∃b c,n≤c∧c≤maxLen∧s=lit (.slice (some ⟨b,0,none⟩) n c)∧H=[(b,T,cs++List.replicate (c*sz-n*sz) top)])
theorem Own.nil (T:TypeId) (sz:Nat):Own T sz 0 [] (lit (.slice none 0 0)) []:=⟨by simp, .inl ⟨rfl,rfl,rfl⟩⟩
theorem All2.tops {m:Mem}:∀(l:List Value),(∀v∈l,v.oneCell'=true)→All2 m (List.replicate l.length top) l
 | [],_=>trivial
 |v::l,h=>⟨⟨by unfold top;trivial,h v (by simp)⟩,All2.tops l fun u hu=>h u (by simp [hu])⟩
theorem All2.topL {m:Mem}{l:List Value}{k:Nat}(hk:l.length=k) (h:∀v∈l,v.oneCell'=true):All2 m (List.replicate k top) l:=hk▸All2.tops l h
theorem zeroCells_one {z:Array Value}{k:Nat}(h:z.toList.all (·.oneCell')=true):∀v∈(Builtin.zeroCells z k).toList,v.oneCell'=true:=by
 intro v hv
 simp only [Builtin.zeroCells,Array.toList_map,Array.toList_range,List.mem_map,List.mem_range]at hv
 obtain⟨i,hi,rfl⟩:=hv
 have hp:0<z.size:=Nat.pos_of_ne_zero fun e=>by rw [e,Nat.mul_zero]at hi;omega
 have hlt:i%z.size<z.size:=Nat.mod_lt _ hp
 rw [getElem!_pos z _ hlt]
 exact List.all_eq_true.1 h _ (by simp)
theorem All2.split {m:Mem}:∀{cs ds:List SV}{l:List Value},All2 m (cs++ds) l→All2 m cs (l.take cs.length)∧All2 m ds (l.drop cs.length)
 | [],_,l,h=>⟨trivial,h⟩
 |_::_,_,[],h=>h.elim
 |_::_,_,_::_,h=>⟨⟨h.1,h.2.split.1⟩,h.2.split.2⟩
section
variable {P:Program}{C:Ctx}{n:Nat}{F:Fr}{H:LH}{ops:Array Oper}{K:Fr→LH→Prop}{rest:List Oper}{ty:TypeId}{pos:String}{aft:Array Edge}
theorem WPL.appOwn {T e:TypeId}{sz by_:Nat}{z:List SV}{g:Bool} [hS:TSl P T e] [hT:TY P e sz by_ z g]{d:Nat}{x y:Operand}{n0 b2 c2:Nat}{T':TypeId}{cs ds:List SV}{s:SV}{Hs Rs:LH}
  (hown:Own e sz n0 cs s Hs) (hx:ev F x=s) (hy:ev F y=lit (.slice (some ⟨b2,0,none⟩) 1 c2)) (hsp:Spl H Hs Rs) (hm:(b2,T',ds)∈Rs) (hds:ds.length=sz) (hpos:0<sz) (hl:n0≤1000000000) (hby:by_≤10000)
  (k:∀s' H',Own e sz (n0+1) (cs++ds) s' H'→WPL P C n ops rest K (upd F d s') (H'++Rs)) (hd:Nat.blt d n=true) :
  WPL P C n ops (⟨some d, .call ⟨.builtin .append,#[x,y],#[T,T]⟩,ty,pos,aft,none⟩::rest) K F H:=by
 unfold WPL
 intro a w hs0 Q hq
 have hs:=hs0.perm hsp.perm
 refine wpList_plain rfl fun K' hK'=>?_
 obtain⟨hdef,hn,m0,h10,h20,h30,h40,h50⟩:=id hs
 have hp0:∀x,(ev F x).p m0 (a.eval x):=fun x=>by
  cases x with
  |tmp t=>exact h50 t
  |const v=>unfold ev lit;rfl
  |global g=>unfold ev lit;rfl
  |func f=>unfold ev lit;rfl
 have e0:=hp0 x;rw [hx]at e0
 have e1:=hp0 y;rw [hy,lit_p]at e1
 obtain⟨_,arr2,hb2,hall2⟩:=h20.2 _ (List.mem_append_right Hs hm)
 obtain⟨i,v,hi,hsz,hbyt,hz,hzl,hfl,hvs⟩:=hT.run_bytes
 have hlen2:=hall2.length
 simp only [Array.length_toList]at hlen2
 have hys:∀j u,arr2.toList[j]? = some u→w.cell? ((⟨b2,0,none⟩:Addr).add j)=some u:=fun j u hj=>by
  rw [add_none,cell_of w b2 _ arr2 _ _ hb2];simpa using hj
 have hexec:execOp a.eval (⟨some d, .call ⟨.builtin .append,#[x,y],#[T,T]⟩,ty,pos,aft,none⟩:Oper)=(do let v←Builtin.append_ #[T,T] ty #[a.eval x,a.eval y];pure (.value v)):=by
  simp [execOp,resolve,invoke,builtin]
 have hmul:∀q,q≤1000000001→q*by_≤140737488355328:=fun q hq=>Nat.le_trans (Nat.mul_le_mul hq hby) (by decide)
 have get2:∀m,MemIn m w→HOk m w (Hs++Rs)→All2 m ds arr2.toList:=fun m _ h2=>by
  obtain⟨_,arr2',hb2',hall2'⟩:=h2.2 _ (List.mem_append_right Hs hm)
  rw [hb2]at hb2'
  simp only [Option.some.injEq,Obj.cells.injEq]at hb2'
  obtain⟨rfl,_⟩:=hb2'
  exact hall2'
 unfold Oper.wp
 rw [hexec,e1]
 obtain⟨hcl,hcase⟩:=hown
 rcases hcase with⟨rfl,rfl,rfl⟩|⟨b,c,hnc,hcm,rfl,rfl⟩
 ·rw [lit_p]at e0
  have hcs:cs=[]:=List.eq_nil_of_length_eq_zero (by rw [hcl,Nat.zero_mul])
  subst hcs
  have hrun:=run_append_nil (P:=P) w T ty e i v hS.h hi hz ⟨b2,0,none⟩ 1 c2 arr2.toList (by rw [Array.length_toList,hlen2,hsz,hds,Nat.one_mul]) hys (by omega) (by omega) (by rw [hbyt];have:=hmul 1 (by omega);omega)
  rw [e0]
  simp only [Sem.run_bind,hrun,Result.andThen_ok,Sem.run_pure]
  have hge:=grownCap_ge w 1 0 e
  have hle:=grownCap_le_maxLen w 1 0 e (by simp only [maxLen];omega)
  have h:=k (lit (.slice (some ⟨w.heap.size,0,none⟩) 1 (grownCap w 1 0 e))) [(w.heap.size,e,([]++ds)++List.replicate (grownCap w 1 0 e*sz-1*sz) top)] ⟨by rw [List.nil_append,hds];omega, .inr ⟨_,_,hge,hle,rfl,by rw [Nat.zero_add]⟩⟩
  unfold WPL at h
  refine hK' _ _ (h _ _ (St.pushD (Nat.blt_eq.mp hd) hs fun m h1 h2 _=>?_) Q hq)
  simp only [Array.toList_append,List.toList_toArray,List.nil_append]
  refine(get2 m h1 h2).append (All2.topL ?_ (zeroCells_one hfl))
  rw [Array.length_toList,size_zeroCells,hvs,Nat.sub_mul]
 ·rw [lit_p]at e0
  obtain⟨hmb,arr,hb,hall⟩:=h20.2 _ (List.mem_append_left Rs (List.mem_singleton.2 rfl))
  have hlen:=hall.length
  simp only [List.length_append,List.length_replicate,hcl,Array.length_toList]at hlen
  have hmono:n0*sz≤c*sz:=Nat.mul_le_mul_right _ hnc
  have getc:∀m,HOk m w ([(b,e,cs++List.replicate (c*sz-n0*sz) top)]++Rs)→All2 m (cs++List.replicate (c*sz-n0*sz) top) arr.toList:=fun m h2=>by
   obtain⟨_,arr',hb',hall'⟩:=h2.2 _ (List.mem_append_left Rs (List.mem_singleton.2 rfl))
   rw [hb]at hb'
   simp only [Option.some.injEq,Obj.cells.injEq]at hb'
   obtain⟨rfl,_⟩:=hb'
   exact hall'
  by_cases hroom:n0+1≤c
  ·have hm1:(n0+1)*sz≤c*sz:=Nat.mul_le_mul_right _ hroom
   rw [Nat.succ_mul]at hm1
   have hrun:=run_append_room (P:=P) w T ty e i hS.h hi b n0 c arr hb ⟨b2,0,none⟩ 1 c2 arr2.toList (by rw [Array.length_toList,hlen2,hsz,hds,Nat.one_mul]) hys hall2.flat hroom (by rw [hsz,Array.length_toList,hlen2,hds];omega)
   rw [e0]
   simp only [Sem.run_bind,hrun,Result.andThen_ok,Sem.run_pure]
   have h:=k (lit (.slice (some ⟨b,0,none⟩) (n0+1) c)) [(b,e,(cs++ds)++List.replicate (c*sz-(n0+1)*sz) top)] ⟨by rw [List.length_append,hcl,hds,Nat.succ_mul], .inr ⟨_,_,hroom,hcm,rfl,rfl⟩⟩
   unfold WPL at h
   have hfin:All2 m0 ((cs++ds)++List.replicate (c*sz-(n0+1)*sz) top) (arr.toList.take (n0*i.size)++arr2.toList++arr.toList.drop (n0*i.size+arr2.toList.length)).toArray.toList:=by
    obtain⟨q1,q2⟩:=(getc m0 h20).split
    rw [hcl]at q1 q2
    rw [hsz,Array.length_toList,hlen2,hds,List.toList_toArray]
    refine(q1.append (get2 m0 h10 h20)).append (All2.topL ?_ fun u hu=>?_)
    ·rw [List.length_drop,Array.length_toList,Nat.succ_mul];omega
    ·exact hall.flat u (List.mem_of_mem_drop hu)
   obtain⟨q1,q2,q3,q4⟩:=write_ok (w':=w.setRow b (arr.toList.take (n0*i.size)++arr2.toList++arr.toList.drop (n0*i.size+arr2.toList.length)).toArray) h10 h20 h30 h40 (.here Rs)
    (setRow_heap w b arr _ e _ hb) (fun j hj=>setRow_other w b j _ hj) rfl rfl rfl (by simp) hfin
   refine hK' _ _ (h (a.put (some d) (.slice (some ⟨b,0,none⟩) (n0+1) c)) _ ⟨hdef,by simpa [Act.put] using hn,m0,q1,q2,q3,q4,fun t=>?_⟩ Q hq)
   rw [getD_put (Nat.lt_of_lt_of_le (Nat.blt_eq.mp hd) hn)]
   unfold Ab.upd
   by_cases ht:t=d
   ·subst ht;rw [if_pos rfl,Nat.beq_refl];exact lit_p.2 rfl
   ·rw [if_neg ht]
    have:Nat.beq t d=false:=by
     cases hbb:Nat.beq t d with
     |false=>rfl
     |true=>exact absurd (Nat.eq_of_beq_eq_true hbb) ht
    rw [this]
    exact h50 t
  ·have hxs:∀j u,(arr.toList.take (n0*sz))[j]? = some u→w.cell? ((⟨b,0,none⟩:Addr).add j)=some u:=fun j u hj=>by
    rw [add_none,cell_of w b _ arr _ _ hb]
    rw [List.getElem?_take]at hj
    split at hj
    ·simpa using hj
    ·cases hj
   have hrun:=run_append_grow (P:=P) w T ty e i v hS.h hi hz ⟨b,0,none⟩ n0 c (arr.toList.take (n0*sz)) (by rw [List.length_take,Array.length_toList,hsz];omega) hxs
    ⟨b2,0,none⟩ 1 c2 arr2.toList (by rw [Array.length_toList,hlen2,hsz,hds,Nat.one_mul]) hys (by omega) (by omega) (growslice_fits (by omega) (by rw [hbyt];exact hmul _ (by omega)))
   rw [e0]
   simp only [Sem.run_bind,hrun,Result.andThen_ok,Sem.run_pure]
   have hge:=grownCap_ge w (n0+1) c e
   have hle:=grownCap_le_maxLen w (n0+1) c e (by simp only [maxLen];omega)
   have h:=k (lit (.slice (some ⟨w.heap.size,0,none⟩) (n0+1) (grownCap w (n0+1) c e))) [(w.heap.size,e,(cs++ds)++List.replicate (grownCap w (n0+1) c e*sz-(n0+1)*sz) top)]
    ⟨by rw [List.length_append,hcl,hds,Nat.succ_mul], .inr ⟨_,_,hge,hle,rfl,rfl⟩⟩
   unfold WPL at h
   have hst:=St.pushD (d:=d) (cs:=(cs++ds)++List.replicate (grownCap w (n0+1) c e*sz-(n0+1)*sz) top) (v := .slice (some ⟨w.heap.size,0,none⟩) (n0+1) (grownCap w (n0+1) c e)) (T:=e)
    (arr:=(arr.toList.take (n0*sz)).toArray++arr2.toList.toArray++Builtin.zeroCells v.cells (grownCap w (n0+1) c e-(n0+1))) (Nat.blt_eq.mp hd) hs fun m h1 h2 _=>?_
   ·refine hK' _ _ (h _ _ ?_ Q hq)
    exact hst.drop (.there _ (.here _))
   ·simp only [Array.toList_append,List.toList_toArray]
    obtain⟨q1,_⟩:=(getc m h2).split
    rw [hcl]at q1
    refine(q1.append (get2 m h1 h2)).append (All2.topL ?_ (zeroCells_one hfl))
    rw [Array.length_toList,size_zeroCells,hvs,Nat.sub_mul]
inductive Tk:LH→LH→LH→Prop
 |nil (R:LH):Tk R [] R
 |same (R:LH):Tk R R []
 |cons {b:Nat}{T:TypeId}{cs:List SV}{H H1 Hin R:LH}(h:HDel b T cs H H1) (k:Tk H1 Hin R):Tk H ((b,T,cs)::Hin) R
 |skip (e:Nat×TypeId×List SV){H Hin R:LH}(k:Tk H Hin R):Tk (e::H) Hin (e::R)
theorem Tk.perm {H Hin R:LH}(h:Tk H Hin R):H.Perm (Hin++R):=by
 induction h with
 |nil=>exact List.Perm.refl _
 |same=>rw [List.append_nil]
 |cons h _ ih=>exact h.perm.trans (ih.cons _)
 |skip e _ ih=>exact(ih.cons e).trans List.perm_middle.symm
theorem Spl.app:∀(Hin R:LH),Spl (Hin++R) Hin R
 | [],R => .nil R
 |(_,_,_)::Hin,R => .cons (.here _) (Spl.app Hin R)
theorem WPL.perm {l:List Oper}{H':LH}(hp:H.Perm H') (k:WPL P C n ops l K F H'):WPL P C n ops l K F H:=by
 unfold WPL at *
 exact fun a w hs=>k a w (hs.perm hp)
theorem WP.perm {c:Code}{H':LH}{Q:Exit→Fr→LH→Prop}(hp:H.Perm H') (k:WP P C n c Q F H'):WP P C n c Q F H:=by
 unfold WP at *
 exact fun a w hs=>k a w (hs.perm hp)
theorem WfT {f:FuncId}{d:Nat}{l:List Operand}{tys:Array TypeId}{svs:List SV}{Hin Rs:LH}{R:SV→LH→Prop}(hc:PuH P f svs Hin R noX) (k:∀res H',R res H'→WPL P C n ops rest K (upd F d res) (Rs++H'))
  (ha:l.map (ev F)=svs:=by exact rfl) (hs:Tk H Hin Rs:=by(repeat(first|exact Tk.nil _|exact Tk.same _|(apply Tk.cons;(first|exact(HDel.here _)|exact(HDel.there _ (HDel.here _))|exact(HDel.there _ (HDel.there _ (HDel.here _)))|exact(HDel.there _ (HDel.there _ (HDel.there _ (HDel.here _))))|exact(HDel.there _ (HDel.there _ (HDel.there _ (HDel.there _ (HDel.here _)))))|exact(HDel.there _ (HDel.there _ (HDel.there _ (HDel.there _ (HDel.there _ (HDel.here _))))))|exact(HDel.there _ (HDel.there _ (HDel.there _ (HDel.there _ (HDel.there _ (HDel.there _ (HDel.here _)))))))|exact(HDel.there _ (HDel.there _ (HDel.there _ (HDel.there _ (HDel.there _ (HDel.there _ (HDel.there _ (HDel.here _))))))))|exact(HDel.there _ (HDel.there _ (HDel.there _ (HDel.there _ (HDel.there _ (HDel.there _ (HDel.there _ (HDel.there _ (HDel.here _)))))))))|exact(HDel.there _ (HDel.there _ (HDel.there _ (HDel.there _ (HDel.there _ (HDel.there _ (HDel.there _ (HDel.there _ (HDel.there _ (HDel.here _))))))))))))|apply Tk.skip))) (hd:Nat.blt d n=true:=by exact rfl) :
  WPL P C n ops (⟨some d, .call ⟨.value (.func f),l.toArray,tys⟩,ty,pos,aft,none⟩::rest) K F H :=
 .perm hs.perm (.callH (s:=lit (.func (.func f) #[] #[])) (first:=[]) (caps:=[]) rfl hc (Spl.app _ _) (by rw [List.nil_append,List.append_nil];exact ha) hd (fun res H' h => .perm List.perm_append_comm (k res H' h)) fun _ _ h=>h.elim)
theorem WvT {x:Operand}{f:FuncId}{first caps:List SV}{d:Nat}{l:List Operand}{tys:Array TypeId}{svs:List SV}{Hin Rs:LH}{R:SV→LH→Prop}(hc:PuH P f svs Hin R noX) (k:∀res H',R res H'→WPL P C n ops rest K (upd F d res) (Rs++H'))
  (hx:ev F x=fnv f first caps:=by exact rfl) (ha:first++l.map (ev F)++caps=svs:=by exact rfl) (hs:Tk H Hin Rs:=by(repeat(first|exact Tk.nil _|exact Tk.same _|(apply Tk.cons;(first|exact(HDel.here _)|exact(HDel.there _ (HDel.here _))|exact(HDel.there _ (HDel.there _ (HDel.here _)))|exact(HDel.there _ (HDel.there _ (HDel.there _ (HDel.here _))))|exact(HDel.there _ (HDel.there _ (HDel.there _ (HDel.there _ (HDel.here _)))))|exact(HDel.there _ (HDel.there _ (HDel.there _ (HDel.there _ (HDel.there _ (HDel.here _))))))|exact(HDel.there _ (HDel.there _ (HDel.there _ (HDel.there _ (HDel.there _ (HDel.there _ (HDel.here _)))))))|exact(HDel.there _ (HDel.there _ (HDel.there _ (HDel.there _ (HDel.there _ (HDel.there _ (HDel.there _ (HDel.here _))))))))|exact(HDel.there _ (HDel.there _ (HDel.there _ (HDel.there _ (HDel.there _ (HDel.there _ (HDel.there _ (HDel.there _ (HDel.here _)))))))))|exact(HDel.there _ (HDel.there _ (HDel.there _ (HDel.there _ (HDel.there _ (HDel.there _ (HDel.there _ (HDel.there _ (HDel.there _ (HDel.here _))))))))))))|apply Tk.skip))) (hd:Nat.blt d n=true:=by exact rfl) :
  WPL P C n ops (⟨some d, .call ⟨.value x,l.toArray,tys⟩,ty,pos,aft,none⟩::rest) K F H :=
 .perm hs.perm (.callH hx hc (Spl.app _ _) ha hd (fun res H' h => .perm List.perm_append_comm (k res H' h)) fun _ _ h=>h.elim)
theorem Wown {T e:TypeId}{sz by_:Nat}{z:List SV}{g:Bool} [hS:TSl P T e] [hT:TY P e sz by_ z g]{d:Nat}{x y:Operand}{n0 b2 c2:Nat}{T':TypeId}{cs ds:List SV}{s:SV}{Hs Rs:LH}
  (hown:Own e sz n0 cs s Hs) (hl:n0≤1000000000) (k:∀s' H',Own e sz (n0+1) (cs++ds) s' H'→WPL P C n ops rest K (upd F d s') (Rs++H'))
  (hx:ev F x=s:=by exact rfl) (hy:ev F y=lit (.slice (some ⟨b2,0,none⟩) 1 c2):=by exact rfl) (hsp:Tk H Hs Rs:=by(repeat(first|exact Tk.nil _|exact Tk.same _|(apply Tk.cons;(first|exact(HDel.here _)|exact(HDel.there _ (HDel.here _))|exact(HDel.there _ (HDel.there _ (HDel.here _)))|exact(HDel.there _ (HDel.there _ (HDel.there _ (HDel.here _))))|exact(HDel.there _ (HDel.there _ (HDel.there _ (HDel.there _ (HDel.here _)))))|exact(HDel.there _ (HDel.there _ (HDel.there _ (HDel.there _ (HDel.there _ (HDel.here _))))))|exact(HDel.there _ (HDel.there _ (HDel.there _ (HDel.there _ (HDel.there _ (HDel.there _ (HDel.here _)))))))|exact(HDel.there _ (HDel.there _ (HDel.there _ (HDel.there _ (HDel.there _ (HDel.there _ (HDel.there _ (HDel.here _))))))))|exact(HDel.there _ (HDel.there _ (HDel.there _ (HDel.there _ (HDel.there _ (HDel.there _ (HDel.there _ (HDel.there _ (HDel.here _)))))))))|exact(HDel.there _ (HDel.there _ (HDel.there _ (HDel.there _ (HDel.there _ (HDel.there _ (HDel.there _ (HDel.there _ (HDel.there _ (HDel.here _))))))))))))|apply Tk.skip))) (hm:(b2,T',ds)∈Rs:=by(first|exact List.mem_cons_self|exact(List.mem_cons_of_mem _ List.mem_cons_self)|exact(List.mem_cons_of_mem _ (List.mem_cons_of_mem _ List.mem_cons_self))|exact(List.mem_cons_of_mem _ (List.mem_cons_of_mem _ (List.mem_cons_of_mem _ List.mem_cons_self)))|exact(List.mem_cons_of_mem _ (List.mem_cons_of_mem _ (List.mem_cons_of_mem _ (List.mem_cons_of_mem _ List.mem_cons_self))))|exact(List.mem_cons_of_mem _ (List.mem_cons_of_mem _ (List.mem_cons_of_mem _ (List.mem_cons_of_mem _ (List.mem_cons_of_mem _ List.mem_cons_self)))))|exact(List.mem_cons_of_mem _ (List.mem_cons_of_mem _ (List.mem_cons_of_mem _ (List.mem_cons_of_mem _ (List.mem_cons_of_mem _ (List.mem_cons_of_mem _ List.mem_cons_self))))))|exact(List.mem_cons_of_mem _ (List.mem_cons_of_mem _ (List.mem_cons_of_mem _ (List.mem_cons_of_mem _ (List.mem_cons_of_mem _ (List.mem_cons_of_mem _ (List.mem_cons_of_mem _ List.mem_cons_self)))))))|exact(List.mem_cons_of_mem _ (List.mem_cons_of_mem _ (List.mem_cons_of_mem _ (List.mem_cons_of_mem _ (List.mem_cons_of_mem _ (List.mem_cons_of_mem _ (List.mem_cons_of_mem _ (List.mem_cons_of_mem _ List.mem_cons_self))))))))|exact(List.mem_cons_of_mem _ (List.mem_cons_of_mem _ (List.mem_cons_of_mem _ (List.mem_cons_of_mem _ (List.mem_cons_of_mem _ (List.mem_cons_of_mem _ (List.mem_cons_of_mem _ (List.mem_cons_of_mem _ (List.mem_cons_of_mem _ List.mem_cons_self))))))))))) (hds:ds.length=sz:=by exact rfl) (hpos:0<sz:=by decide) (hby:by_≤10000:=by decide)
  (hd:Nat.blt d n=true:=by exact rfl) :
  WPL P C n ops (⟨some d, .call ⟨.builtin .append,#[x,y],#[T,T]⟩,ty,pos,aft,none⟩::rest) K F H :=
 .perm hsp.perm (.appOwn hown hx hy (Spl.app _ _) hm hds hpos hl hby (fun s' H' h => .perm List.perm_append_comm (k s' H' h)) hd)
theorem Own.co {T:TypeId}{sz n0:Nat}{cs:List SV}{s:SV}{Hs:LH}(h:Own T sz n0 cs s Hs):CO s [s]:=by
 obtain⟨_,⟨_,rfl,_⟩|⟨_,_,_,_,rfl,_⟩⟩:=h <;> exact co_one fun m v hv=>by rw [lit_p]at hv;subst hv;exact⟨rfl,rfl⟩
theorem ov_lenOwn {T e:TypeId}{sz n0:Nat}{cs:List SV}{s:SV}{Hs:LH}{x:Operand} [hS:TSl P T e] (h:Own e sz n0 cs s Hs) (hx:ev F x=s):OpV P (.call ⟨.builtin .len,#[x],#[T]⟩) ty F H (lit (.int .i64 n0)):=by
 obtain⟨_,⟨rfl,rfl,_⟩|⟨_,_,_,_,rfl,_⟩⟩:=h
 ·exact ov_lenL hx
 ·exact ov_lenL hx
end
theorem ht_g3 {a b c:Rat}{L:Nat}(ha:ht a≤L) (hb:ht b≤L) (hc:ht c≤L):ht (rgcd a b)≤2*L+1∧ht (g3 a b c)≤3*L+2∧ht (g3 a b c)⁻¹≤3*L+3:=by
 have h1:=ht_rgcd a b
 have h2:=ht_rgcd (rgcd a b) c
 have h3:=ht_inv (g3 a b c)
 have e:g3 a b c=rgcd (rgcd a b) c:=rfl
 rw [←e]at h2
 omega
set_option maxRecDepth 20000 in
set_option maxHeartbeats 1000000 in
theorem make_pu (a b c:Rat){L:Nat}(hL:L≤100000) (ha:ht a≤L) (hb:ht b≤L) (hc:ht c≤L) (h:a≠0∨b≠0):Pu Tryz.prog 180 [fr a,fr b,fr c] (Ab.tup [lf (prim a b c).a (prim a b c).b (prim a b c).c,lit (.bool true)]):=by
 obtain⟨h1,h2,h3⟩:=ht_g3 ha hb hc
 have c1:=zero_pu a
 have c2:=zero_pu b
 have c3:=frgcd_pu a b (by omega) (by omega)
 have c4:=frgcd_pu (rgcd a b) c (by omega) (by omega)
 have c5:Pu Tryz.prog 242 [fr (rgcd (rgcd a b) c)] (fr (g3 a b c)⁻¹):=inv_pu (g3 a b c) (by omega)
 obtain⟨e1,e2,e3⟩:=prim_eq (c:=c) h
 have c6:=fun b0=>scaled_pu b0 (g3 a b c)⁻¹ a b c (by omega) (by omega) (by omega) (by omega)
 rw [e1,e2,e3]at c6
 generalize(g3 a b c)⁻¹=q at *
 generalize rgcd a b=r1 at *
 generalize rgcd r1 c=r2 at *
 clear e1 e2 e3
 by_cases h0:a.num=0
 ·have h9:b.num≠0:=fun e=>by
   rcases h with h|h
   ·exact h (Rat.num_eq_zero.1 h0)
   ·exact h (Rat.num_eq_zero.1 e)
  rw [decide_eq_true h0]at c1
  rw [decide_eq_false h9]at c2
  clear h0 h9 h
  refine Pu.intro Tryz.func180 rfl (by kernel_rfl) fun C=>?_
  repeat(first|(refine AS ⟨?_⟩;intros)|(refine O1 ⟨?_⟩;intros)|(refine Wcx (c1) ?_)|(refine Wcgx (c1) ?_)|(refine Wcx (c2) ?_)|(refine Wcgx (c2) ?_))
  refine WdN 10 ?_
  repeat(first|(refine A1 ⟨?_⟩;intros)|refine W4 c3 ⟨?_⟩|refine W4 c4 ⟨?_⟩|refine W4 c5 ⟨?_⟩)
  simp only [List.drop_succ_cons,List.drop_zero]
  refine WfT (c6 _) ?_
  rintro _ _ ⟨rfl,rfl⟩
  repeat(refine A1 ⟨?_⟩;intros)
  ((first|refine endR ?_|refine endN ?_);exact end2 RVa (RV.tmp rfl) (Le.refl _))
 ·rw [decide_eq_false h0]at c1
  clear h0 h
  refine Pu.intro Tryz.func180 rfl (by kernel_rfl) fun C=>?_
  repeat(first|(refine AS ⟨?_⟩;intros)|(refine O1 ⟨?_⟩;intros)|(refine Wcx (c1) ?_)|(refine Wcgx (c1) ?_))
  refine WdN 10 ?_
  repeat(first|(refine A1 ⟨?_⟩;intros)|refine W4 c3 ⟨?_⟩|refine W4 c4 ⟨?_⟩|refine W4 c5 ⟨?_⟩)
  simp only [List.drop_succ_cons,List.drop_zero]
  refine WfT (c6 _) ?_
  rintro _ _ ⟨rfl,rfl⟩
  repeat(refine A1 ⟨?_⟩;intros)
  ((first|refine endR ?_|refine endN ?_);exact end2 RVa (RV.tmp rfl) (Le.refl _))
theorem prim_le {a b c:Rat}{L:Nat}(ha:ht a≤L) (hb:ht b≤L) (hc:ht c≤L):(prim a b c).le (4*L+4):=by
 obtain⟨_,_,h3⟩:=ht_g3 ha hb hc
 have k1:=ht_mul a (g3 a b c)⁻¹
 have k2:=ht_mul b (g3 a b c)⁻¹
 have k3:=ht_mul c (g3 a b c)⁻¹
 have n1:=ht_num (a*(g3 a b c)⁻¹)
 have n2:=ht_num (b*(g3 a b c)⁻¹)
 have n3:=ht_num (c*(g3 a b c)⁻¹)
 unfold prim
 constructor <;> simp only <;> omega
theorem Li.im_le {m:M6 Rat}{l:Li}{L:Nat}(hm:m.le L) (h:l.le L) (h1:1≤L):(l.im m).le (200*L+200):=by
 have hi:=M6.inv_le hm
 obtain⟨i1,i2,i3,i4,i5,i6⟩:=hi
 obtain⟨ha,hb,hc⟩:=h
 have e1:=ht_of_int l.a
 have e2:=ht_of_int l.b
 have e3:=ht_of_int l.c
 have k1:=ht_mul (l.a:Rat) m.inv.a
 have k2:=ht_mul (l.b:Rat) m.inv.d
 have k3:=ht_mul (l.a:Rat) m.inv.b
 have k4:=ht_mul (l.b:Rat) m.inv.e
 have k5:=ht_mul (l.a:Rat) m.inv.c
 have k6:=ht_mul (l.b:Rat) m.inv.f
 have j1:=ht_add ((l.a:Rat)*m.inv.a) (l.b*m.inv.d)
 have j2:=ht_add ((l.a:Rat)*m.inv.b) (l.b*m.inv.e)
 have j3:=ht_add ((l.a:Rat)*m.inv.c) (l.b*m.inv.f)
 have j4:=ht_add ((l.a:Rat)*m.inv.c+l.b*m.inv.f) l.c
 unfold Li.im
 have:=prim_le (a:=l.a*m.inv.a+l.b*m.inv.d) (b:=l.a*m.inv.b+l.b*m.inv.e) (c:=l.a*m.inv.c+l.b*m.inv.f+l.c) (L:=46*L+48) (by omega) (by omega) (by omega)
 exact⟨Nat.le_trans this.a (by omega),Nat.le_trans this.b (by omega),Nat.le_trans this.c (by omega)⟩
set_option maxHeartbeats 1000000 in
theorem lnOf_pu {l:Li}(hl:l.ok) (h:l.le 100000):Pu Tryz.prog 175 [lq l] (Ab.tup [lf l.a l.b l.c,lit (.bool true)]):=by
 obtain⟨ha,hb,hc⟩:=h
 have e1:=ht_of_int l.a
 have e2:=ht_of_int l.b
 have e3:=ht_of_int l.c
 have n1:=intNormal_z l.a (by omega)
 have n2:=intNormal_z l.b (by omega)
 have n3:=intNormal_z l.c (by omega)
 have w1:=whole_pu l.a (by omega)
 have w2:=whole_pu l.b (by omega)
 have w3:=whole_pu l.c (by omega)
 have z1:=zero_pu (l.a:Rat)
 have z2:=zero_pu (l.b:Rat)
 rw [Rat.num_intCast]at z1 z2
 have hg1:=ht_rgcd (l.a:Rat) (l.b:Rat)
 have g1:=frgcd_pu (l.a:Rat) (l.b:Rat) (by omega) (by omega)
 have g2:=frgcd_pu (rgcd l.a l.b) (l.c:Rat) (by omega) (by omega)
 have hg:rgcd (rgcd l.a l.b) l.c=1:=by
  rw [rgcd_ints,show((Nat.gcd l.a.natAbs l.b.natAbs:Nat):Rat)=(((Nat.gcd l.a.natAbs l.b.natAbs:Nat):Int):Rat)from rfl,rgcd_ints,Int.natAbs_natCast,hl.1];rfl
 rw [hg]at g2
 generalize rgcd (l.a:Rat) (l.b:Rat)=G at *
 have f1:Pu Tryz.prog 92 [lit (.int .i64 1)] (fr 1):=fint_pu 1 (by omega) (by omega)
 have q:=fequal_pu 1 1 (by decide +kernel) (by decide +kernel)
 rw [decide_eq_true rfl]at q
 have hne:=hl.2
 clear hg hg1 e1 e2 e3 ha hb hc hl
 by_cases h0:l.a=0
 ·have h9:l.b≠0:=by
   rcases hne with h|h
   ·exact absurd h0 h
   ·exact h
  rw [decide_eq_true h0]at z1
  rw [decide_eq_false h9]at z2
  clear hne h9 h0
  refine Pu.intro Tryz.func175 rfl (by kernel_rfl) fun C=>?_
  repeat(first|(refine A1 ⟨?_⟩;intros)|refine W4 n1 ⟨?_⟩|refine W4 n2 ⟨?_⟩|refine W4 n3 ⟨?_⟩|refine W4 w1 ⟨?_⟩|refine W4 w2 ⟨?_⟩|refine W4 w3 ⟨?_⟩|refine W4 z1 ⟨?_⟩|refine W4 z2 ⟨?_⟩|refine W4 g1 ⟨?_⟩|refine W4 g2 ⟨?_⟩|refine W4 f1 ⟨?_⟩|refine W4 q ⟨?_⟩)
  ((first|refine endR ?_|refine endN ?_);exact end2 RVa (RV.tmp rfl) (Le.refl _))
 ·rw [decide_eq_false h0]at z1
  clear hne h0 z2
  refine Pu.intro Tryz.func175 rfl (by kernel_rfl) fun C=>?_
  repeat(first|(refine A1 ⟨?_⟩;intros)|refine W4 n1 ⟨?_⟩|refine W4 n2 ⟨?_⟩|refine W4 n3 ⟨?_⟩|refine W4 w1 ⟨?_⟩|refine W4 w2 ⟨?_⟩|refine W4 w3 ⟨?_⟩|refine W4 z1 ⟨?_⟩|refine W4 g1 ⟨?_⟩|refine W4 g2 ⟨?_⟩|refine W4 f1 ⟨?_⟩|refine W4 q ⟨?_⟩)
  ((first|refine endR ?_|refine endN ?_);exact end2 RVa (RV.tmp rfl) (Le.refl _))
set_option maxHeartbeats 1000000 in
theorem aline_pu {m:M6 Rat}{l:Li}{L:Nat}(hm:m.le L) (h:l.le L) (h1:1≤L) (hL:L≤400) (hdet:m.det≠0) (hl:l.ok):Pu Tryz.prog 115 [mf m,lf l.a l.b l.c] (lf (l.im m).a (l.im m).b (l.im m).c):=by
 have c1:=inverse_pu hm (by omega)
 obtain⟨i1,i2,i3,i4,i5,i6⟩:=M6.inv_le hm
 obtain⟨ha,hb,hc⟩:=h
 have e1:=ht_of_int l.a
 have e2:=ht_of_int l.b
 have e3:=ht_of_int l.c
 have k1:=ht_mul (l.a:Rat) m.inv.a
 have k2:=ht_mul (l.b:Rat) m.inv.d
 have k3:=ht_mul (l.a:Rat) m.inv.b
 have k4:=ht_mul (l.b:Rat) m.inv.e
 have k5:=ht_mul (l.a:Rat) m.inv.c
 have k6:=ht_mul (l.b:Rat) m.inv.f
 have j1:=ht_add ((l.a:Rat)*m.inv.a) (l.b*m.inv.d)
 have j2:=ht_add ((l.a:Rat)*m.inv.b) (l.b*m.inv.e)
 have j3:=ht_add ((l.a:Rat)*m.inv.c) (l.b*m.inv.f)
 have j4:=ht_add ((l.a:Rat)*m.inv.c+l.b*m.inv.f) l.c
 have c2:=lnormal_pu l.a l.b l.c
 have c3:=pdot_pu l.a l.b m.inv.a m.inv.d (by omega) (by omega) (by omega) (by omega)
 have c4:=pdot_pu l.a l.b m.inv.b m.inv.e (by omega) (by omega) (by omega) (by omega)
 have c5:=lvalue_pu l.a l.b l.c m.inv.c m.inv.f (by omega) (by omega) (by omega) (by omega) (by omega)
 have c6:=make_pu (l.a*m.inv.a+l.b*m.inv.d) (l.a*m.inv.b+l.b*m.inv.e) (l.a*m.inv.c+l.b*m.inv.f+l.c) (L:=46*L+48) (by omega) (by omega) (by omega) (by omega) (Li.im_ne hdet hl)
 rw [show prim (l.a*m.inv.a+l.b*m.inv.d) (l.a*m.inv.b+l.b*m.inv.e) (l.a*m.inv.c+l.b*m.inv.f+l.c)=l.im m from rfl]at c6
 generalize l.im m=l' at *
 clear k1 k2 k3 k4 k5 k6 j1 j2 j3 j4 e1 e2 e3 i1 i2 i3 i4 i5 i6 ha hb hc
 refine Pu.intro Tryz.func115 rfl (by kernel_rfl) fun C=>?_
 repeat(first|(refine A1 ⟨?_⟩;intros)|refine W4 c1 ⟨?_⟩|refine W4 c2 ⟨?_⟩|refine W4 c3 ⟨?_⟩|refine W4 c4 ⟨?_⟩|refine W4 c5 ⟨?_⟩|refine W4 c6 ⟨?_⟩)
 ((first|refine endR ?_|refine endN ?_);refine end1 RVa (Le.refl _))
section
variable {P:Program}{F:Fr}{H:LH}{ty:TypeId}
theorem ov_fieldA {S:TypeId}{fs:List (Nat×Nat)} [TSt P S fs]{x:Operand}{f off sz:Nat}{cs cs':List SV}(hx:ev F x=ag cs) (_hf:fs[f]? = some (off,sz)) (hk:fieldK P S f=some (off,true,sz)) (hc:(cs.drop off).take sz=cs'):OpV P (.field S x f) ty F H (ag cs') :=
 OpV.pure fun m w o a ho _ _ _ h=>by
  have h0:=h x (by simp [Op.operands]);rw [hx]at h0
  unfold ag at h0
  obtain⟨arr,h0,hall⟩:=h0
  have hall':=(hall.drop off).take sz
  rw [hc]at hall'
  unfold fieldK at hk
  cases hu:P.underlying S with
  |none=>rw [hu]at hk;cases hk
  |some d =>
   rw [hu]at hk
   cases d with
   |struct A =>
    simp only [Option.bind_eq_some_iff,Option.map_eq_some_iff,Prod.mk.injEq]at hk
    obtain⟨fl,hfl,d,hd,i,hi,e1,e2,e3⟩:=hk
    have hg:(isAgg fl.type).run P w = .ok true w:=by
     cases d <;> first|(cases e2;done)|simp [isAgg,underlying,hd]
    have hs:(sizeOf fl.type).run P w = .ok i.size w:=by
     simp [sizeOf,typeInfo,hi]
    refine⟨.agg (arr.extract off (off+sz)),?_,by unfold ag;exact⟨_,rfl,by
     have e:(arr.extract off (off+sz)).toList=(arr.toList.drop off).take sz:=by
      simp [List.take_drop,Nat.add_sub_cancel_left]
     rw [e];exact hall'⟩⟩
    simp [execOp,ho,h0,Instr.field,underlying,hu,hfl,asAgg,part,hg,hs,e1,e3]
   |_=>cases hk
theorem nk_make {T e:TypeId}{by_:Nat}{z0:SV}{g:Bool} [hS:TSl P T e] [hT:TY P e 1 by_ [z0] g]{x y:Operand}{k:Nat}
  (hx:ev F x=lit (.int .i64 k)) (hy:ev F y=lit (.int .i64 k)) (hk:k*by_≤140737488355328) (hk':k≤9223372036854775807):NewOk P (.makeSlice T x y) F e (List.replicate k z0) (mkS k):=by
 intro w o a ho ⟨m0,hm0⟩
 obtain⟨v,hz,hall⟩:=hT.run_zero w
 obtain⟨i,v',hi,hsz,hby,hz',_,hfl,hvs⟩:=hT.run_bytes
 have hvv:v=v':=by simp [zeroValue,typeInfo,hi,hz']at hz;exact hz.symm
 subst hvv
 have e0:=evN hm0 (x:=x) (by simp [Op.operands]);rw [hx,lit_p]at e0
 have e1:=evN hm0 (x:=y) (by simp [Op.operands]);rw [hy,lit_p]at e1
 have hw:IntKind.i64.wrap (k:Int)=k:=by
  simp only [IntKind.wrap,IntKind.bits,IntKind.signed,Bool.true_and]
  have h1:¬(9223372036854775808:Int)≤(k:Int)%18446744073709551616:=by omega
  simp [h1];omega
 obtain⟨c0,hc0⟩:∃c0,v.cells = #[c0]:=by
  have:v.cells.size=1:=hvs
  rcases hvc:v.cells with⟨l⟩
  rw [hvc]at this
  match l,this with
  | [c0],_=>exact⟨c0,rfl⟩
 have hrun:(execOp a.eval o).run P w = .ok (.value (.slice (some ⟨w.heap.size,0,none⟩) k k)) (w.alloc (.cells (List.replicate k c0).toArray e)):=by
  have hb:¬((by_:Int)*(k:Int)>281474976710656):=by
   have:(by_*k:Nat)≤281474976710656:=by rw [Nat.mul_comm];omega
   have h2:((by_*k:Nat):Int)≤281474976710656:=by omega
   rw [Int.natCast_mul]at h2;omega
  have hk0:¬((k:Int)<0):=by omega
  have harr:(Array.range k).map (fun j=>v.cells[j%v.cells.size]!)=(List.replicate k c0).toArray:=by
   rw [hc0]
   apply Array.ext
   ·simp
   ·intro j h1 h2;simp [Nat.mod_one]
  simp only [execOp,ho,Instr.makeSlice,e0,e1,Sem.run_bind,underlying,run_program,hS.h,Result.andThen_ok,Sem.run_pure,asInt,asIntOf,typeInfo,hi,hw,hby]
  have hcond:((decide ((k:Int)<0)||decide ((by_:Int)*(k:Int)>2^48))||decide ((k:Int)<0)||decide ((k:Int)>(k:Int)))=false:=by
   simp only [Bool.or_eq_false_iff,decide_eq_false_iff_not]
   refine⟨⟨⟨hk0,?_⟩,hk0⟩,by omega⟩
   have:(2:Int)^48=281474976710656:=by decide
   rw [this];exact hb
  simp only [hcond,Bool.false_eq_true,if_false,Int.toNat_natCast,Sem.run_bind,run_askRoom,Result.andThen_ok,hT.run_size,Nat.mul_one,newRow]
  by_cases hk:k=0
  ·subst hk;simp [show(Array.range 0) = #[]from rfl]
  ·simp only [hk,if_false,Sem.run_bind,hz,Result.andThen_ok,Sem.run_pure,harr,run_newObj,World.alloc_eq]
 refine⟨_,hrun,fun m _=>?_⟩
 have:=hall m
 rw [hc0]at this
 exact All2.replicate this.1.1 this.1.2 k
end
end Go.Ab
