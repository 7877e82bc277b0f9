/- Texts laid one behind the other: LnB, Tape, AffC, Row, LnC, Rng. -/
import Derived.Test.YthinbooccdccfaaGreatDoorB10
import Derived.Test.YthinbooccdccfaaGreatDoorB08
import Derived.Test.YthinbooccdccfaaGreatDoorB04
import Derived.Laws.AppendOwn
import Derived.RangeFuncLeaves
import Derived.RangeFuncRecord
import Derived.TacticsIn
import Derived.OrdersIn
set_option linter.unusedSectionVars false
set_option linter.unusedVariables false
set_option linter.unusedSimpArgs false
namespace Go.Ab
open Go.Proofs
variable [Base]
theorem fsign_pu (x:Rat) (h:ht x≤10000000):Pu Tryz.prog 347 [fr x] (lit (.int .i64 x.num.sign)):=by
 by_cases hs:small x
 ·rw [fr_s hs]
  rcases Int.lt_trichotomy x.num 0 with h0|h0|h0
  ·rw [Int.sign_eq_neg_one_of_neg h0]
   refine Pu.intro Tryz.func347 rfl (by kernel_rfl) fun C=>?_
   repeat(refine A1 ⟨?_⟩;intros)
   exact E1
  ·rw [h0]
   refine Pu.intro Tryz.func347 rfl (by kernel_rfl) fun C=>?_
   repeat(refine A1 ⟨?_⟩;intros)
   exact E1
  ·rw [Int.sign_eq_one_of_pos h0]
   refine Pu.intro Tryz.func347 rfl (by kernel_rfl) fun C=>?_
   repeat(refine A1 ⟨?_⟩;intros)
   exact E1
 ·have h1:=ht_num x
  have e1:il x.num=(dgs x.num.natAbs).length:=rfl
  have c:=sign_raw (decide (x.num<0)) (dgs x.num.natAbs) (by omega) (D_dgs _)
  rw [val_dgs,sv_int]at c
  rw [fr_b hs]
  refine Pu.intro Tryz.func347 rfl (by kernel_rfl) fun C=>?_
  repeat(first|(refine A1 ⟨?_⟩;intros)|refine W4 c ⟨?_⟩)
  exact E1
theorem mk_sign (a:Int){d:Nat}(hd:d≠0):(mkRat a d).num.sign=a.sign:=by
 rw [(mk_num a hd).1]
 have hg:0<Int.gcd a d:=Nat.pos_of_ne_zero (fun e=>by have:=(Int.gcd_eq_zero_iff.1 e).2;omega)
 obtain⟨q,hq⟩:=Int.gcd_dvd_left a d
 generalize Int.gcd a d=g at *
 subst hq
 have h1:((g:Nat):Int).sign=1:=Int.sign_eq_one_of_pos (by omega)
 rw [Int.mul_ediv_cancel_left _ (by omega),Int.sign_mul,h1,Int.one_mul]
theorem sub_sign {x y:Rat}(h:x.den=y.den):(x-y).num.sign=(x.num-y.num).sign:=by
 have hd:y.den≠0:=y.den_nz
 have h1:((y.den:Nat):Int).sign=1:=Int.sign_eq_one_of_pos (by omega)
 rw [Rat.sub_def',h,←Int.sub_mul,mk_sign _ (Nat.mul_ne_zero hd hd),Int.sign_mul,h1,Int.mul_one]
theorem fcmp_pu (x y:Rat) (hx:ht x≤3000000) (hy:ht y≤3000000):Pu Tryz.prog 321 [fr x,fr y] (lit (.int .i64 (x-y).num.sign)):=by
 have hb:=ht_sub x y
 have c1:=rsub_pu x y hx hy
 have c2:=fsign_pu (x-y) (by omega)
 by_cases h:(small x∧small y)∧x.den=y.den
 ·obtain⟨⟨hsx,hsy⟩,hd⟩:=h
  rw [fr_s hsx,fr_s hsy,sub_sign hd,hd]
  rcases Int.lt_trichotomy x.num y.num with h0|h0|h0
  ·rw [Int.sign_eq_neg_one_of_neg (by omega)]
   refine Pu.intro Tryz.func321 rfl (by kernel_rfl) fun C=>?_
   repeat(refine A1 ⟨?_⟩;intros)
   exact E1
  ·rw [h0,Int.sub_self]
   refine Pu.intro Tryz.func321 rfl (by kernel_rfl) fun C=>?_
   repeat(refine A1 ⟨?_⟩;intros)
   exact E1
  ·rw [Int.sign_eq_one_of_pos (by omega)]
   refine Pu.intro Tryz.func321 rfl (by kernel_rfl) fun C=>?_
   repeat(refine A1 ⟨?_⟩;intros)
   exact E1
 ·clear hb
  by_cases hsx:small x
  ·by_cases hsy:small y
   ·have hd:x.den≠y.den:=fun e=>h ⟨⟨hsx,hsy⟩,e⟩
    clear h
    rw [fr_s hsx,fr_s hsy]at c1⊢
    refine Pu.intro Tryz.func321 rfl (by kernel_rfl) fun C=>?_
    repeat(first|(refine A1 ⟨?_⟩;intros)|refine W4 c1 ⟨?_⟩|refine W4 c2 ⟨?_⟩)
    exact E1
   ·clear h
    rw [fr_s hsx,fr_b hsy]at c1⊢
    refine Pu.intro Tryz.func321 rfl (by kernel_rfl) fun C=>?_
    repeat(first|(refine A1 ⟨?_⟩;intros)|refine W4 c1 ⟨?_⟩|refine W4 c2 ⟨?_⟩)
    exact E1
  ·clear h
   rw [fr_b hsx]at c1⊢
   refine Pu.intro Tryz.func321 rfl (by kernel_rfl) fun C=>?_
   repeat(first|(refine A1 ⟨?_⟩;intros)|refine W4 c1 ⟨?_⟩|refine W4 c2 ⟨?_⟩)
   exact E1
theorem sub_sign_zero {x y:Rat}:(x-y).num.sign=0↔x=y:=by
 rw [Int.sign_eq_zero_iff_zero,Rat.num_eq_zero]
 constructor
 ·intro h;have:=congrArg (· + y) h;simp only [Rat.sub_eq_add_neg,Rat.add_assoc,Rat.neg_add_cancel,Rat.add_zero,Rat.zero_add]at this;exact this
 ·intro h;rw [h,Rat.sub_self]
theorem fequal_pu (x y:Rat) (hx:ht x≤3000000) (hy:ht y≤3000000):Pu Tryz.prog 260 [fr x,fr y] (lit (.bool (decide (x=y)))):=by
 have c:=fcmp_pu x y hx hy
 have e:=@sub_sign_zero _ x y
 by_cases h:x=y
 ·rw [decide_eq_true h]
  rw [e.2 h]at c
  refine Pu.intro Tryz.func260 rfl (by kernel_rfl) fun C=>?_
  repeat(first|(refine A1 ⟨?_⟩;intros)|refine W4 c ⟨?_⟩)
  exact E1
 ·rw [decide_eq_false h]
  have e':(x-y).num.sign≠0:=fun k=>h (e.1 k)
  clear e
  generalize(x-y).num.sign=s at *
  refine Pu.intro Tryz.func260 rfl (by kernel_rfl) fun C=>?_
  repeat(first|(refine A1 ⟨?_⟩;intros)|refine W4 c ⟨?_⟩)
  exact E1
abbrev lf (a b c:Rat):SV:=ag [lit (.int .i64 (r0 a)),lit (.int .i64 (r1 a)),r2 a,lit (.int .i64 (r0 b)),lit (.int .i64 (r1 b)),r2 b,lit (.int .i64 (r0 c)),lit (.int .i64 (r1 c)),r2 c]
abbrev lq (l:Li):SV:=ag [lit (.bool (decide (l.a<0))),nat l.a.natAbs,lit (.bool (decide (l.b<0))),nat l.b.natAbs,lit (.bool (decide (l.c<0))),nat l.c.natAbs]
structure Li.le (l:Li) (L:Nat):Prop where
 a:il l.a≤L
 b:il l.b≤L
 c:il l.c≤L
theorem lnormal_pu (a b c:Rat):Pu Tryz.prog 202 [lf a b c] (pp a b):=by
 refine Pu.intro Tryz.func202 rfl (by kernel_rfl) fun C=>?_
 repeat(refine A1 ⟨?_⟩;intros)
 ((first|refine endR ?_|refine endN ?_);refine end1 RVa (Le.refl _))
theorem pdot_pu (x y u v:Rat) (hx:ht x≤1000000) (hy:ht y≤1000000) (hu:ht u≤1000000) (hv:ht v≤1000000):Pu Tryz.prog 204 [pp x y,pp u v] (fr (x*u+y*v)):=by
 have h1:=ht_mul x u
 have h2:=ht_mul y v
 refine Pu.intro Tryz.func204 rfl (by kernel_rfl) fun C=>?_
 repeat(first|(refine A1 ⟨?_⟩;intros)|refine W4 (rmul_pu x u (by omega) (by omega)) ⟨?_⟩|refine W4 (rmul_pu y v (by omega) (by omega)) ⟨?_⟩|refine W4 (radd_pu (x*u) (y*v) (by omega) (by omega)) ⟨?_⟩)
 ((first|refine endR ?_|refine endN ?_);refine end1 RVa (Le.refl _))
theorem lvalue_pu (a b c x y:Rat) (ha:ht a≤100000) (hb:ht b≤100000) (hc:ht c≤100000) (hx:ht x≤100000) (hy:ht y≤100000):Pu Tryz.prog 205 [lf a b c,pp x y] (fr (a*x+b*y+c)):=by
 have h1:=ht_mul a x
 have h2:=ht_mul b y
 have h3:=ht_add (a*x) (b*y)
 have c1:=lnormal_pu a b c
 have c2:=pdot_pu a b x y (by omega) (by omega) (by omega) (by omega)
 have c3:=radd_pu (a*x+b*y) c (by omega) (by omega)
 refine Pu.intro Tryz.func205 rfl (by kernel_rfl) fun C=>?_
 repeat(first|(refine A1 ⟨?_⟩;intros)|refine W4 c1 ⟨?_⟩|refine W4 c2 ⟨?_⟩|refine W4 c3 ⟨?_⟩)
 ((first|refine endR ?_|refine endN ?_);refine end1 RVa (Le.refl _))
theorem ht_of_int (z:Int):ht (z:Rat)=max (il z) 1:=by
 unfold ht
 rw [Rat.num_intCast,Rat.den_intCast,dgs_one];rfl
theorem lapi_pu (l:Li) (h:l.le 1000000):Pu Tryz.prog 87 [lf l.a l.b l.c] (lq l):=by
 obtain⟨ha,hb,hc⟩:=h
 have e1:=ht_of_int l.a
 have e2:=ht_of_int l.b
 have e3:=ht_of_int l.c
 have c1:=num_pu (l.a:Rat) (by omega)
 have c2:=num_pu (l.b:Rat) (by omega)
 have c3:=num_pu (l.c:Rat) (by omega)
 rw [Rat.num_intCast]at c1 c2 c3
 refine Pu.intro Tryz.func87 rfl (by kernel_rfl) fun C=>?_
 repeat(first|(refine A1 ⟨?_⟩;intros)|refine W4 c1 ⟨?_⟩|refine W4 c2 ⟨?_⟩|refine W4 c3 ⟨?_⟩)
 ((first|refine endR ?_|refine endN ?_);refine end1 RVa (Le.refl _))
theorem mulM (v:Value) (w:World):(Go.method ((Tryz.prog).types.size+Made.depth) 170 v "Mul").run Tryz.prog w = .ok (248,v) w:=by kernel_rfl
abbrev fr3 (a b c:Rat):List SV:=[lit (.int .i64 (r0 a)),lit (.int .i64 (r1 a)),r2 a,lit (.int .i64 (r0 b)),lit (.int .i64 (r1 b)),r2 b,lit (.int .i64 (r0 c)),lit (.int .i64 (r1 c)),r2 c]
set_option maxRecDepth 20000 in
set_option maxHeartbeats 1000000 in
theorem scaled_pu (b0:Nat) (f a b c:Rat) (hf:ht f≤1000000) (ha:ht a≤1000000) (hb:ht b≤1000000) (hc:ht c≤1000000) :
  PuH Tryz.prog 267 [fr f,lit (.slice (some ⟨b0,0,none⟩) 3 3)] [(b0,170,fr3 a b c)] (fun r H=>r=lit (.slice (some ⟨b0,0,none⟩) 3 3)∧H=[(b0,170,fr3 (a*f) (b*f) (c*f))]) noX:=by
 have m1:=rmul_pu a f (by omega) (by omega)
 have m2:=rmul_pu b f (by omega) (by omega)
 have m3:=rmul_pu c f (by omega) (by omega)
 refine PuH.intro Tryz.func267 rfl (by kernel_rfl) fun C hC=>?_
 repeat(refine A1 ⟨?_⟩;intros)
 refine WP.unroll 4 ?_
 repeat(refine A1 ⟨?_⟩;intros)
 refine Wdo (ov_invoke mulM m1 rfl rfl) ?_
 repeat(refine A1 ⟨?_⟩;intros)
 refine Wdo (ov_invoke mulM m2 rfl rfl) ?_
 repeat(refine A1 ⟨?_⟩;intros)
 refine Wdo (ov_invoke mulM m3 rfl rfl) ?_
 repeat(refine A1 ⟨?_⟩;intros)
 exact endHR _ _ (end1 (RV.tmp rfl) (Le.refl _)) (List.Sublist.cons _ (List.Sublist.refl _)) ⟨rfl,rfl⟩
section
variable {P:Program}{F:Fr}{H:LH}
variable {C:Ctx}{n:Nat}{ops:Array Oper}{K:Fr→LH→Prop}{rest:List Oper}{ty:TypeId}{pos:String}{aft:Array Edge}
theorem endNwR {rs:Array ResultVar}{T:TypeId}{cs:List SV}(b:Nat) (cs0:List SV) (h:Ends P rs.toList (lit (.pointer (some ⟨b,0,none⟩))) F H) (hm:(b,T,cs0)∈H) (hl:LeL cs0 cs):endNw P rs T cs .ret F H:=⟨b,cs0,h,hm,hl⟩
theorem endMR {rs:Array ResultVar}{α:Type}{b:Nat}{T:TypeId}{cs':α→List SV}{res:α→SV}(x:α) (cs:List SV) (h:Ends P rs.toList (res x) F H) (hm:(b,T,cs)∈H) (hl:LeL cs (cs' x)):endM P rs b T cs' res .ret F H:=⟨x,h,cs,hm,hl⟩
end
theorem leN0:Le (lit (.slice none 0 0)) (nat (0:Rat).num.natAbs):=by
 rw [show(0:Rat).num.natAbs=0 from rfl,show nat 0=dg []from by show dg (dgs 0)=_;rw [dgs_zero]]
 exact le_nil
theorem leD0:Le (lit (.slice none 0 0)) (dg (dden (0:Rat).den)):=by
 rw [show(0:Rat).den=1 from rfl,dden_one];exact le_nil
abbrev mz:SV:=ag [lit (.bool false),lit (.slice none 0 0),lit (.slice none 0 0),lit (.bool false),lit (.slice none 0 0),lit (.slice none 0 0),lit (.bool false),lit (.slice none 0 0),lit (.slice none 0 0),lit (.bool false),lit (.slice none 0 0),lit (.slice none 0 0),lit (.bool false),lit (.slice none 0 0),lit (.slice none 0 0),lit (.bool false),lit (.slice none 0 0),lit (.slice none 0 0)]
def Own (T:TypeId) (sz n:Nat) (cs:List SV) (s:SV) (H:LH):Prop :=
 cs.length=n*sz∧((n=0∧s=lit (.slice none 0 0)∧H=[])∨
  ∃b c,n≤c∧c≤maxLen∧s=lit (.slice (some ⟨b,0,none⟩) n c)∧H=[(b,T,cs++List.replicate (c*sz-n*sz) top)])
theorem Own.nil (T:TypeId) (sz:Nat):Own T sz 0 [] (lit (.slice none 0 0)) []:=⟨by simp, .inl ⟨rfl,rfl,rfl⟩⟩
theorem All2.tops {m:Mem}:∀(l:List Value),(∀v∈l,v.oneCell'=true)→All2 m (List.replicate l.length top) l
 | [],_=>trivial
 |v::l,h=>⟨⟨by unfold top;trivial,h v (by simp)⟩,All2.tops l fun u hu=>h u (by simp [hu])⟩
theorem All2.topL {m:Mem}{l:List Value}{k:Nat}(hk:l.length=k) (h:∀v∈l,v.oneCell'=true):All2 m (List.replicate k top) l:=hk▸All2.tops l h
theorem zeroCells_one {z:Array Value}{k:Nat}(h:z.toList.all (·.oneCell')=true):∀v∈(Builtin.zeroCells z k).toList,v.oneCell'=true:=by
 intro v hv
 simp only [Builtin.zeroCells,Array.toList_map,Array.toList_range,List.mem_map,List.mem_range]at hv
 obtain⟨i,hi,rfl⟩:=hv
 have hp:0<z.size:=Nat.pos_of_ne_zero fun e=>by rw [e,Nat.mul_zero]at hi;omega
 have hlt:i%z.size<z.size:=Nat.mod_lt _ hp
 rw [getElem!_pos z _ hlt]
 exact List.all_eq_true.1 h _ (by simp)
theorem All2.split {m:Mem}:∀{cs ds:List SV}{l:List Value},All2 m (cs++ds) l→All2 m cs (l.take cs.length)∧All2 m ds (l.drop cs.length)
 | [],_,l,h=>⟨trivial,h⟩
 |_::_,_,[],h=>h.elim
 |_::_,_,_::_,h=>⟨⟨h.1,h.2.split.1⟩,h.2.split.2⟩
section
variable {P:Program}{C:Ctx}{n:Nat}{F:Fr}{H:LH}{ops:Array Oper}{K:Fr→LH→Prop}{rest:List Oper}{ty:TypeId}{pos:String}{aft:Array Edge}
theorem WPL.appOwn {T e:TypeId}{sz by_:Nat}{z:List SV}{g:Bool} [hS:TSl P T e] [hT:TY P e sz by_ z g]{d:Nat}{x y:Operand}{n0 b2 c2:Nat}{T':TypeId}{cs ds:List SV}{s:SV}{Hs Rs:LH}
  (hown:Own e sz n0 cs s Hs) (hx:ev F x=s) (hy:ev F y=lit (.slice (some ⟨b2,0,none⟩) 1 c2)) (hsp:Spl H Hs Rs) (hm:(b2,T',ds)∈Rs) (hds:ds.length=sz) (hpos:0<sz) (hl:n0≤1000000000) (hby:by_≤10000)
  (k:∀s' H',Own e sz (n0+1) (cs++ds) s' H'→WPL P C n ops rest K (upd F d s') (H'++Rs)) (hd:Nat.blt d n=true) :
  WPL P C n ops (⟨some d, .call ⟨.builtin .append,#[x,y],#[T,T]⟩,ty,pos,aft,none⟩::rest) K F H:=by
 unfold WPL
 intro a w hs0 Q hq
 have hs:=hs0.perm hsp.perm
 refine wpList_plain rfl fun K' hK'=>?_
 obtain⟨hdef,hn,m0,h10,h20,h30,h40,h50⟩:=id hs
 have hp0:∀x,(ev F x).p m0 (a.eval x):=fun x=>by
  cases x with
  |tmp t=>exact h50 t
  |const v=>unfold ev lit;rfl
  |global g=>unfold ev lit;rfl
  |func f=>unfold ev lit;rfl
 have e0:=hp0 x;rw [hx]at e0
 have e1:=hp0 y;rw [hy,lit_p]at e1
 obtain⟨_,arr2,hb2,hall2⟩:=h20.2 _ (List.mem_append_right Hs hm)
 obtain⟨i,v,hi,hsz,hbyt,hz,hzl,hfl,hvs⟩:=hT.run_bytes
 have hlen2:=hall2.length
 simp only [Array.length_toList]at hlen2
 have hys:∀j u,arr2.toList[j]? = some u→w.cell? ((⟨b2,0,none⟩:Addr).add j)=some u:=fun j u hj=>by
  rw [add_none,cell_of w b2 _ arr2 _ _ hb2];simpa using hj
 have hexec:execOp a.eval (⟨some d, .call ⟨.builtin .append,#[x,y],#[T,T]⟩,ty,pos,aft,none⟩:Oper)=(do let v←Builtin.append_ #[T,T] ty #[a.eval x,a.eval y];pure (.value v)):=by
  simp [execOp,resolve,invoke,builtin]
 have hmul:∀q,q≤1000000001→q*by_≤140737488355328:=fun q hq=>Nat.le_trans (Nat.mul_le_mul hq hby) (by decide)
 have get2:∀m,MemIn m w→HOk m w (Hs++Rs)→All2 m ds arr2.toList:=fun m _ h2=>by
  obtain⟨_,arr2',hb2',hall2'⟩:=h2.2 _ (List.mem_append_right Hs hm)
  rw [hb2]at hb2'
  simp only [Option.some.injEq,Obj.cells.injEq]at hb2'
  obtain⟨rfl,_⟩:=hb2'
  exact hall2'
 unfold Oper.wp
 rw [hexec,e1]
 obtain⟨hcl,hcase⟩:=hown
 rcases hcase with⟨rfl,rfl,rfl⟩|⟨b,c,hnc,hcm,rfl,rfl⟩
 ·rw [lit_p]at e0
  have hcs:cs=[]:=List.eq_nil_of_length_eq_zero (by rw [hcl,Nat.zero_mul])
  subst hcs
  have hrun:=run_append_nil (P:=P) w T ty e i v hS.h hi hz ⟨b2,0,none⟩ 1 c2 arr2.toList (by rw [Array.length_toList,hlen2,hsz,hds,Nat.one_mul]) hys (by omega) (by omega) (by rw [hbyt];have:=hmul 1 (by omega);omega)
  rw [e0]
  simp only [Sem.run_bind,hrun,Result.andThen_ok,Sem.run_pure]
  have hge:=grownCap_ge w 1 0 e
  have hle:=grownCap_le_maxLen w 1 0 e (by simp only [maxLen];omega)
  have h:=k (lit (.slice (some ⟨w.heap.size,0,none⟩) 1 (grownCap w 1 0 e))) [(w.heap.size,e,([]++ds)++List.replicate (grownCap w 1 0 e*sz-1*sz) top)] ⟨by rw [List.nil_append,hds];omega, .inr ⟨_,_,hge,hle,rfl,by rw [Nat.zero_add]⟩⟩
  unfold WPL at h
  refine hK' _ _ (h _ _ (St.pushD (Nat.blt_eq.mp hd) hs fun m h1 h2 _=>?_) Q hq)
  simp only [Array.toList_append,List.toList_toArray,List.nil_append]
  refine(get2 m h1 h2).append (All2.topL ?_ (zeroCells_one hfl))
  rw [Array.length_toList,size_zeroCells,hvs,Nat.sub_mul]
 ·rw [lit_p]at e0
  obtain⟨hmb,arr,hb,hall⟩:=h20.2 _ (List.mem_append_left Rs (List.mem_singleton.2 rfl))
  have hlen:=hall.length
  simp only [List.length_append,List.length_replicate,hcl,Array.length_toList]at hlen
  have hmono:n0*sz≤c*sz:=Nat.mul_le_mul_right _ hnc
  have getc:∀m,HOk m w ([(b,e,cs++List.replicate (c*sz-n0*sz) top)]++Rs)→All2 m (cs++List.replicate (c*sz-n0*sz) top) arr.toList:=fun m h2=>by
   obtain⟨_,arr',hb',hall'⟩:=h2.2 _ (List.mem_append_left Rs (List.mem_singleton.2 rfl))
   rw [hb]at hb'
   simp only [Option.some.injEq,Obj.cells.injEq]at hb'
   obtain⟨rfl,_⟩:=hb'
   exact hall'
  by_cases hroom:n0+1≤c
  ·have hm1:(n0+1)*sz≤c*sz:=Nat.mul_le_mul_right _ hroom
   rw [Nat.succ_mul]at hm1
   have hrun:=run_append_room (P:=P) w T ty e i hS.h hi b n0 c arr hb ⟨b2,0,none⟩ 1 c2 arr2.toList (by rw [Array.length_toList,hlen2,hsz,hds,Nat.one_mul]) hys hall2.flat hroom (by rw [hsz,Array.length_toList,hlen2,hds];omega)
   rw [e0]
   simp only [Sem.run_bind,hrun,Result.andThen_ok,Sem.run_pure]
   have h:=k (lit (.slice (some ⟨b,0,none⟩) (n0+1) c)) [(b,e,(cs++ds)++List.replicate (c*sz-(n0+1)*sz) top)] ⟨by rw [List.length_append,hcl,hds,Nat.succ_mul], .inr ⟨_,_,hroom,hcm,rfl,rfl⟩⟩
   unfold WPL at h
   have hfin:All2 m0 ((cs++ds)++List.replicate (c*sz-(n0+1)*sz) top) (arr.toList.take (n0*i.size)++arr2.toList++arr.toList.drop (n0*i.size+arr2.toList.length)).toArray.toList:=by
    obtain⟨q1,q2⟩:=(getc m0 h20).split
    rw [hcl]at q1 q2
    rw [hsz,Array.length_toList,hlen2,hds,List.toList_toArray]
    refine(q1.append (get2 m0 h10 h20)).append (All2.topL ?_ fun u hu=>?_)
    ·rw [List.length_drop,Array.length_toList,Nat.succ_mul];omega
    ·exact hall.flat u (List.mem_of_mem_drop hu)
   obtain⟨q1,q2,q3,q4⟩:=write_ok (w':=w.setRow b (arr.toList.take (n0*i.size)++arr2.toList++arr.toList.drop (n0*i.size+arr2.toList.length)).toArray) h10 h20 h30 h40 (.here Rs)
    (setRow_heap w b arr _ e _ hb) (fun j hj=>setRow_other w b j _ hj) rfl rfl rfl (by simp) hfin
   refine hK' _ _ (h (a.put (some d) (.slice (some ⟨b,0,none⟩) (n0+1) c)) _ ⟨hdef,by simpa [Act.put] using hn,m0,q1,q2,q3,q4,fun t=>?_⟩ Q hq)
   rw [getD_put (Nat.lt_of_lt_of_le (Nat.blt_eq.mp hd) hn)]
   unfold Ab.upd
   by_cases ht:t=d
   ·subst ht;rw [if_pos rfl,Nat.beq_refl];exact lit_p.2 rfl
   ·rw [if_neg ht]
    have:Nat.beq t d=false:=by
     cases hbb:Nat.beq t d with
     |false=>rfl
     |true=>exact absurd (Nat.eq_of_beq_eq_true hbb) ht
    rw [this]
    exact h50 t
  ·have hxs:∀j u,(arr.toList.take (n0*sz))[j]? = some u→w.cell? ((⟨b,0,none⟩:Addr).add j)=some u:=fun j u hj=>by
    rw [add_none,cell_of w b _ arr _ _ hb]
    rw [List.getElem?_take]at hj
    split at hj
    ·simpa using hj
    ·cases hj
   have hrun:=run_append_grow (P:=P) w T ty e i v hS.h hi hz ⟨b,0,none⟩ n0 c (arr.toList.take (n0*sz)) (by rw [List.length_take,Array.length_toList,hsz];omega) hxs
    ⟨b2,0,none⟩ 1 c2 arr2.toList (by rw [Array.length_toList,hlen2,hsz,hds,Nat.one_mul]) hys (by omega) (by omega) (growslice_fits (by omega) (by rw [hbyt];exact hmul _ (by omega)))
   rw [e0]
   simp only [Sem.run_bind,hrun,Result.andThen_ok,Sem.run_pure]
   have hge:=grownCap_ge w (n0+1) c e
   have hle:=grownCap_le_maxLen w (n0+1) c e (by simp only [maxLen];omega)
   have h:=k (lit (.slice (some ⟨w.heap.size,0,none⟩) (n0+1) (grownCap w (n0+1) c e))) [(w.heap.size,e,(cs++ds)++List.replicate (grownCap w (n0+1) c e*sz-(n0+1)*sz) top)]
    ⟨by rw [List.length_append,hcl,hds,Nat.succ_mul], .inr ⟨_,_,hge,hle,rfl,rfl⟩⟩
   unfold WPL at h
   have hst:=St.pushD (d:=d) (cs:=(cs++ds)++List.replicate (grownCap w (n0+1) c e*sz-(n0+1)*sz) top) (v := .slice (some ⟨w.heap.size,0,none⟩) (n0+1) (grownCap w (n0+1) c e)) (T:=e)
    (arr:=(arr.toList.take (n0*sz)).toArray++arr2.toList.toArray++Builtin.zeroCells v.cells (grownCap w (n0+1) c e-(n0+1))) (Nat.blt_eq.mp hd) hs fun m h1 h2 _=>?_
   ·refine hK' _ _ (h _ _ ?_ Q hq)
    exact hst.drop (.there _ (.here _))
   ·simp only [Array.toList_append,List.toList_toArray]
    obtain⟨q1,_⟩:=(getc m h2).split
    rw [hcl]at q1
    refine(q1.append (get2 m h1 h2)).append (All2.topL ?_ (zeroCells_one hfl))
    rw [Array.length_toList,size_zeroCells,hvs,Nat.sub_mul]
inductive Tk:LH→LH→LH→Prop
 |nil (R:LH):Tk R [] R
 |same (R:LH):Tk R R []
 |cons {b:Nat}{T:TypeId}{cs:List SV}{H H1 Hin R:LH}(h:HDel b T cs H H1) (k:Tk H1 Hin R):Tk H ((b,T,cs)::Hin) R
 |skip (e:Nat×TypeId×List SV){H Hin R:LH}(k:Tk H Hin R):Tk (e::H) Hin (e::R)
theorem Tk.perm {H Hin R:LH}(h:Tk H Hin R):H.Perm (Hin++R):=by
 induction h with
 |nil=>exact List.Perm.refl _
 |same=>rw [List.append_nil]
 |cons h _ ih=>exact h.perm.trans (ih.cons _)
 |skip e _ ih=>exact(ih.cons e).trans List.perm_middle.symm
theorem Spl.app:∀(Hin R:LH),Spl (Hin++R) Hin R
 | [],R => .nil R
 |(_,_,_)::Hin,R => .cons (.here _) (Spl.app Hin R)
theorem WPL.perm {l:List Oper}{H':LH}(hp:H.Perm H') (k:WPL P C n ops l K F H'):WPL P C n ops l K F H:=by
 unfold WPL at *
 exact fun a w hs=>k a w (hs.perm hp)
theorem WP.perm {c:Code}{H':LH}{Q:Exit→Fr→LH→Prop}(hp:H.Perm H') (k:WP P C n c Q F H'):WP P C n c Q F H:=by
 unfold WP at *
 exact fun a w hs=>k a w (hs.perm hp)
theorem WfT {f:FuncId}{d:Nat}{l:List Operand}{tys:Array TypeId}{svs:List SV}{Hin Rs:LH}{R:SV→LH→Prop}(hc:PuH P f svs Hin R noX) (k:∀res H',R res H'→WPL P C n ops rest K (upd F d res) (Rs++H'))
  (ha:l.map (ev F)=svs:=by exact rfl) (hs:Tk H Hin Rs:=by(repeat(first|exact Tk.nil _|exact Tk.same _|(apply Tk.cons;(first|exact(HDel.here _)|exact(HDel.there _ (HDel.here _))|exact(HDel.there _ (HDel.there _ (HDel.here _)))|exact(HDel.there _ (HDel.there _ (HDel.there _ (HDel.here _))))|exact(HDel.there _ (HDel.there _ (HDel.there _ (HDel.there _ (HDel.here _)))))|exact(HDel.there _ (HDel.there _ (HDel.there _ (HDel.there _ (HDel.there _ (HDel.here _))))))|exact(HDel.there _ (HDel.there _ (HDel.there _ (HDel.there _ (HDel.there _ (HDel.there _ (HDel.here _)))))))|exact(HDel.there _ (HDel.there _ (HDel.there _ (HDel.there _ (HDel.there _ (HDel.there _ (HDel.there _ (HDel.here _))))))))|exact(HDel.there _ (HDel.there _ (HDel.there _ (HDel.there _ (HDel.there _ (HDel.there _ (HDel.there _ (HDel.there _ (HDel.here _)))))))))|exact(HDel.there _ (HDel.there _ (HDel.there _ (HDel.there _ (HDel.there _ (HDel.there _ (HDel.there _ (HDel.there _ (HDel.there _ (HDel.here _))))))))))))|apply Tk.skip))) (hd:Nat.blt d n=true:=by exact rfl) :
  WPL P C n ops (⟨some d, .call ⟨.value (.func f),l.toArray,tys⟩,ty,pos,aft,none⟩::rest) K F H :=
 .perm hs.perm (.callH (s:=lit (.func (.func f) #[] #[])) (first:=[]) (caps:=[]) rfl hc (Spl.app _ _) (by rw [List.nil_append,List.append_nil];exact ha) hd (fun res H' h => .perm List.perm_append_comm (k res H' h)) fun _ _ h=>h.elim)
theorem WvT {x:Operand}{f:FuncId}{first caps:List SV}{d:Nat}{l:List Operand}{tys:Array TypeId}{svs:List SV}{Hin Rs:LH}{R:SV→LH→Prop}(hc:PuH P f svs Hin R noX) (k:∀res H',R res H'→WPL P C n ops rest K (upd F d res) (Rs++H'))
  (hx:ev F x=fnv f first caps:=by exact rfl) (ha:first++l.map (ev F)++caps=svs:=by exact rfl) (hs:Tk H Hin Rs:=by(repeat(first|exact Tk.nil _|exact Tk.same _|(apply Tk.cons;(first|exact(HDel.here _)|exact(HDel.there _ (HDel.here _))|exact(HDel.there _ (HDel.there _ (HDel.here _)))|exact(HDel.there _ (HDel.there _ (HDel.there _ (HDel.here _))))|exact(HDel.there _ (HDel.there _ (HDel.there _ (HDel.there _ (HDel.here _)))))|exact(HDel.there _ (HDel.there _ (HDel.there _ (HDel.there _ (HDel.there _ (HDel.here _))))))|exact(HDel.there _ (HDel.there _ (HDel.there _ (HDel.there _ (HDel.there _ (HDel.there _ (HDel.here _)))))))|exact(HDel.there _ (HDel.there _ (HDel.there _ (HDel.there _ (HDel.there _ (HDel.there _ (HDel.there _ (HDel.here _))))))))|exact(HDel.there _ (HDel.there _ (HDel.there _ (HDel.there _ (HDel.there _ (HDel.there _ (HDel.there _ (HDel.there _ (HDel.here _)))))))))|exact(HDel.there _ (HDel.there _ (HDel.there _ (HDel.there _ (HDel.there _ (HDel.there _ (HDel.there _ (HDel.there _ (HDel.there _ (HDel.here _))))))))))))|apply Tk.skip))) (hd:Nat.blt d n=true:=by exact rfl) :
  WPL P C n ops (⟨some d, .call ⟨.value x,l.toArray,tys⟩,ty,pos,aft,none⟩::rest) K F H :=
 .perm hs.perm (.callH hx hc (Spl.app _ _) ha hd (fun res H' h => .perm List.perm_append_comm (k res H' h)) fun _ _ h=>h.elim)
theorem Wown {T e:TypeId}{sz by_:Nat}{z:List SV}{g:Bool} [hS:TSl P T e] [hT:TY P e sz by_ z g]{d:Nat}{x y:Operand}{n0 b2 c2:Nat}{T':TypeId}{cs ds:List SV}{s:SV}{Hs Rs:LH}
  (hown:Own e sz n0 cs s Hs) (hl:n0≤1000000000) (k:∀s' H',Own e sz (n0+1) (cs++ds) s' H'→WPL P C n ops rest K (upd F d s') (Rs++H'))
  (hx:ev F x=s:=by exact rfl) (hy:ev F y=lit (.slice (some ⟨b2,0,none⟩) 1 c2):=by exact rfl) (hsp:Tk H Hs Rs:=by(repeat(first|exact Tk.nil _|exact Tk.same _|(apply Tk.cons;(first|exact(HDel.here _)|exact(HDel.there _ (HDel.here _))|exact(HDel.there _ (HDel.there _ (HDel.here _)))|exact(HDel.there _ (HDel.there _ (HDel.there _ (HDel.here _))))|exact(HDel.there _ (HDel.there _ (HDel.there _ (HDel.there _ (HDel.here _)))))|exact(HDel.there _ (HDel.there _ (HDel.there _ (HDel.there _ (HDel.there _ (HDel.here _))))))|exact(HDel.there _ (HDel.there _ (HDel.there _ (HDel.there _ (HDel.there _ (HDel.there _ (HDel.here _)))))))|exact(HDel.there _ (HDel.there _ (HDel.there _ (HDel.there _ (HDel.there _ (HDel.there _ (HDel.there _ (HDel.here _))))))))|exact(HDel.there _ (HDel.there _ (HDel.there _ (HDel.there _ (HDel.there _ (HDel.there _ (HDel.there _ (HDel.there _ (HDel.here _)))))))))|exact(HDel.there _ (HDel.there _ (HDel.there _ (HDel.there _ (HDel.there _ (HDel.there _ (HDel.there _ (HDel.there _ (HDel.there _ (HDel.here _))))))))))))|apply Tk.skip))) (hm:(b2,T',ds)∈Rs:=by(first|exact List.mem_cons_self|exact(List.mem_cons_of_mem _ List.mem_cons_self)|exact(List.mem_cons_of_mem _ (List.mem_cons_of_mem _ List.mem_cons_self))|exact(List.mem_cons_of_mem _ (List.mem_cons_of_mem _ (List.mem_cons_of_mem _ List.mem_cons_self)))|exact(List.mem_cons_of_mem _ (List.mem_cons_of_mem _ (List.mem_cons_of_mem _ (List.mem_cons_of_mem _ List.mem_cons_self))))|exact(List.mem_cons_of_mem _ (List.mem_cons_of_mem _ (List.mem_cons_of_mem _ (List.mem_cons_of_mem _ (List.mem_cons_of_mem _ List.mem_cons_self)))))|exact(List.mem_cons_of_mem _ (List.mem_cons_of_mem _ (List.mem_cons_of_mem _ (List.mem_cons_of_mem _ (List.mem_cons_of_mem _ (List.mem_cons_of_mem _ List.mem_cons_self))))))|exact(List.mem_cons_of_mem _ (List.mem_cons_of_mem _ (List.mem_cons_of_mem _ (List.mem_cons_of_mem _ (List.mem_cons_of_mem _ (List.mem_cons_of_mem _ (List.mem_cons_of_mem _ List.mem_cons_self)))))))|exact(List.mem_cons_of_mem _ (List.mem_cons_of_mem _ (List.mem_cons_of_mem _ (List.mem_cons_of_mem _ (List.mem_cons_of_mem _ (List.mem_cons_of_mem _ (List.mem_cons_of_mem _ (List.mem_cons_of_mem _ List.mem_cons_self))))))))|exact(List.mem_cons_of_mem _ (List.mem_cons_of_mem _ (List.mem_cons_of_mem _ (List.mem_cons_of_mem _ (List.mem_cons_of_mem _ (List.mem_cons_of_mem _ (List.mem_cons_of_mem _ (List.mem_cons_of_mem _ (List.mem_cons_of_mem _ List.mem_cons_self))))))))))) (hds:ds.length=sz:=by exact rfl) (hpos:0<sz:=by decide) (hby:by_≤10000:=by decide)
  (hd:Nat.blt d n=true:=by exact rfl) :
  WPL P C n ops (⟨some d, .call ⟨.builtin .append,#[x,y],#[T,T]⟩,ty,pos,aft,none⟩::rest) K F H :=
 .perm hsp.perm (.appOwn hown hx hy (Spl.app _ _) hm hds hpos hl hby (fun s' H' h => .perm List.perm_append_comm (k s' H' h)) hd)
theorem Own.co {T:TypeId}{sz n0:Nat}{cs:List SV}{s:SV}{Hs:LH}(h:Own T sz n0 cs s Hs):CO s [s]:=by
 obtain⟨_,⟨_,rfl,_⟩|⟨_,_,_,_,rfl,_⟩⟩:=h <;> exact co_one fun m v hv=>by rw [lit_p]at hv;subst hv;exact⟨rfl,rfl⟩
theorem ov_lenOwn {T e:TypeId}{sz n0:Nat}{cs:List SV}{s:SV}{Hs:LH}{x:Operand} [hS:TSl P T e] (h:Own e sz n0 cs s Hs) (hx:ev F x=s):OpV P (.call ⟨.builtin .len,#[x],#[T]⟩) ty F H (lit (.int .i64 n0)):=by
 obtain⟨_,⟨rfl,rfl,_⟩|⟨_,_,_,_,rfl,_⟩⟩:=h
 ·exact ov_lenL hx
 ·exact ov_lenL hx
end
theorem ht_g3 {a b c:Rat}{L:Nat}(ha:ht a≤L) (hb:ht b≤L) (hc:ht c≤L):ht (rgcd a b)≤2*L+1∧ht (g3 a b c)≤3*L+2∧ht (g3 a b c)⁻¹≤3*L+3:=by
 have h1:=ht_rgcd a b
 have h2:=ht_rgcd (rgcd a b) c
 have h3:=ht_inv (g3 a b c)
 have e:g3 a b c=rgcd (rgcd a b) c:=rfl
 rw [←e]at h2
 omega
set_option maxRecDepth 20000 in
set_option maxHeartbeats 1000000 in
theorem make_pu (a b c:Rat){L:Nat}(hL:L≤100000) (ha:ht a≤L) (hb:ht b≤L) (hc:ht c≤L) (h:a≠0∨b≠0):Pu Tryz.prog 203 [fr a,fr b,fr c] (Ab.tup [lf (prim a b c).a (prim a b c).b (prim a b c).c,lit (.bool true)]):=by
 obtain⟨h1,h2,h3⟩:=ht_g3 ha hb hc
 have c1:=zero_pu a
 have c2:=zero_pu b
 have c3:=frgcd_pu a b (by omega) (by omega)
 have c4:=frgcd_pu (rgcd a b) c (by omega) (by omega)
 have c5:Pu Tryz.prog 264 [fr (rgcd (rgcd a b) c)] (fr (g3 a b c)⁻¹):=inv_pu (g3 a b c) (by omega)
 obtain⟨e1,e2,e3⟩:=prim_eq (c:=c) h
 have c6:=fun b0=>scaled_pu b0 (g3 a b c)⁻¹ a b c (by omega) (by omega) (by omega) (by omega)
 rw [e1,e2,e3]at c6
 generalize(g3 a b c)⁻¹=q at *
 generalize rgcd a b=r1 at *
 generalize rgcd r1 c=r2 at *
 clear e1 e2 e3
 by_cases h0:a.num=0
 ·have h9:b.num≠0:=fun e=>by
   rcases h with h|h
   ·exact h (Rat.num_eq_zero.1 h0)
   ·exact h (Rat.num_eq_zero.1 e)
  rw [decide_eq_true h0]at c1
  rw [decide_eq_false h9]at c2
  clear h0 h9 h
  refine Pu.intro Tryz.func203 rfl (by kernel_rfl) fun C=>?_
  repeat(first|(refine AS ⟨?_⟩;intros)|(refine O1 ⟨?_⟩;intros)|(refine Wcx (c1) ?_)|(refine Wcgx (c1) ?_)|(refine Wcx (c2) ?_)|(refine Wcgx (c2) ?_))
  refine WdN 10 ?_
  repeat(first|(refine A1 ⟨?_⟩;intros)|refine W4 c3 ⟨?_⟩|refine W4 c4 ⟨?_⟩|refine W4 c5 ⟨?_⟩)
  simp only [List.drop_succ_cons,List.drop_zero]
  refine WfT (c6 _) ?_
  rintro _ _ ⟨rfl,rfl⟩
  repeat(refine A1 ⟨?_⟩;intros)
  ((first|refine endR ?_|refine endN ?_);exact end2 RVa (RV.tmp rfl) (Le.refl _))
 ·rw [decide_eq_false h0]at c1
  clear h0 h
  refine Pu.intro Tryz.func203 rfl (by kernel_rfl) fun C=>?_
  repeat(first|(refine AS ⟨?_⟩;intros)|(refine O1 ⟨?_⟩;intros)|(refine Wcx (c1) ?_)|(refine Wcgx (c1) ?_))
  refine WdN 10 ?_
  repeat(first|(refine A1 ⟨?_⟩;intros)|refine W4 c3 ⟨?_⟩|refine W4 c4 ⟨?_⟩|refine W4 c5 ⟨?_⟩)
  simp only [List.drop_succ_cons,List.drop_zero]
  refine WfT (c6 _) ?_
  rintro _ _ ⟨rfl,rfl⟩
  repeat(refine A1 ⟨?_⟩;intros)
  ((first|refine endR ?_|refine endN ?_);exact end2 RVa (RV.tmp rfl) (Le.refl _))
theorem prim_le {a b c:Rat}{L:Nat}(ha:ht a≤L) (hb:ht b≤L) (hc:ht c≤L):(prim a b c).le (4*L+4):=by
 obtain⟨_,_,h3⟩:=ht_g3 ha hb hc
 have k1:=ht_mul a (g3 a b c)⁻¹
 have k2:=ht_mul b (g3 a b c)⁻¹
 have k3:=ht_mul c (g3 a b c)⁻¹
 have n1:=ht_num (a*(g3 a b c)⁻¹)
 have n2:=ht_num (b*(g3 a b c)⁻¹)
 have n3:=ht_num (c*(g3 a b c)⁻¹)
 unfold prim
 constructor <;> simp only <;> omega
set_option maxHeartbeats 1000000 in
theorem lnOf_pu {l:Li}(hl:l.ok) (h:l.le 100000):Pu Tryz.prog 198 [lq l] (Ab.tup [lf l.a l.b l.c,lit (.bool true)]):=by
 obtain⟨ha,hb,hc⟩:=h
 have e1:=ht_of_int l.a
 have e2:=ht_of_int l.b
 have e3:=ht_of_int l.c
 have n1:=intNormal_z l.a (by omega)
 have n2:=intNormal_z l.b (by omega)
 have n3:=intNormal_z l.c (by omega)
 have w1:=whole_pu l.a (by omega)
 have w2:=whole_pu l.b (by omega)
 have w3:=whole_pu l.c (by omega)
 have z1:=zero_pu (l.a:Rat)
 have z2:=zero_pu (l.b:Rat)
 rw [Rat.num_intCast]at z1 z2
 have hg1:=ht_rgcd (l.a:Rat) (l.b:Rat)
 have g1:=frgcd_pu (l.a:Rat) (l.b:Rat) (by omega) (by omega)
 have g2:=frgcd_pu (rgcd l.a l.b) (l.c:Rat) (by omega) (by omega)
 have hg:rgcd (rgcd l.a l.b) l.c=1:=by
  rw [rgcd_ints,show((Nat.gcd l.a.natAbs l.b.natAbs:Nat):Rat)=(((Nat.gcd l.a.natAbs l.b.natAbs:Nat):Int):Rat)from rfl,rgcd_ints,Int.natAbs_natCast,hl.1];rfl
 rw [hg]at g2
 generalize rgcd (l.a:Rat) (l.b:Rat)=G at *
 have f1:Pu Tryz.prog 127 [lit (.int .i64 1)] (fr 1):=fint_pu 1 (by omega) (by omega)
 have q:=fequal_pu 1 1 (by decide +kernel) (by decide +kernel)
 rw [decide_eq_true rfl]at q
 have hne:=hl.2
 clear hg hg1 e1 e2 e3 ha hb hc hl
 by_cases h0:l.a=0
 ·have h9:l.b≠0:=by
   rcases hne with h|h
   ·exact absurd h0 h
   ·exact h
  rw [decide_eq_true h0]at z1
  rw [decide_eq_false h9]at z2
  clear hne h9 h0
  refine Pu.intro Tryz.func198 rfl (by kernel_rfl) fun C=>?_
  repeat(first|(refine A1 ⟨?_⟩;intros)|refine W4 n1 ⟨?_⟩|refine W4 n2 ⟨?_⟩|refine W4 n3 ⟨?_⟩|refine W4 w1 ⟨?_⟩|refine W4 w2 ⟨?_⟩|refine W4 w3 ⟨?_⟩|refine W4 z1 ⟨?_⟩|refine W4 z2 ⟨?_⟩|refine W4 g1 ⟨?_⟩|refine W4 g2 ⟨?_⟩|refine W4 f1 ⟨?_⟩|refine W4 q ⟨?_⟩)
  ((first|refine endR ?_|refine endN ?_);exact end2 RVa (RV.tmp rfl) (Le.refl _))
 ·rw [decide_eq_false h0]at z1
  clear hne h0 z2
  refine Pu.intro Tryz.func198 rfl (by kernel_rfl) fun C=>?_
  repeat(first|(refine A1 ⟨?_⟩;intros)|refine W4 n1 ⟨?_⟩|refine W4 n2 ⟨?_⟩|refine W4 n3 ⟨?_⟩|refine W4 w1 ⟨?_⟩|refine W4 w2 ⟨?_⟩|refine W4 w3 ⟨?_⟩|refine W4 z1 ⟨?_⟩|refine W4 g1 ⟨?_⟩|refine W4 g2 ⟨?_⟩|refine W4 f1 ⟨?_⟩|refine W4 q ⟨?_⟩)
  ((first|refine endR ?_|refine endN ?_);exact end2 RVa (RV.tmp rfl) (Le.refl _))
abbrev fe (ro:Option Nat):Fence:={fn:=fun _=>True,depth:=none,alive:=false,round:=ro}
theorem callsIn_fe {ro:Option Nat}{n:Nat}{P:Program}{f:FuncId}{args:Array Value}{w:World}{R:Ending→World→Prop}(h:Calls P f args w R):CallsIn (fe ro) n P f args w R:=callsIn_wide.2 h
theorem rowsIn_fe {ro:Option Nat}{n:Nat}{P:Program}{row:String}{args:Array Value}{w:World}{R:Value→World→Prop}(h:Rows P row args w R):RowsIn (fe ro) n P row args w R :=
 fun c cs _=>let⟨v,w',r,s⟩:=h c cs;⟨v,w',r,stepsIn_wide.2 s⟩
def isDefer:Op→Bool
 | .defer _=>true
 |_=>false
theorem not_defer {o:Oper}(h:(!isDefer o.op)=true):∀c,o.op≠ .defer c:=fun c e=>by rw [e]at h;cases h
theorem up1 {ro:Option Nat}{d:Nat}{P:Program}{o:Oper}{a:Act}{w:World}{K:Act→World→Prop}{Q:Exit→Act→World→Prop}(hd:(!isDefer o.op)=true) (h:o.wp P a w K Q):o.wpIn (fe ro) d P a w K Q:=by
 refine⟨fun _ _=>trivial,?_⟩
 rw [Oper.semAt_eq _ _ _ (not_defer hd)]
 unfold Oper.wp at h
 generalize(execOp a.eval o).run P w=r at *
 cases r with
 |ok x w' =>
  cases x with
  |value v=>exact h
  |skip=>exact h
  |defer d=>exact h
  |enter f args=>exact⟨(fun e=>by cases e),callsIn_fe h⟩
  |row r args=>exact⟨(fun e=>by cases e),rowsIn_fe h⟩
  |_=>exact h.elim
 |halt x w' =>
  cases x with
  |panic v=>exact h
  |_=>exact h.elim
theorem upL {ro:Option Nat}{d:Nat}{P:Program}{ops:Array Oper}{Q:Exit→Act→World→Prop}(hq:∀a w,¬Q .outgrown a w):∀(l:List Oper) (a:Act) (w:World),(l.all fun o => !isDefer o.op)=true→wpList P ops Q l a w→wpListIn (fe ro) d P ops Q l a w
 | [],a,w,_,h=>h
 |o::l,a,w,hd,h=>by
  rw [List.all_cons,Bool.and_eq_true]at hd
  unfold wpList at h
  unfold wpListIn
  split
  ·rename_i hw
   rw [if_pos hw]at h
   rcases h with h|⟨_,a0,w0,h0⟩
   ·exact Oper.wpIn_mono (fun a w=>upL hq l a w hd.2) (up1 hd.1 h)
   ·exact(hq _ _ h0).elim
  ·rename_i hw
   rw [if_neg hw]at h
   exact⟨fun _ _=>trivial,upL hq l _ w hd.2 h⟩
section
variable {P:Program}{C:Ctx}{n:Nat}{Q:Exit→Fr→LH→Prop}{F:Fr}{H:LH}{ro:Option Nat}
attribute [local semireducible] WP WPL thenQ blkQ
def WPX (ro:Option Nat) (P:Program) (C:Ctx) (n:Nat) (c:Code) (Q:Exit→Fr→LH→Prop) (F:Fr) (H:LH):Prop:=∀a w,St C n F H a w→∀d,c.wpIn (fe ro) d P (liftQ C n Q) a w
theorem WPX.le {c:Code}{F':Fr}(k:LeF F F') (h:WPX ro P C n c Q F' H):WPX ro P C n c Q F H:=fun a w hs=>h a w (hs.le k)
theorem WPX.seq {x y:Code}(h:WPX ro P C n x (thenQ (WPX ro P C n y Q) Q) F H):WPX ro P C n (.seq x y) Q F H:=by
 intro a w hs d
 refine wpIn_seq (wpIn_mono (h a w hs d) ?_)
 rintro e a' w' (⟨F',H',hs',hq⟩|⟨ch,rfl,hp⟩)
 ·cases e with
  |normal=>exact hq a' w' hs' d
  |_=>exact .inl ⟨F',H',hs',hq⟩
 ·exact .inr ⟨ch,rfl,hp⟩
theorem WPX.block {id:Nat}{c:Code}(h:WPX ro P C n c (blkQ id Q) F H):WPX ro P C n (.block id c) Q F H:=by
 intro a w hs d
 refine wpIn_block (wpIn_mono (h a w hs d) ?_)
 rintro e a' w' (⟨F',H',hs',hq⟩|⟨ch,rfl,hp⟩)
 ·cases e with
  |exit id' =>
   simp only [blkQ]at hq
   simp only [Exit.inBlock]
   cases hb:Nat.beq id' id with
   |true=>rw [hb]at hq;rw [if_pos (Nat.eq_of_beq_eq_true hb)];exact .inl ⟨F',H',hs',hq⟩
   |false=>rw [hb]at hq;rw [if_neg (fun h=>by rw [h,Nat.beq_refl]at hb;cases hb)];exact .inl ⟨F',H',hs',hq⟩
  |_=>exact .inl ⟨F',H',hs',hq⟩
 ·exact .inr ⟨ch,rfl,hp⟩
theorem WPX.skip (h:Q .normal F H):WPX ro P C n .skip Q F H:=fun _ _ hs _=>wpIn_skip (.mk hs h)
theorem WPX.exit {id:Nat}(h:Q (.exit id) F H):WPX ro P C n (.exit id) Q F H:=fun _ _ hs _=>wpIn_exit (.mk hs h)
theorem WPX.ret (h:Q .ret F H):WPX ro P C n .ret Q F H:=fun _ _ hs _=>wpIn_ret (.mk hs h)
theorem WPX.cond {c:Operand}{x y:Code}{t:Bool}(hc:ev F c=lit (.bool t)) (h1:t=true→WPX ro P C n x Q F H) (h2:t=false→WPX ro P C n y Q F H):WPX ro P C n (.cond c x y) Q F H:=by
 intro a w hs d
 obtain⟨m,_,hp⟩:=hs.evp
 have hv:=hp c
 rw [hc,lit_p]at hv
 exact wpIn_cond_split hv (fun h=>h1 h a w hs d) (fun h=>h2 h a w hs d)
theorem WPX.reg {id:Nat}{l:List Oper}(h:WPL P C n l.toArray l (fun F H=>Q .normal F H) F H) (hd:(l.all fun o => !isDefer o.op)=true:=by exact rfl):WPX ro P C n (.region id l.toArray false) Q F H:=by
 intro a w hs d
 have h1:=h a w hs (fun e a w=>e≠ .outgrown∧liftQ C n Q e a w) ⟨fun _ _ _ _ hs hq=>⟨(by intro e;cases e), .mk hs hq⟩,fun ch _ _ hp=>⟨(by intro e;cases e), .inr ⟨ch,rfl,hp⟩⟩⟩
 exact wpIn_mono (wpIn_region_lit (upL (fun a w h=>h.1 rfl) l a w hd h1)) fun e a w h=>h.2
theorem MemIn.putObj {m:Mem}{w:World}{l:Nat}{o:Obj}(h:MemIn m w) (hl:m l=none):MemIn m (w.putObj l o) :=
 ⟨fun b x hb=>by
  have hne:b≠l:=fun e=>by rw [e,hl]at hb;cases hb
  rw [World.putObj_heap_other hne]
  exact h b x hb,h.base⟩
theorem HOk.putObj {m:Mem}{w:World}{l:Nat}{o:Obj}(h:HOk m w H) (hl:∀e∈H,e.1≠l):HOk m (w.putObj l o) H :=
 ⟨h.1,fun e he=>by
  obtain⟨h1,arr,h2,h3⟩:=h.2 e he
  exact⟨h1,arr,by rw [World.putObj_heap_other (hl e he)];exact h2,h3⟩⟩
theorem HOk.ne_loop {m:Mem}{w:World}{l:Nat}{r:Loop}(h:HOk m w H) (hl:w.heap[l]? = some (.loop r)):∀e∈H,e.1≠l:=fun e he hel=>by
 obtain⟨_,arr,h2,_⟩:=h.2 e he
 rw [hel,hl]at h2
 cases h2
theorem lt_of_at {w:World}{l:Nat}{o:Obj}(h:w.heap[l]? = some o):l<w.heap.size:=(Array.getElem?_eq_some_iff.1 h).1
theorem Rel.putL {m:Mem}{w:World}{l:Nat}{o:Obj}:Rel [l] m w m (w.putObj l o) :=
 ⟨Mem.le_refl m,fun _ _ _=>rfl,rfl,rfl,rfl,by rw [World.putObj_size];exact Nat.le_refl _,fun b _ hn=>World.putObj_heap_other (fun e=>hn (by rw [e];exact List.mem_singleton.2 rfl))⟩
theorem Rel.around {ks:List Nat}{m m':Mem}{w w':World}{l:Nat}{o o1:Obj}(h:Rel ks m (w.putObj l o1) m' w') (hl:w.heap[l]? = some o):Rel ks m w m' (w'.putObj l o):=by
 have hs:w.heap.size≤w'.heap.size:=by have:=h.size;rwa [World.putObj_size]at this
 refine⟨h.le,fun b hb hn=>h.old b (by rwa [World.putObj_size]) hn,h.os,h.tape,h.output,by rw [World.putObj_size];exact hs,fun b hb hn=>?_⟩
 by_cases e:b=l
 ·subst e
  rw [World.putObj_heap_same (by omega),hl]
 ·rw [World.putObj_heap_other e]
  have:=h.block b (by rwa [World.putObj_size]) hn
  rwa [World.putObj_heap_other e]at this
theorem Rel.after {ks:List Nat}{m m':Mem}{w w':World}{l:Nat}{o o1:Obj}(h:Rel ks m (w.putObj l o1) m' w'):Rel (l::ks) m w m' (w'.putObj l o):=by
 have hs:w.heap.size≤w'.heap.size:=by have:=h.size;rwa [World.putObj_size]at this
 refine⟨h.le,fun b hb hn=>h.old b (by rwa [World.putObj_size]) (fun x=>hn (List.mem_cons_of_mem _ x)),h.os,h.tape,h.output,by rw [World.putObj_size];exact hs,fun b hb hn=>?_⟩
 have e:b≠l:=fun e=>hn (by rw [e];exact List.mem_cons_self)
 rw [World.putObj_heap_other e]
 have:=h.block b (by rwa [World.putObj_size]) (fun x=>hn (List.mem_cons_of_mem _ x))
 rwa [World.putObj_heap_other e]at this
theorem St.putLoop {a:Act}{w1:World}{l:Nat}{r:Loop}{o:Obj}(h:St C n F H a w1) (hm:C.m l=none) (hl:C.w.heap[l]? = some (.loop r)) (hk:l∉C.ks):St {C with w:=C.w.putObj l o} n F H a (w1.putObj l o):=by
 obtain⟨hdef,hn,m,h1,h2,h3,h4,h5⟩:=h
 have hlt:=lt_of_at hl
 have hl1:w1.heap[l]? = some (.loop r):=(h3.block l hlt hk).trans hl
 have hml:m l=none:=(h3.old l hlt hk).trans hm
 refine⟨hdef,hn,m,h1.putObj hml,h2.putObj (h2.ne_loop hl1),⟨h3.le,fun b hb hn=>h3.old b (by rwa [World.putObj_size]at hb) hn,h3.os,h3.tape,h3.output,by rw [World.putObj_size,World.putObj_size];exact h3.size,fun b hb hn=>?_⟩,fun e he=>by rw [World.putObj_size];exact h4 e he,h5⟩
 by_cases e:b=l
 ·subst e
  rw [World.putObj_heap_same (lt_of_at hl1),World.putObj_heap_same hlt]
 ·rw [World.putObj_heap_other e,World.putObj_heap_other e]
  exact h3.block b (by rwa [World.putObj_size]at hb) hn
def updL (F:Fr):List (Nat×SV)→Fr
 | []=>F
 |(d,s)::r=>updL (upd F d s) r
theorem updL_ok {m:Mem}:∀(l:List (Nat×SV)) (ps:List (Tmp×Value)) (F:Fr) (tmps:Array Value),l.map (·.1)=ps.map (·.1)→ArgsOk m (l.map (·.2)) (ps.map (·.2))→(∀e∈l,e.1<tmps.size)→(∀t,(F t).p m (tmps.getD t undef))→
  ∀t,(updL F l t).p m ((ps.foldl (fun t (p,v)=>t.setIfInBounds p v) tmps).getD t undef)
 | [],[],F,tmps,_,_,_,h=>h
 |(d,s)::l,(p,v)::ps,F,tmps,he,ha,hl,h=>by
  simp only [List.map_cons,List.cons.injEq]at he
  obtain⟨rfl,he⟩:=he
  refine updL_ok l ps (upd F d s) (tmps.setIfInBounds d v) he ha.2 (fun e h=>by rw [Array.size_setIfInBounds];exact hl e (List.mem_cons_of_mem _ h)) fun t=>?_
  have hd:=hl (d,s) List.mem_cons_self
  by_cases ht:t=d
  ·subst ht
   rw [upd_eq]
   simpa [Array.getD,hd] using ha.1
  ·rw [upd_ne ht]
   have:=h t
   simpa [Array.getD_eq_getD_getElem?,Array.getElem?_setIfInBounds_ne (Ne.symm ht)] using this
 | [],_::_,_,_,he,_,_,_=>by cases he
 |_::_,[],_,_,he,_,_,_=>by cases he
end
end Go.Ab
