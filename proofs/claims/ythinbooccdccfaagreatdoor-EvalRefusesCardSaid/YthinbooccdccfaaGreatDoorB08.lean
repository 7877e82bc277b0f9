/- Texts laid one behind the other: FracE, Loop, Err, RefA, RefB, RefC, RefD, RefG. -/
import Derived.Test.YthinbooccdccfaaGreatDoorFracD
import Derived.Test.YthinbooccdccfaaGreatDoorB03
import Derived.Laws.Externs
import Derived.Test.YthinbooccdccfaaGreatDoorB04
set_option linter.unusedSectionVars false
set_option linter.unusedVariables false
set_option linter.unusedSimpArgs false
namespace Go.Ab
open Go.Proofs
variable [Base]
theorem num_big {x:Rat}(h:¬small x):x.num≠0:=fun e=>h (by
 have hx:x=0:=Rat.num_eq_zero.1 e
 subst hx
 unfold small;rw [show(0:Rat).num=0 from rfl,show(0:Rat).den=1 from rfl];omega)
theorem zero_pu (x:Rat):Pu Tryz.prog 146 [fr x] (lit (.bool (decide (x.num=0)))):=by
 by_cases h:small x
 ·rw [fr_s h]
  by_cases h0:x.num=0
  ·rw [decide_eq_true h0,h0]
   refine Pu.intro Tryz.func146 rfl (by kernel_rfl) fun C=>?_
   repeat(refine A1 ⟨?_⟩;intros)
   exact E1
  ·rw [decide_eq_false h0]
   refine Pu.intro Tryz.func146 rfl (by kernel_rfl) fun C=>?_
   repeat(refine A1 ⟨?_⟩;intros)
   exact E1
 ·rw [fr_b h,decide_eq_false (num_big h)]
  refine Pu.intro Tryz.func146 rfl (by kernel_rfl) fun C=>?_
  repeat(refine A1 ⟨?_⟩;intros)
  exact E1
theorem inv_mk (x:Rat):mkRat (sv (decide (x.num<0)) x.den) x.num.natAbs=x⁻¹:=by
 rw [Rat.inv_def]
 by_cases h:x.num<0
 ·rw [decide_eq_true h]
  have e:x.num = -((x.num.natAbs:Nat):Int):=by omega
  conv=>rhs;rw [e,Rat.divInt_neg',Rat.divInt_ofNat]
  rfl
 ·rw [decide_eq_false h]
  have e:x.num=((x.num.natAbs:Nat):Int):=by omega
  conv=>rhs;rw [e,Rat.divInt_ofNat]
  rfl
theorem ht_inv (x:Rat):ht x⁻¹≤ht x+1:=by
 have h:=ht_mk (sv (decide (x.num<0)) x.den) x.num.natAbs
 rw [inv_mk]at h
 have h1:=ht_num x
 have h2:=ht_den x
 have h3:il (sv (decide (x.num<0)) x.den)=(dgs x.den).length:=by unfold il;rw [sv_abs]
 have h4:il x.num=(dgs x.num.natAbs).length:=rfl
 omega
theorem inv_pu (x:Rat) (h:ht x≤10000000):Pu Tryz.prog 264 [fr x] (fr x⁻¹):=by
 have hn:=Rat.num_inv x
 have hd:=Rat.den_inv x
 have hp:=x.den_pos
 by_cases hs:small x
 ·have hsm:small x⁻¹:=by
   unfold small at *
   rw [hn,hd,Int.natAbs_mul]
   refine⟨?_,by split <;> omega⟩
   have:x.num.sign.natAbs≤1:=by rcases Int.lt_trichotomy x.num 0 with h|h|h <;> simp [Int.sign_eq_neg_one_of_neg,Int.sign_eq_one_of_pos,h]
   have h2:=Nat.mul_le_mul_right ((x.den:Int).natAbs) this
   rw [Nat.one_mul,Int.natAbs_natCast]at h2
   have:=hs.2
   rw [Int.natAbs_natCast];omega
  rw [fr_s hs,fr_s hsm,hn,hd]
  unfold small at hs
  rcases Int.lt_trichotomy x.num 0 with h0|h0|h0
  ·rw [Int.sign_eq_neg_one_of_neg h0,if_neg (by omega)]
   refine Pu.intro Tryz.func264 rfl (by kernel_rfl) fun C=>?_
   repeat(refine A1 ⟨?_⟩;intros)
   refine endR (end1 (RV.cellA rfl List.mem_cons_self rfl rfl) (Le.ag ⟨Le.int (by omega),Le.int (by omega),Le.refl _,trivial⟩))
  ·rw [h0]
   refine Pu.intro Tryz.func264 rfl (by kernel_rfl) fun C=>?_
   repeat(refine A1 ⟨?_⟩;intros)
   refine endR (end1 (RV.cellA rfl List.mem_cons_self rfl rfl) (Le.ag ⟨Le.int (by simp),Le.int (by simp),Le.refl _,trivial⟩))
  ·rw [Int.sign_eq_one_of_pos h0,if_neg (by omega)]
   refine Pu.intro Tryz.func264 rfl (by kernel_rfl) fun C=>?_
   repeat(refine A1 ⟨?_⟩;intros)
   refine endR (end1 (RV.cellA rfl List.mem_cons_self rfl rfl) (Le.ag ⟨Le.int (by omega),Le.int (by omega),Le.refl _,trivial⟩))
 ·have h1:=ht_num x
  have h2:=ht_den x
  have h4:il x.num=(dgs x.num.natAbs).length:=rfl
  have hr:=reduce_pu (decide (x.num<0)) (dgs x.den) (dgs x.num.natAbs) (by omega) (by omega) (D_dgs _) (D_dgs _)
  rw [val_dgs,val_dgs,inv_mk]at hr
  rw [fr_b hs]
  refine Pu.intro Tryz.func264 rfl (by kernel_rfl) fun C=>?_
  repeat(first|(refine A1 ⟨?_⟩;intros)|refine W4 hr ⟨?_⟩)
  refine endR (end1 (RV.cellA rfl (by first|exact List.mem_cons_self|exact List.mem_cons_of_mem _ List.mem_cons_self) rfl rfl) (Le.refl _))
section
variable {P:Program}{C:Ctx}{n:Nat}{F:Fr}{H:LH}{ops:Array Oper}{K:Fr→LH→Prop}{Q:Exit→Fr→LH→Prop}
theorem St.sub {H':LH}{a:Act}{w:World}(hs:St C n F H a w) (h:H'.Sublist H):St C n F H' a w:=by
 obtain⟨hdef,hn,m,h1,h2,h3,h4,h5⟩:=hs
 exact⟨hdef,hn,m,h1,⟨(h.map _).nodup h2.1,fun e he=>h2.2 e (h.subset he)⟩,h3,fun e he=>h4 e (h.subset he),h5⟩
theorem WP.sub {c:Code}{H':LH}(h:H'.Sublist H) (k:WP P C n c Q F H'):WP P C n c Q F H:=by
 unfold WP at *;exact fun a w hs=>k a w (hs.sub h)
theorem WP.loopS {ι:Type}{c:Code}(J:ι→Prop) (μ:ι→Nat) (G:ι→Fr) (L:ι→LH) (x0:ι) (h0:J x0) (hF:LeF F (G x0)) (hH:(L x0).Sublist H)
  (round:∀x,J x→∀K:Fr→LH→Prop,(∀F' H' x',J x'→μ x'<μ x→LeF F' (G x')→(L x').Sublist H'→K F' H')→WP P C n c (thenQ K Q) (G x) (L x)) :
  WP P C n (.loop c) Q F H:=by
 refine WP.sub hH (WP.le hF ?_)
 unfold WP
 intro a w hs
 refine wp_loop_ghost (fun k a w=>∃x,μ x=k∧J x∧St C n (G x) (L x) a w) (μ x0) ⟨x0,rfl,h0,hs⟩ ?_
 rintro k a w ⟨x,rfl,hJ,hs⟩
 have hr:=round x hJ (fun F' H'=>∃x',J x'∧μ x'<μ x∧LeF F' (G x')∧(L x').Sublist H') (fun F' H' x' a b c d=>⟨x',a,b,c,d⟩)
 unfold WP at hr
 refine wp_mono (hr a w hs) ?_
 rintro e a' w' (⟨F',H',hs',hq⟩|⟨ch,rfl,hp⟩)
 ·unfold thenQ at hq
  cases e with
  |normal =>
   obtain⟨x',hJ',hμ,hF',hH'⟩:=hq
   exact⟨μ x',hμ,x',rfl,hJ',(hs'.le hF').sub hH'⟩
  |_=>exact .inl ⟨F',H',hs',hq⟩
 ·exact .inr ⟨ch,rfl,hp⟩
theorem WpubS {l:List Oper}{b:Nat}{T:TypeId}{cs:List SV}{H':LH}{k c:Nat}(d:Nat) (hv:F d=lit (.slice (some ⟨b,0,none⟩) k c)) (hdel:HDel b T cs H H') (hc:k≤c) (hc':c≤1000000000)
  (h:WPL P C n ops l K (upd F d (sl cs k)) H'):WPL P C n ops l K F H :=
 WPL.pub hdel hv (fun m arr hm ha=>pub_sl hc (by omega) m arr hm ha) h
theorem WgE {d:Option Nat}{op:Op}{ty:TypeId}{pos:String}{aft:Array Edge}{rest:List Oper}{K:Fr→LH→Prop}{j:Nat}{t:Bool}{oj:Oper}{dj:Nat}(k:WPL P C n ops (⟨d,op,ty,pos,aft,none⟩::rest) K F H)
  (hj:ops[j]? = some oj:=by exact rfl) (hdj:oj.dst=some dj:=by exact rfl) (hf:F dj=lit (.bool t):=by exact rfl) (hdn:Nat.blt dj n=true:=by exact rfl):WPL P C n ops (⟨d,op,ty,pos,aft,some (j,t)⟩::rest) K F H:=by
 unfold WPL at *
 intro a w hs Q hq
 have hy:=yielded_of hs hj hdj hf hdn
 have h:=k a w hs Q hq
 unfold wpList at h⊢
 have h1:Region.wanted (⟨d,op,ty,pos,aft,none⟩:Oper) (yielded ops a.tmps)=true:=rfl
 have h2:Region.wanted (⟨d,op,ty,pos,aft,some (j,t)⟩:Oper) (yielded ops a.tmps)=true:=by simp [Region.wanted,hy]
 rw [if_pos h1]at h
 rw [if_pos h2]
 exact h
end
theorem flat_at {α β:Type}{f:α→List β}{n:Nat}(hf:∀a,(f a).length=n):∀{l:List α}{k:Nat}{a:α},l[k]? = some a→(((l.map f).flatten).drop (k*n)).take n=f a
 | [],_,_,h=>by simp at h
 |x::l,0,a,h=>by
  simp at h;subst h
  simp [hf x]
 |x::l,k+1,a,h=>by
  have:=flat_at hf (l:=l) (k:=k) (a:=a) (by simpa using h)
  rw [List.map_cons,List.flatten_cons,show(k+1)*n=(f x).length+k*n from by rw [hf,Nat.add_mul,Nat.one_mul,Nat.add_comm],List.drop_append,List.drop_eq_nil_of_le (Nat.le_add_right _ _),List.nil_append,Nat.add_sub_cancel_left]
  exact this
theorem flat_ne {α β:Type}{f:α→List β}{n:Nat}(hf:∀a,(f a).length=n) (hn:0<n){l:List α}(h:l≠[]):(l.map f).flatten≠[]:=by
 cases l with
 |nil=>exact absurd rfl h
 |cons x l =>
  intro e
  have:=congrArg List.length e
  simp [hf x]at this;omega
def addrIn:Option Value→Addr
 |some (.iface _ (.pointer (some a)))=>a
 |_=>⟨0,0,none⟩
def gaddr (g:Nat):Addr:=match Base.mem g with
 |some (.cells arr _ _)=>addrIn arr[0]?
 |_=>⟨0,0,none⟩
abbrev sent (g:Nat):Value := .iface 514 (.pointer (some (gaddr g)))
class Sent (g:Nat):Prop where
 h:∃(a:Addr) (T:TypeId) (fz:Nat×Nat),Base.mem g=some (.cells #[.iface 514 (.pointer (some a))] T fz)
instance (g:Nat) [s:Sent g]:GV g (sent g):=⟨by
 obtain⟨a,T,fz,h⟩:=s.h
 refine⟨T,fz,?_⟩
 unfold sent gaddr
 rw [h];rfl⟩
theorem isTypeOf (v:Value) (w:World):(Extern.ReflectliteType.typeOf #[.iface 514 v]).run Tryz.prog w = .ok (.iface 193 (.agg #[.pointer (some ⟨(Tryz.prog).globals.size,514,none⟩)])) w:=by kernel_rfl
theorem isComparable (w:World):((Extern.ReflectliteType.method fun t=>do Extern.Rtype.noPackHeld "Comparable" t;pure (.bool (←typeInfo t).comparable)) #[.agg #[.pointer (some ⟨(Tryz.prog).globals.size,514,none⟩)]]).run Tryz.prog w = .ok (.bool true) w:=by kernel_rfl
theorem isMethodC (v:Value) (w:World):(Go.method ((Tryz.prog).types.size+Made.depth) 193 v "Comparable").run Tryz.prog w = .ok (433,v) w:=by kernel_rfl
section
variable {F:Fr}{H:LH}{ty:TypeId}
theorem ov_typeOf {x:Operand}{v:Value}{tys:Array TypeId}(hx:ev F x=lit (.iface 514 v)):OpV Tryz.prog (.call ⟨.value (.func 41),[x].toArray,tys⟩) ty F H (lit (.iface 193 (.agg #[.pointer (some ⟨(Tryz.prog).globals.size,514,none⟩)]))) :=
 OpV.pure fun m w o a ho _ _ _ h=>by
  have h0:=h x (by simp [Op.operands,Call.operands]);rw [hx,lit_p]at h0
  have h8:=@run_callFunc_extern Tryz.prog 41 _ Extern.ReflectliteType.typeOf Tryz.func41 (by kernel_rfl) (by kernel_rfl) (by kernel_rfl) (by kernel_rfl)
  refine⟨_,?_,lit_p.2 rfl⟩
  have:=h8 #[a.eval x] w
  rw [h0,isTypeOf,←h0]at this
  simp only [execOp,ho,resolve,Sem.run_bind,Sem.run_pure,Result.andThen_ok]
  have e1:a.eval (.func 41) = .func (.func 41) #[] #[]:=rfl
  simp only [e1,Deferred.ofValue,Sem.run_pure,Result.andThen_ok,invoke,List.map_toArray,List.map_cons,List.map_nil,Array.empty_append,Array.append_empty,this]
theorem ov_cmpble {x:Operand}{tys:Array TypeId}(hx:ev F x=lit (.iface 193 (.agg #[.pointer (some ⟨(Tryz.prog).globals.size,514,none⟩)]))):OpV Tryz.prog (.call ⟨.invoke x "Comparable",#[],tys⟩) ty F H (lit (.bool true)) :=
 OpV.pure fun m w o a ho _ _ _ h=>by
  have h0:=h x (by simp [Op.operands,Call.operands]);rw [hx,lit_p]at h0
  have h8:=@run_callFunc_extern Tryz.prog 433 _ (Extern.ReflectliteType.method fun t=>do Extern.Rtype.noPackHeld "Comparable" t;pure (.bool (←typeInfo t).comparable)) Tryz.func433 (by kernel_rfl) (by kernel_rfl) (by kernel_rfl) (by kernel_rfl)
  refine⟨_,?_,lit_p.2 rfl⟩
  have:=h8 #[.agg #[.pointer (some ⟨(Tryz.prog).globals.size,514,none⟩)]] w
  have hc:=isComparable w
  have hm:=isMethodC (.agg #[.pointer (some ⟨(Tryz.prog).globals.size,514,none⟩)]) w
  rw [hc]at this
  have hz:(callMethod (.iface 193 (.agg #[.pointer (some ⟨(Tryz.prog).globals.size,514,none⟩)])) "Comparable" #[]).run Tryz.prog w = .ok (.value (.bool true)) w:=by
   simp only [callMethod,Sem.run_bind,run_program,Result.andThen_ok,hm,Array.append_empty,this]
  have he:execOp a.eval o=callMethod (a.eval x) "Comparable" #[]:=by
   simp [execOp,ho,resolve,invoke]
  rw [he,h0,hz]
theorem ov_isame {g:Nat}{x y:Operand}{T':TypeId}(hx:ev F x=lit (sent g)) (hy:ev F y=lit (sent g)):OpV Tryz.prog (.binOp .eql 41 x y T') ty F H (lit (.bool true)) :=
 ov_bin hx hy (fun w=>by
  obtain⟨i,hi,hc⟩:=Option.map_eq_some_iff.1 (show((Tryz.prog).info? 514).map (·.comparable)=some true by kernel_rfl)
  obtain⟨j,hj,_⟩:=Option.map_eq_some_iff.1 (show((Tryz.prog).info? 534).map (·.size)=some 1 by kernel_rfl)
  exact run_eql_iface_ptr_same w _ Tryz.underlying41 Tryz.underlying514 hi hc hj) (fun w=>by simp [Go.eqGuard])
end
theorem is1_pu (g:Nat):Pu Tryz.prog 42 [lit (sent g),lit (sent g),lit (.bool true)] (lit (.bool true)):=by
 refine Pu.intro Tryz.func42 rfl (by kernel_rfl) fun C=>?_
 repeat(refine A1 ⟨?_⟩;intros)
 refine WP.loop (ι:=Unit) (fun _=>True) (fun _=>0) (fun _=>fm [(0,lit (sent g)),(1,lit (sent g)),(2,lit (.bool true))]) (fun _=>[]) () trivial lfA rfl ?_
 rintro _ _ K hK
 repeat(refine A1 ⟨?_⟩;intros)
 refine WgE ?_
 refine Wo (ov_isame rfl rfl) ?_
 repeat(refine A1 ⟨?_⟩;intros)
 exact E1
theorem is_pu (g:Nat):Pu Tryz.prog 13 [lit (sent g),lit (sent g)] (lit (.bool true)):=by
 refine Pu.intro Tryz.func13 rfl (by kernel_rfl) fun C=>?_
 repeat(refine A1 ⟨?_⟩;intros)
 refine Wo (ov_typeOf rfl) ?_
 refine Wo (ov_cmpble rfl) ?_
 repeat(first|(refine A1 ⟨?_⟩;intros)|refine W4 (is1_pu g) ⟨?_⟩)
 exact E1
theorem rtrim_pu (ds:List Nat) (hl:ds.length≤1000000000):Pu Tryz.prog 174 [dg ds] (dg (trimL ds)):=by
 refine Pu.intro Tryz.func174 rfl (by kernel_rfl) fun C=>?_
 repeat(refine A1 ⟨?_⟩;intros)
 refine WP.loop (ι:=Nat) (fun k=>k≤ds.length∧trimL (ds.take k)=trimL ds) (fun k=>k) (fun k=>fm [(0,dg ds),(3,lit (.int .i64 k))]) (fun _=>[]) ds.length ⟨Nat.le_refl _,by rw [List.take_length]⟩ lfA rfl ?_
 rintro k ⟨hk,ht⟩ K hK
 rcases k with _|j
 ·repeat(refine A1 ⟨?_⟩;intros)
  refine Wo (ov_toD 0 rfl rfl (by omega) (by omega)) ?_
  repeat(refine A1 ⟨?_⟩;intros)
  exact endR (end1 (RV.tmp rfl) (Le.of_eq (by rw [←ht];rfl)))
 ·repeat(refine AS ⟨?_⟩;intros)
  iterate 5 (refine O1 ⟨?_⟩;intros)
  refine Wog (ov_sub (r:=(j:Int)) rfl rfl (wi64e (by omega) (by omega) (by omega))) ?_
  refine Wog (ov_idxD (i:=j) rfl rfl (by omega)) ?_
  by_cases hd:ds.getD j 0=0
  ·repeat(refine A1 ⟨?_⟩;intros)
   refine hK _ _ j ⟨by omega,?_⟩ (by omega) lfA rfl
   rw [take_succ_getD ds j (by omega),hd,trimL_snoc_zero]at ht
   exact ht
  ·rw [take_succ_getD ds j (by omega),trimL_snoc_ne _ _ hd,←take_succ_getD ds j (by omega)]at ht
   repeat(refine A1 ⟨?_⟩;intros)
   refine Wo (ov_toD (j+1) rfl rfl (by omega) (by omega)) ?_
   repeat(refine A1 ⟨?_⟩;intros)
   exact endR (end1 (RV.tmp (s:=dg (List.take (j+1) ds)) rfl) (Le.of_eq (by rw [ht])))
theorem rtrim_nat (ds:List Nat) (hl:ds.length≤1000000000) (hD:D ds):Pu Tryz.prog 174 [dg ds] (nat (val ds)):=by
 have:=rtrim_pu ds hl;rwa [trimL_eq hD]at this
theorem word_pu (u:Nat) (hu:u<18446744073709551616):Pu Tryz.prog 173 [lit (.int .u64 u)] (nat u):=by
 have hD:D [u%4294967296,u/4294967296]:=D.cons (by omega) (D.cons (by omega) D.nil)
 have hv:val [u%4294967296,u/4294967296]=u:=by simp [val];omega
 refine Pu.intro Tryz.func173 rfl (by kernel_rfl) fun C=>?_
 repeat(refine A1 ⟨?_⟩;intros)
 refine WpubD (ds:=[u%4294967296,u/4294967296]) 8 rfl (HDel.here _) rfl (by omega) (by omega) ?_
 refine Wc (rtrim_nat _ (by simp) hD) ?_
 rw [hv]
 repeat(refine A1 ⟨?_⟩;intros)
 exact E1
theorem one_pu:Pu Tryz.prog 175 [] (nat 1):=by
 rw [nat,dgs_one]
 refine Pu.intro Tryz.func175 rfl (by kernel_rfl) fun C=>?_
 repeat(refine AS ⟨?_⟩;intros)
 (refine O1 ⟨?_⟩;intros)
 repeat(refine AS ⟨?_⟩;intros)
 iterate 1 (refine O1 ⟨?_⟩;intros)
 refine WpubD (ds:=[1]) 1 rfl (HDel.here _) rfl (by omega) (by omega) ?_
 repeat(refine A1 ⟨?_⟩;intros)
 exact E1
theorem sign_pu (z:Int):Pu Tryz.prog 239 [lit (.int .i64 z)] (lit (.int .i64 z.sign)):=by
 rcases Int.lt_trichotomy z 0 with h|h|h
 ·rw [Int.sign_eq_neg_one_of_neg h]
  refine Pu.intro Tryz.func239 rfl (by kernel_rfl) fun C=>?_
  repeat(refine A1 ⟨?_⟩;intros)
  exact E1
 ·subst h
  refine Pu.intro Tryz.func239 rfl (by kernel_rfl) fun C=>?_
  repeat(refine A1 ⟨?_⟩;intros)
  exact E1
 ·rw [Int.sign_eq_one_of_pos h]
  refine Pu.intro Tryz.func239 rfl (by kernel_rfl) fun C=>?_
  repeat(refine A1 ⟨?_⟩;intros)
  exact E1
set_option maxHeartbeats 2000000 in
theorem rcmp_pu (a b:Nat) (h1:(dgs a).length≤1000000000) (h2:(dgs b).length≤1000000000):Pu Tryz.prog 182 [nat a,nat b] (lit (.int .i64 (cmpN a b))):=by
 have hxa:=val_dgs a
 have hxb:=val_dgs b
 have hDa:=D_dgs a
 have hDb:=D_dgs b
 by_cases hlen:(dgs a).length=(dgs b).length
 ·refine Pu.intro Tryz.func182 rfl (by kernel_rfl) fun C=>?_
  repeat(refine A1 ⟨?_⟩;intros)
  refine WP.loop (ι:=Nat) (fun k=>k≤(dgs a).length∧(dgs a).drop k=(dgs b).drop k) (fun k=>k) (fun k=>fm [(0,dg (dgs a)),(1,dg (dgs b)),(5,lit (.int .i64 ((k:Int)-1)))]) (fun _=>[]) (dgs a).length
   ⟨Nat.le_refl _,by rw [List.drop_length,hlen,List.drop_length]⟩ lfA rfl ?_
  rintro k ⟨hk,hd⟩ K hK
  rcases k with _|j
  ·repeat(refine A1 ⟨?_⟩;intros)
   ((first|refine endR ?_|refine endN ?_);refine end1 (RV.tmp rfl) (Le.int ?_))
   simp only [List.drop_zero]at hd
   rw [dgs_inj hd,cmpN_eq]
  ·rw [show(((j+1:Nat):Int)-1)=(j:Int)from by omega]
   rcases Nat.lt_trichotomy ((dgs a).getD j 0) ((dgs b).getD j 0)with hlt|heq|hgt
   ·have hlt':=val_lt_at j hDa (by omega) (by omega) hd hlt
    rw [hxa,hxb]at hlt'
    repeat(refine A1 ⟨?_⟩;intros)
    ((first|refine endR ?_|refine endN ?_);refine end1 (RV.tmp rfl) (Le.int ?_))
    rw [cmpN_lt hlt']
   ·repeat(refine A1 ⟨?_⟩;intros)
    refine hK _ _ j ⟨by omega,?_⟩ (by omega) lfA rfl
    rw [drop_getD _ j (by omega),drop_getD (dgs b) j (by omega),hd,heq]
   ·have hlt':=val_lt_at j hDb (by omega) (by omega) hd.symm hgt
    rw [hxa,hxb]at hlt'
    repeat(refine A1 ⟨?_⟩;intros)
    ((first|refine endR ?_|refine endN ?_);refine end1 (RV.tmp rfl) (Le.int ?_))
    rw [cmpN_gt hlt']
 ·rcases Nat.lt_or_gt_of_ne hlen with hlt|hgt
  ·have hab:a<b:=by
    rcases Nat.lt_or_ge a b with h|h
    ·exact h
    ·have:=len_mono h;omega
   refine Pu.intro Tryz.func182 rfl (by kernel_rfl) fun C=>?_
   repeat(refine A1 ⟨?_⟩;intros)
   refine Wc (sign_pu _) ?_
   rw [Int.sign_eq_neg_one_of_neg (by omega)]
   repeat(refine A1 ⟨?_⟩;intros)
   ((first|refine endR ?_|refine endN ?_);refine end1 (RV.tmp rfl) (Le.int ?_))
   rw [cmpN_lt hab]
  ·have hab:b<a:=by
    rcases Nat.lt_or_ge b a with h|h
    ·exact h
    ·have:=len_mono h;omega
   refine Pu.intro Tryz.func182 rfl (by kernel_rfl) fun C=>?_
   repeat(refine A1 ⟨?_⟩;intros)
   refine Wc (sign_pu _) ?_
   rw [Int.sign_eq_one_of_pos (by omega)]
   repeat(refine A1 ⟨?_⟩;intros)
   ((first|refine endR ?_|refine endN ?_);refine end1 (RV.tmp rfl) (Le.int ?_))
   rw [cmpN_gt hab]
theorem dgs_two {n:Nat}(h:(dgs n).length=2):n=(dgs n).getD 0 0+(dgs n).getD 1 0*4294967296:=by
 have hv:=val_dgs n
 generalize dgs n=l at *
 match l,h with
 | [a,b],_=>simp [val]at hv⊢;omega
theorem dgs_1 {n:Nat}(h:(dgs n).length=1):n=(dgs n).getD 0 0:=by
 have hv:=val_dgs n
 generalize dgs n=l at *
 match l,h with
 | [a],_=>simp [val]at hv⊢;omega
theorem dgs_0 {n:Nat}(h:(dgs n).length=0):n=0:=by
 have hv:=val_dgs n
 rw [List.length_eq_zero_iff.1 h]at hv;exact hv.symm
theorem len_le2 {n:Nat}(h:(dgs n).length≤2):n<18446744073709551616:=Nat.lt_of_lt_of_le (lt_pow n) (Nat.le_trans (Nat.pow_le_pow_right (by omega) h) (by decide))
theorem rword_pu (n:Nat) (h:(dgs n).length≤1000000000):Pu Tryz.prog 229 [nat n] (if(dgs n).length≤2 then tup [lit (.int .u64 n),lit (.bool true)]else tup [lit (.int .u64 0),lit (.bool false)]):=by
 have hD:=D_dgs n
 by_cases h0:(dgs n).length=0
 ·rw [if_pos (by omega)]
  have e:=dgs_0 h0
  refine Pu.intro Tryz.func229 rfl (by kernel_rfl) fun C=>?_
  repeat(refine A1 ⟨?_⟩;intros)
  refine endR (end2 (RV.tmp rfl) (RV.tmp rfl) (Le.tup2 (Le.int (by omega)) (Le.refl _)))
 ·by_cases h1:(dgs n).length=1
  ·rw [if_pos (by omega)]
   have e:n=(dgs n).getD (Int.toNat 0) 0:=dgs_1 h1
   have b:(dgs n).getD (Int.toNat 0) 0<4294967296:=hD.get 0
   refine Pu.intro Tryz.func229 rfl (by kernel_rfl) fun C=>?_
   repeat(refine A1 ⟨?_⟩;intros)
   refine endR (end2 (RV.tmp rfl) (RV.tmp rfl) (Le.tup2 (Le.int (by omega)) (Le.refl _)))
  ·by_cases h2:(dgs n).length=2
   ·rw [if_pos (by omega)]
    have e:n=(dgs n).getD (Int.toNat 0) 0+(dgs n).getD (0+1) 0*4294967296:=dgs_two h2
    have b0:(dgs n).getD (Int.toNat 0) 0<4294967296:=hD.get 0
    have b1:(dgs n).getD (0+1) 0<4294967296:=hD.get 1
    refine Pu.intro Tryz.func229 rfl (by kernel_rfl) fun C=>?_
    repeat(refine A1 ⟨?_⟩;intros)
    refine Wdo (ov_or rfl rfl (or64 ((dgs n).getD (0+1) 0) ((dgs n).getD (Int.toNat 0) 0) rfl rfl b1 b0)) ?_
    repeat(refine A1 ⟨?_⟩;intros)
    refine endR (end2 (RV.tmp rfl) (RV.tmp rfl) (Le.tup2 (Le.int (by omega)) (Le.refl _)))
   ·rw [if_neg (by omega)]
    refine Pu.intro Tryz.func229 rfl (by kernel_rfl) fun C=>?_
    repeat(refine A1 ⟨?_⟩;intros)
    ((first|refine endR ?_|refine endN ?_);exact end2 (RV.tmp rfl) (RV.tmp rfl) (Le.refl _))
section
variable {P:Program}{F:Fr}{H:LH}{ty:TypeId}
theorem ofInt_bv (X:BitVec 32):BitVec.ofInt (IntKind.bits .u32) (X.toNat:Int)=X:=by
 show BitVec.ofInt 32 (X.toNat:Int)=X
 rw [BitVec.ofInt_natCast,BitVec.ofNat_toNat,BitVec.setWidth_eq]
theorem wrap_bv (X:BitVec 32):IntKind.u32.wrap (X.toNat:Int)=(X.toNat:Int):=wu32 (by omega) (by have:=X.isLt;omega)
theorem ov_xorB {T T':TypeId}{x y:Operand}(X Y:BitVec 32) (hx:ev F x=lit (.int .u32 X.toNat)) (hy:ev F y=lit (.int .u32 Y.toNat)):OpV P (.binOp .xor T x y T') ty F H (lit (.int .u32 (X ^^^ Y).toNat)) :=
 ov_bin hx hy (fun w=>by simp only [Go.binOp,ne_eq,not_true_eq_false,if_false,Op.intBits,Sem.run_pure,ofInt_bv];exact congrArg (fun z=>Result.ok (Value.int .u32 z) w) (wrap_bv _)) guard_int
theorem ov_andB {T T':TypeId}{x y:Operand}(X Y:BitVec 32) (hx:ev F x=lit (.int .u32 X.toNat)) (hy:ev F y=lit (.int .u32 Y.toNat)):OpV P (.binOp .and T x y T') ty F H (lit (.int .u32 (X &&& Y).toNat)) :=
 ov_bin hx hy (fun w=>by simp only [Go.binOp,ne_eq,not_true_eq_false,if_false,Op.intBits,Sem.run_pure,ofInt_bv];exact congrArg (fun z=>Result.ok (Value.int .u32 z) w) (wrap_bv _)) guard_int
theorem ov_orB {T T':TypeId}{x y:Operand}(X Y:BitVec 32) (hx:ev F x=lit (.int .u32 X.toNat)) (hy:ev F y=lit (.int .u32 Y.toNat)):OpV P (.binOp .or T x y T') ty F H (lit (.int .u32 (X ||| Y).toNat)) :=
 ov_bin hx hy (fun w=>by simp only [Go.binOp,ne_eq,not_true_eq_false,if_false,Op.intBits,Sem.run_pure,ofInt_bv];exact congrArg (fun z=>Result.ok (Value.int .u32 z) w) (wrap_bv _)) guard_int
theorem ov_compB {T:TypeId}{x:Operand}(X:BitVec 32) (hx:ev F x=lit (.int .u32 X.toNat)):OpV P (.unOp .xor T x) ty F H (lit (.int .u32 (~~~X).toNat)) :=
 OpV.pure fun m w o a ho _ _ _ h=>by
  have h0:=h x (by simp [Op.operands]);rw [hx,lit_p]at h0
  refine⟨.int .u32 (~~~X).toNat,?_,lit_p.2 rfl⟩
  have e:BitVec.ofInt (IntKind.bits .u32) (IntKind.max .u32)=BitVec.allOnes 32:=by
   show BitVec.ofInt 32 4294967295=BitVec.allOnes 32
   decide
  have e2:IntKind.u32.wrap ((BitVec.allOnes 32 ^^^ X).toNat:Int)=((~~~X).toNat:Int):=by rw [BitVec.allOnes_xor];exact wrap_bv _
  simp only [execOp,ho,h0,Op.unary,Op.intBits,IntKind.signed,Bool.false_eq_true,if_false,e,ofInt_bv,Sem.run_bind,Sem.run_pure,Result.andThen_ok]
  exact congrArg (fun z=>Result.ok (Next.value (Value.int .u32 z)) w) e2
end
theorem bv_top (X:BitVec 32):X.toNat/2147483648=X.msb.toNat:=by
 have h:=X.isLt
 rw [BitVec.msb_eq_decide]
 by_cases hc:2^(32-1)≤X.toNat <;> simp [hc] <;> omega
theorem rsub_digit {vo va vb p c c' x y d:Nat}(h:vo+vb=va+p*c) (hd:x+4294967296*c'=d+c+y):vo+p*d+(vb+p*y)=va+p*x+p*4294967296*c':=by
 have:=congrArg (fun t=>p*t) hd
 simp only [Nat.mul_add,←Nat.mul_assoc]at this
 omega
set_option maxHeartbeats 2000000 in
theorem sub32_pu (x y b:Nat) (hx:x<4294967296) (hy:y<4294967296) (hb:b≤1):Pu Tryz.prog 288 [lit (.int .u32 x),lit (.int .u32 y),lit (.int .u32 b)] (tup [lit (.int .u32 ((x+8589934592-y-b)%4294967296:Nat)),lit (.int .u32 (if x<y+b then 1 else 0))]):=by
 obtain⟨X,eX⟩:∃X:BitVec 32,x=X.toNat:=⟨BitVec.ofNat 32 x,by rw [BitVec.toNat_ofNat,Nat.mod_eq_of_lt hx]⟩
 obtain⟨Y,eY⟩:∃X:BitVec 32,y=X.toNat:=⟨BitVec.ofNat 32 y,by rw [BitVec.toNat_ofNat,Nat.mod_eq_of_lt hy]⟩
 obtain⟨Z,eZ⟩:∃X:BitVec 32,(x+8589934592-y-b)%4294967296=X.toNat:=⟨BitVec.ofNat 32 ((x+8589934592-y-b)%4294967296),by rw [BitVec.toNat_ofNat,Nat.mod_mod]⟩
 have fin:(((~~~X &&& Y) ||| (~~~(X ^^^ Y) &&& Z)).toNat:Int)/2147483648=if x<y+b then 1 else 0:=by
  have e:(((~~~X &&& Y) ||| (~~~(X ^^^ Y) &&& Z)).toNat:Int)/2147483648=((((~~~X &&& Y) ||| (~~~(X ^^^ Y) &&& Z)).toNat/2147483648:Nat):Int):=rfl
  rw [e,bv_top]
  have mX:=bv_top X
  have mY:=bv_top Y
  have mZ:=bv_top Z
  rw [←eX]at mX
  rw [←eY]at mY
  rw [←eZ]at mZ
  have mm:((~~~X &&& Y) ||| (~~~(X ^^^ Y) &&& Z)).msb=(((!X.msb)&&Y.msb)||((!(X.msb ^^ Y.msb))&&Z.msb)):=by simp [BitVec.msb_or,BitVec.msb_and,BitVec.msb_xor,BitVec.msb_not]
  rw [mm]
  clear mm e eX eY eZ
  generalize X.msb=p at *
  generalize Y.msb=q at *
  generalize Z.msb=r at *
  by_cases hlt:x<y+b
  ·rw [if_pos hlt]
   cases p <;> cases q <;> cases r <;> simp only [Bool.toNat_true,Bool.toNat_false]at mX mY mZ <;> first|rfl|(exfalso;omega)
  ·rw [if_neg hlt]
   cases p <;> cases q <;> cases r <;> simp only [Bool.toNat_true,Bool.toNat_false]at mX mY mZ <;> first|rfl|(exfalso;omega)
 rw [eZ]
 refine Pu.intro Tryz.func288 rfl (by kernel_rfl) fun C=>?_
 repeat(refine A1 ⟨?_⟩;intros)
 rw [show(((x:Int)-y)%4294967296-b)%4294967296=(Z.toNat:Int)from by rw [←eZ];omega]
 rw [eX,eY]at *
 refine Wo (ov_compB X rfl) ?_
 repeat(refine A1 ⟨?_⟩;intros)
 refine Wo (ov_andB (~~~X) Y rfl rfl) ?_
 repeat(refine A1 ⟨?_⟩;intros)
 refine Wo (ov_xorB X Y rfl rfl) ?_
 refine Wo (ov_compB (X ^^^ Y) rfl) ?_
 repeat(refine A1 ⟨?_⟩;intros)
 refine Wo (ov_andB (~~~(X ^^^ Y)) Z rfl rfl) ?_
 refine Wo (ov_orB (~~~X &&& Y) (~~~(X ^^^ Y) &&& Z) rfl rfl) ?_
 repeat(refine A1 ⟨?_⟩;intros)
 rw [fin]
 ((first|refine endR ?_|refine endN ?_);exact end2 (RV.tmp rfl) (RV.tmp rfl) (Le.refl _))
set_option maxHeartbeats 2000000 in
theorem rless_pu (a b:Nat) (hab:b≤a) (hl:(dgs a).length≤100000000):Pu Tryz.prog 228 [nat a,nat b] (nat (a-b)):=by
 have hP:=D_dgs a
 have hQ:=D_dgs b
 have hqp:=len_mono hab
 have hva:=val_dgs a
 have hvb:=val_dgs b
 show Pu _ _ [dg (dgs a),dg (dgs b)] _
 generalize dgs a=p at *
 generalize dgs b=q at *
 refine Pu.intro Tryz.func228 rfl (by kernel_rfl) fun C=>?_
 repeat(refine A1 ⟨?_⟩;intros)
 refine WmkD p.length rfl rfl (by omega) (by omega) fun bb=>?_
 repeat(refine A1 ⟨?_⟩;intros)
 refine WP.loop (ι:=Nat×Nat×List Nat) (fun s=>s.1≤p.length∧s.2.1≤1∧s.2.2.length=p.length∧D s.2.2∧val (s.2.2.take s.1)+val (q.take s.1)=val (p.take s.1)+4294967296^s.1*s.2.1) (fun s=>p.length-s.1)
  (fun s=>fm [(0,dg p),(1,dg q),(5,lit (.slice (some ⟨bb,0,none⟩) p.length p.length)),(6,lit (.int .u32 s.2.1)),(13,lit (.int .i64 p.length)),(14,lit (.int .i64 s.1))])
  (fun s=>[(bb,309,dcells s.2.2)]) (0,0,List.replicate p.length 0) ⟨Nat.zero_le _,Nat.zero_le _,by simp,D.rep _,by simp [val]⟩ lfA rfl ?_
 rintro ⟨k,c,os⟩ ⟨hk,hc,hol,hO,hval⟩ K hK
 simp only at hk hc hol hO hval⊢
 by_cases hkl:k<p.length
 ·have hp:=hP.get k
  have hq:=hQ.get k
  repeat(refine A1 ⟨?_⟩;intros)
  refine WP.via (fun F H=>LeF F (fm [(0,dg p),(1,dg q),(5,lit (.slice (some ⟨bb,0,none⟩) p.length p.length)),(6,lit (.int .u32 c)),(7,lit (.int .i64 k)),(8,lit (.int .u32 (q.getD k 0:Nat))),(13,lit (.int .i64 p.length)),(14,lit (.int .i64 k))])∧H=[(bb,309,dcells os)]) ?_ ?_
  ·refine WPd (fun h=>?_) (fun h=>?_)
   ·repeat(refine A1 ⟨?_⟩;intros)
    exact⟨lfA,rfl⟩
   ·have h0:q.getD k 0=0:=by simp [List.getD,List.getElem?_eq_none (show q.length≤k by omega)]
    repeat(refine A1 ⟨?_⟩;intros)
    exact⟨lfA,rfl⟩
  rintro F H ⟨hF,rfl⟩
  refine WP.le hF ?_
  repeat(refine A1 ⟨?_⟩;intros)
  refine Wc (sub32_pu (p.getD k 0) (q.getD k 0) c hp hq hc) ?_
  have fin:∀x c',c'≤1→x<4294967296→p.getD k 0+4294967296*c'=x+c+q.getD k 0→∀F' H',LeF F' (fm [(0,dg p),(1,dg q),(5,lit (.slice (some ⟨bb,0,none⟩) p.length p.length)),(6,lit (.int .u32 c')),(13,lit (.int .i64 p.length)),(14,lit (.int .i64 ((k+1:Nat):Int)))])→
    H'=[(bb,309,dcells (os.set k x))]→K F' H':=fun x c' hc' hx hd F' H' hF hH=>by
   refine hK F' H' (k+1,c',os.set k x) ⟨by simp only;omega,hc',by simpa using hol,hO.set k hx,?_⟩ (by simp only;omega) hF hH
   simp only
   rw [val_take_set os k _ (by omega),val_take_succ',val_take_succ',Nat.pow_succ]
   exact rsub_digit hval hd
  by_cases hb:p.getD k 0<q.getD k 0+c
  ·rw [if_pos hb]
   repeat(refine A1 ⟨?_⟩;intros)
   refine WstD ((p.getD k 0+8589934592-q.getD k 0-c)%4294967296) rfl rfl rfl (HUpd.here _) (by omega) ?_
   repeat(refine A1 ⟨?_⟩;intros)
   exact fin _ 1 (by omega) (by omega) (by omega) _ _ lfA rfl
  ·rw [if_neg hb]
   repeat(refine A1 ⟨?_⟩;intros)
   refine WstD ((p.getD k 0+8589934592-q.getD k 0-c)%4294967296) rfl rfl rfl (HUpd.here _) (by omega) ?_
   repeat(refine A1 ⟨?_⟩;intros)
   exact fin _ 0 (by omega) (by omega) (by omega) _ _ lfA rfl
 ·have hke:k=p.length:=by omega
  subst hke
  repeat(refine A1 ⟨?_⟩;intros)
  refine WpubD (ds:=os) 39 rfl (HDel.here _) hol (by omega) (by omega) ?_
  refine Wc (rtrim_nat os (by omega) hO) ?_
  have hfull:val os=a-b:=by
   rw [List.take_length,List.take_of_length_le hqp,List.take_of_length_le (by omega),hva,hvb]at hval
   have h1:=val_lt hO
   rw [hol]at h1
   rcases Nat.lt_or_ge 0 c with h|h
   ·have:c=1:=by omega
    subst this;omega
   ·have:c=0:=by omega
    subst this;omega
  rw [hfull]
  repeat(refine A1 ⟨?_⟩;intros)
  exact E1
set_option maxHeartbeats 4000000 in
theorem rprod_pu (a b:Nat) (hla:(dgs a).length≤100000000) (hlb:(dgs b).length≤100000000):Pu Tryz.prog 110 [nat a,nat b] (nat (a*b)):=by
 by_cases h11:(dgs a).length=1∧(dgs b).length=1
 ·have ea:a=(dgs a).getD (Int.toNat 0) 0:=dgs_1 h11.1
  have eb:b=(dgs b).getD (Int.toNat 0) 0:=dgs_1 h11.2
  have b0:(dgs a).getD (Int.toNat 0) 0<4294967296:=(D_dgs a).get 0
  have b1:(dgs b).getD (Int.toNat 0) 0<4294967296:=(D_dgs b).get 0
  have hp:=prod_bd b0 b1
  have hq:=hp
  rw [←ea,←eb]at hq
  have hw:=word_pu (a*b) (by rw [←ea]at b0;rw [←eb]at b1;have:=Nat.mul_le_mul (Nat.le_of_lt_succ (Nat.lt_succ_of_le (Nat.le_pred_of_lt b0))) (Nat.le_of_lt_succ (Nat.lt_succ_of_le (Nat.le_pred_of_lt b1)));simp at this;omega)
  rw [Int.natCast_mul]at hw
  refine Pu.intro Tryz.func110 rfl (by kernel_rfl) fun C=>?_
  repeat(refine A1 ⟨?_⟩;intros)
  rw [←ea,←eb]
  refine Wdc hw ?_
  repeat(refine A1 ⟨?_⟩;intros)
  exact E1
 ·have hP:=D_dgs a
  have hQ:=D_dgs b
  have hva:=val_dgs a
  have hvb:=val_dgs b
  show Pu _ _ [dg (dgs a),dg (dgs b)] _
  generalize dgs a=p at *
  generalize dgs b=q at *
  subst hva
  subst hvb
  have h12:p.length=1→q.length≠1:=fun a b=>h11 ⟨a,b⟩
  clear h11
  refine Pu.intro Tryz.func110 rfl (by kernel_rfl) fun C=>?_
  repeat(refine AS ⟨?_⟩;intros)
  iterate 1 (refine O1 ⟨?_⟩;intros)
  refine WPL.nil ?_
  refine thenN ?_
  refine WP.seq' ?_
  refine WP.via (fun F H=>LeF F (fm [(0,dg p),(1,dg q)])∧H=[]) ?_ ?_
  ·by_cases h1:p.length=1
   ·have h2:=h12 h1
    clear h12
    repeat(refine A1 ⟨?_⟩;intros)
    exact⟨lfA,rfl⟩
   ·clear h12
    repeat(refine A1 ⟨?_⟩;intros)
    exact⟨lfA,rfl⟩
  ·rintro F H ⟨hF,rfl⟩
   refine WP.le hF ?_
   clear h12
   repeat(refine A1 ⟨?_⟩;intros)
   refine WmkD (p.length+q.length) rfl rfl (by omega) (by omega) fun bb=>?_
   repeat(refine A1 ⟨?_⟩;intros)
   refine WP.loop (ι:=Nat×List Nat) (fun s=>s.1≤p.length∧s.2.length=p.length+q.length∧D s.2∧val s.2=val (p.take s.1)*val q∧∀j,s.1+q.length≤j→s.2.getD j 0=0) (fun s=>p.length-s.1)
    (fun s=>fm [(1,dg q),(5,lit (.slice (some ⟨bb,0,none⟩) (p.length+q.length) (p.length+q.length))),(36,dg p),(37,lit (.int .i64 p.length)),(38,lit (.int .i64 s.1))])
    (fun s=>[(bb,309,dcells s.2)]) (0,List.replicate (p.length+q.length) 0) ⟨Nat.zero_le _,by simp,D.rep _,by simp [val,val_rep],fun j _=>by simp [List.getD,List.getElem?_replicate];split <;> simp⟩ lfA rfl ?_
   rintro ⟨i,os⟩ ⟨hi,hol,hO,hval,hz⟩ K hK
   simp only at hi hol hO hval hz⊢
   by_cases hil:i<p.length
   ·have hx:=hP.get i
    repeat(refine A1 ⟨?_⟩;intros)
    refine WP.loop (ι:=Nat×Nat×List Nat) (fun s=>s.1≤q.length∧s.2.1<4294967296∧s.2.2.length=p.length+q.length∧D s.2.2∧val s.2.2+4294967296^i*4294967296^s.1*s.2.1=val os+4294967296^i*p.getD i 0*val (q.take s.1)∧∀j,i+q.length≤j→s.2.2.getD j 0=0) (fun s=>q.length-s.1)
     (fun s=>fm [(1,dg q),(5,lit (.slice (some ⟨bb,0,none⟩) (p.length+q.length) (p.length+q.length))),(6,lit (.int .i64 i)),(7,lit (.int .u32 (p.getD i 0:Nat))),(8,lit (.int .u64 s.2.1)),(36,dg p),(37,lit (.int .i64 p.length)),(38,lit (.int .i64 i)),(43,dg q),(44,lit (.int .i64 q.length)),(45,lit (.int .i64 s.1))])
     (fun s=>[(bb,309,dcells s.2.2)]) (0,0,os) ⟨Nat.zero_le _,by simp,hol,hO,by simp [val],hz⟩ lfA rfl ?_
    rintro ⟨k,c,us⟩ ⟨hk,hc,hul,hU,hvu,hzu⟩ K2 hK2
    simp only at hk hc hul hU hvu hzu⊢
    by_cases hkl:k<q.length
    ·have hy:=hQ.get k
     have ho:=hU.get (i+k)
     have hb:=prod_bd hx hy
     have hcast:((p.getD i 0*q.getD k 0:Nat):Int)=(p.getD i 0:Int)*(q.getD k 0:Int):=Int.natCast_mul _ _
     repeat(refine A1 ⟨?_⟩;intros)
     refine WstD ((p.getD i 0*q.getD k 0+us.getD (i+k) 0+c)%4294967296) rfl rfl (by omega) (HUpd.here _) (by omega) ?_
     repeat(refine A1 ⟨?_⟩;intros)
     refine hK2 _ _ (k+1,(p.getD i 0*q.getD k 0+us.getD (i+k) 0+c)/4294967296,us.set (i+k) ((p.getD i 0*q.getD k 0+us.getD (i+k) 0+c)%4294967296))
      ⟨by simp only;omega,by simp only;omega,by simpa using hul,hU.set _ (by omega),?_,fun j hj=>by rw [getD_set_ne' _ _ _ _ (by(try simp only at hj);omega)];exact hzu j hj⟩ (by simp only;omega) lfA rfl
     simp only
     rw [val_take_succ',Nat.pow_succ]
     have hs:=val_set us (i+k) ((p.getD i 0*q.getD k 0+us.getD (i+k) 0+c)%4294967296) (by omega)
     rw [Nat.pow_add]at hs
     exact mul_inner _ hvu (by omega) hs
    ·have hke:k=q.length:=by omega
     subst hke
     have hz0:=hzu (i+q.length) (by omega)
     repeat(refine A1 ⟨?_⟩;intros)
     refine WstD c rfl rfl (by omega) (HUpd.here _) (by omega) ?_
     repeat(refine A1 ⟨?_⟩;intros)
     refine hK _ _ (i+1,us.set (i+q.length) c) ⟨by simp only;omega,by simpa using hul,hU.set _ hc,?_,fun j hj=>by rw [getD_set_ne' _ _ _ _ (by(try simp only at hj);omega)];exact hzu j (by(try simp only at hj);omega)⟩ (by simp only;omega) lfA rfl
     simp only
     have hs:=val_set us (i+q.length) c (by omega)
     rw [hz0,Nat.mul_zero,Nat.add_zero,Nat.pow_add]at hs
     rw [hs,hvu,List.take_length,hval,val_take_succ',Nat.add_mul]
   ·have hie:i=p.length:=by omega
    subst hie
    rw [List.take_length]at hval
    repeat(refine A1 ⟨?_⟩;intros)
    refine WpubD (ds:=os) 84 rfl (HDel.here _) hol (by omega) (by omega) ?_
    refine Wc (rtrim_nat os (by omega) hO) ?_
    rw [hval]
    repeat(refine A1 ⟨?_⟩;intros)
    exact E1
theorem rmake_pu (s:Bool) (n:Nat) (h:(dgs n).length≤1000000000):Pu Tryz.prog 112 [lit (.bool s),nat n] (int (sv s n)):=by
 rw [int_sv]
 by_cases h0:n=0
 ·subst h0
  have hl:(dgs 0).length=0:=by rw [dgs_zero];rfl
  cases s <;> simp only [Nat.lt_irrefl,decide_false,Bool.and_false]
  all_goals
   refine Pu.intro Tryz.func112 rfl (by kernel_rfl) fun C=>?_
   repeat(refine A1 ⟨?_⟩;intros)
   ((first|refine endR ?_|refine endN ?_);refine end1 RVa (Le.refl _))
 ·have hl:=dgs_len_pos h0
  cases s <;> simp only [Bool.false_and,Bool.true_and,decide_eq_true (Nat.pos_of_ne_zero h0)]
  all_goals
   refine Pu.intro Tryz.func112 rfl (by kernel_rfl) fun C=>?_
   repeat(refine A1 ⟨?_⟩;intros)
   ((first|refine endR ?_|refine endN ?_);refine end1 RVa (Le.refl _))
theorem or32z {a b:Int}(h:Nat) (ha:a=0) (hb:b=(h:Int)) (hh:h<4294967296):IntKind.u32.wrap ((BitVec.ofInt (IntKind.bits .u32) a ||| BitVec.ofInt (IntKind.bits .u32) b).toNat:Int)=(h:Int):=by
 have:=or32 (a:=a) (b:=b) 0 h 0 ha (by rw [hb,Nat.pow_zero,Nat.one_mul]) (by simp) (by rw [Nat.pow_zero,Nat.one_mul];exact hh)
 rw [this,Nat.pow_zero,Nat.one_mul,Nat.add_zero]
theorem pow_split (k:Nat):2^k=4294967296^(k/32)*2^(k%32):=by
 conv=>lhs;rw [←Nat.div_add_mod k 32]
 rw [Nat.pow_add,Nat.pow_mul]
set_option maxHeartbeats 2000000 in
theorem rleft_pu (a k:Nat) (hla:(dgs a).length+k/32≤100000000):Pu Tryz.prog 290 [nat a,lit (.int .i64 k)] (nat (a*2^k)):=by
 have hs:k%32<32:=by omega
 have hP:=D_dgs a
 suffices h:Pu Tryz.prog 290 [dg (dgs a),lit (.int .i64 k)] (nat (val (dgs a)*(4294967296^(k/32)*2^(k%32)))) by
  rw [val_dgs]at h;rw [pow_split k];exact h
 obtain⟨w1,w2,w3⟩:=pow32 hs
 generalize dgs a=p at *
 refine Pu.intro Tryz.func290 rfl (by kernel_rfl) fun C=>?_
 repeat(refine A1 ⟨?_⟩;intros)
 refine WmkD (k/32+p.length+1) rfl rfl (by omega) (by omega) fun bb=>?_
 repeat(refine A1 ⟨?_⟩;intros)
 refine WP.loop (ι:=Nat×List Nat) (fun st=>st.1≤p.length∧st.2.length=k/32+p.length+1∧D st.2∧val st.2=4294967296^(k/32)*(val (p.take st.1)*2^(k%32))∧st.2.getD (k/32+st.1) 0<2^(k%32)∧∀j,k/32+st.1<j→st.2.getD j 0=0) (fun st=>p.length-st.1)
  (fun st=>fm [(1,lit (.int .i64 k)),(6,lit (.int .u64 ((k%32:Nat):Int))),(5,lit (.slice (some ⟨bb,0,none⟩) (k/32+p.length+1) (k/32+p.length+1))),(20,dg p),(21,lit (.int .i64 p.length)),(22,lit (.int .i64 st.1))])
  (fun st=>[(bb,309,dcells st.2)]) (0,List.replicate (k/32+p.length+1) 0) ⟨Nat.zero_le _,by simp,D.rep _,by simp [val,val_rep],by simp [List.getD,List.getElem?_replicate];split <;> simp [w2],fun j _=>by simp [List.getD,List.getElem?_replicate];split <;> simp⟩ lfA rfl ?_
 rintro ⟨i,os⟩ ⟨hi,hol,hO,hval,hlo,hz⟩ K hK
 simp only at hi hol hO hval hlo hz⊢
 by_cases hil:i<p.length
 ·have hx:=hP.get i
  obtain⟨a1,a2,y,a3,a4⟩:=shl_halves (d:=p.getD i 0) hs hx
  have hz1:=hz (k/32+i+1) (by omega)
  have hlo':Hid (os.getD (k/32+i) 0<2^(k%32)):=hlo
  have hvh:Hid (val os=4294967296^(k/32)*(val (p.take i)*2^(k%32))):=hval
  clear hval hlo
  repeat(refine A1 ⟨?_⟩;intros)
  rw [shlN (p.getD i 0) (k%32) (by omega) a1]
  repeat(refine A1 ⟨?_⟩;intros)
  refine Wo (ov_or rfl rfl (or32 (os.getD (k/32+i) 0) y (k%32) rfl (by rw [←a3,Int.natCast_emod];rfl) hlo'.out (by have:=hlo'.out;omega))) ?_
  repeat(refine A1 ⟨?_⟩;intros)
  refine WstD (2^(k%32)*y+os.getD (k/32+i) 0) rfl rfl rfl (HUpd.here _) (by omega) ?_
  have hl1:(os.set (k/32+i) (2^(k%32)*y+os.getD (k/32+i) 0)).length=k/32+p.length+1:=by simpa using hol
  repeat(refine A1 ⟨?_⟩;intros)
  rw [getD_set_ne' _ _ _ _ (by omega),hz1]
  refine Wo (ov_or rfl rfl (or32z (p.getD i 0*2^(k%32)/4294967296) rfl rfl (by omega))) ?_
  repeat(refine A1 ⟨?_⟩;intros)
  refine WstD (p.getD i 0*2^(k%32)/4294967296) rfl rfl rfl (HUpd.here _) (by omega) ?_
  repeat(refine A1 ⟨?_⟩;intros)
  have hlo:=hlo'.out
  refine hK _ _ (i+1,(os.set (k/32+i) (2^(k%32)*y+os.getD (k/32+i) 0)).set (k/32+i+1) (p.getD i 0*2^(k%32)/4294967296)) ⟨by simp only;omega,by simpa using hol,(hO.set _ (by omega)).set _ (by omega),?_,?_,?_⟩ (by simp only;omega) lfA rfl
  ·simp only
   have e1:=val_set os (k/32+i) (2^(k%32)*y+os.getD (k/32+i) 0) (by omega)
   have e2:=val_set (os.set (k/32+i) (2^(k%32)*y+os.getD (k/32+i) 0)) (k/32+i+1) (p.getD i 0*2^(k%32)/4294967296) (by simp;omega)
   rw [getD_set_ne' _ _ _ _ (by omega),hz1,Nat.mul_zero,Nat.add_zero]at e2
   rw [e2,val_take_succ',Nat.add_mul,Nat.mul_add,←hvh.out,←Nat.mul_assoc,←Nat.mul_assoc,←Nat.pow_add,Nat.mul_assoc (4294967296^(k/32+i))]
   have e3:=Nat.div_add_mod (p.getD i 0*2^(k%32)) 4294967296
   have e4:4294967296^(k/32+i)*(p.getD i 0*2^(k%32))=4294967296^(k/32+i+1)*(p.getD i 0*2^(k%32)/4294967296)+4294967296^(k/32+i)*(2^(k%32)*y):=by
    conv=>lhs;rw [←e3]
    rw [Nat.mul_add,a3,Nat.pow_succ,Nat.mul_assoc]
   rw [e4]
   rw [Nat.mul_add]at e1
   omega
  ·simp only
   rw [show((os.set (k/32+i) (2^(k%32)*y+os.getD (k/32+i) 0)).set (k/32+i+1) (p.getD i 0*2^(k%32)/4294967296)).getD (k/32+(i+1)) 0=p.getD i 0*2^(k%32)/4294967296 from by
    have:k/32+i+1<os.length:=by omega
    rw [←Nat.add_assoc]
    simp [List.getD,this]]
   exact a2
  ·intro j hj
   simp only at hj⊢
   rw [getD_set_ne' _ _ _ _ (by omega),getD_set_ne' _ _ _ _ (by omega)]
   exact hz j (by omega)
 ·have hie:i=p.length:=by omega
  subst hie
  rw [List.take_length]at hval
  have hvh:Hid (val os=4294967296^(k/32)*(val p*2^(k%32))):=hval
  clear hval hlo
  repeat(refine A1 ⟨?_⟩;intros)
  refine WpubD (ds:=os) 56 rfl (HDel.here _) hol (by omega) (by omega) ?_
  refine Wc (rtrim_nat os (by omega) hO) ?_
  rw [hvh.out,Nat.mul_left_comm]
  repeat(refine A1 ⟨?_⟩;intros)
  exact E1
set_option maxHeartbeats 2000000 in
theorem rright_pu (a s:Nat) (hla:(dgs a).length≤100000000) (hs:s<32):Pu Tryz.prog 291 [nat a,lit (.int .i64 s)] (nat (a/2^s)):=by
 have hP:=D_dgs a
 suffices h:Pu Tryz.prog 291 [dg (dgs a),lit (.int .i64 s)] (nat (val (dgs a)/2^s)) by rw [val_dgs]at h;exact h
 obtain⟨w1,w2,w3⟩:=pow32 hs
 generalize dgs a=p at *
 have hq0:s/32=0:=by omega
 have hr0:s%32=s:=by omega
 by_cases h0:p=[]
 ·subst h0
  refine Pu.intro Tryz.func291 rfl (by kernel_rfl) fun C=>?_
  repeat(refine A1 ⟨?_⟩;intros)
  refine endR (end1 (RV.tmp rfl) ?_)
  simp only [val,Nat.zero_div]
  rw [show nat 0=dg []from by show dg (dgs 0)=_;rw [dgs_zero]]
  exact le_nil
 ·have hpos:=List.length_pos_iff.2 h0
  refine Pu.intro Tryz.func291 rfl (by kernel_rfl) fun C=>?_
  repeat(refine A1 ⟨?_⟩;intros)
  rw [hr0]
  refine Wo (ov_sliceD (i:=0) (j:=p.length) (ds':=p) rfl (fun y h=>⟨_,_,by cases h;exact rfl,by omega⟩) (fun h=>by cases h) (fun y h=>by cases h) (fun _=>rfl) (by omega) (by omega) (by simp)) ?_
  repeat(refine A1 ⟨?_⟩;intros)
  refine WmkD p.length rfl rfl (by omega) (by omega) fun bb=>?_
  repeat(refine A1 ⟨?_⟩;intros)
  refine WP.loop (ι:=Nat×List Nat) (fun st=>st.1≤p.length∧st.2.length=p.length∧D st.2∧Hid (val (st.2.take st.1)=val p/2^s%4294967296^st.1)) (fun st=>p.length-st.1)
   (fun st=>fm [(5,lit (.int .u64 s)),(6,dg p),(7,lit (.slice (some ⟨bb,0,none⟩) p.length p.length)),(26,dg p),(27,lit (.int .i64 p.length)),(28,lit (.int .i64 st.1))])
   (fun st=>[(bb,309,dcells st.2)]) (0,List.replicate p.length 0) ⟨Nat.zero_le _,by simp,D.rep _,by simp [val,Nat.mod_one,Hid]⟩ lfA rfl ?_
  rintro ⟨k,os⟩ ⟨hk,hol,hO,hval⟩ K hK
  simp only at hk hol hO hval⊢
  by_cases hkl:k<p.length
  ·have hx:=hP.get k
   have hx1:=hP.get (k+1)
   repeat(refine A1 ⟨?_⟩;intros)
   refine WP.via (fun F H=>LeF F (fm [(5,lit (.int .u64 s)),(6,dg p),(7,lit (.slice (some ⟨bb,0,none⟩) p.length p.length)),(8,lit (.int .i64 k)),(10,lit (.int .u64 (p.getD k 0+p.getD (k+1) 0*4294967296:Nat))),(26,dg p),(27,lit (.int .i64 p.length)),(28,lit (.int .i64 k))])∧H=[(bb,309,dcells os)]) ?_ ?_
   ·refine WPd (fun h=>?_) (fun h=>?_)
    ·repeat(refine A1 ⟨?_⟩;intros)
     refine Wo (ov_or rfl rfl (or64' (p.getD (k+1) 0) (p.getD k 0) rfl rfl hx1 hx)) ?_
     repeat(refine A1 ⟨?_⟩;intros)
     exact⟨lfA,rfl⟩
    ·have h0:p.getD (k+1) 0=0:=by simp [List.getD,List.getElem?_eq_none (show p.length≤k+1 by omega)]
     repeat(refine A1 ⟨?_⟩;intros)
     exact⟨lfA,rfl⟩
   ·rintro F H ⟨hF,rfl⟩
    refine WP.le hF ?_
    repeat(refine A1 ⟨?_⟩;intros)
    rw [shrN _ s (by omega)]
    refine WstD ((p.getD k 0+p.getD (k+1) 0*4294967296)/2^s%4294967296) rfl rfl (by rw [Int.natCast_emod];rfl) (HUpd.here _) (by omega) ?_
    repeat(refine A1 ⟨?_⟩;intros)
    refine hK _ _ (k+1,os.set k ((p.getD k 0+p.getD (k+1) 0*4294967296)/2^s%4294967296)) ⟨by simp only;omega,by simpa using hol,hO.set _ (by omega),?_⟩ (by simp only;omega) lfA rfl
    simp only [Hid]
    rw [val_take_set _ _ _ (by omega),hval.out,Nat.mod_pow_succ,shr_digit k hs ((val_div_pow p hP k hk).trans (drop_two p k hkl))]
  ·have hke:k=p.length:=by omega
   subst hke
   have hval:=hval.out
   rw [Nat.mod_eq_of_lt (Nat.lt_of_le_of_lt (Nat.div_le_self _ _) (val_lt hP)),List.take_of_length_le (by omega)]at hval
   have hval:Hid _:=hval
   repeat(refine A1 ⟨?_⟩;intros)
   refine WpubD (ds:=os) 57 rfl (HDel.here _) hol (by omega) (by omega) ?_
   refine Wc (rtrim_nat os (by omega) hO) ?_
   rw [hval.out]
   repeat(refine A1 ⟨?_⟩;intros)
   exact E1
end Go.Ab
