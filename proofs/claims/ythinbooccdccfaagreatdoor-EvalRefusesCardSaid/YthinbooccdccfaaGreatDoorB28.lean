/- Texts laid one behind the other: Def, RExpr, PExpr. -/
import Derived.Test.YthinbooccdccfaaGreatDoorB27
import Derived.Test.YthinbooccdccfaaGreatDoorB08
import Derived.Defers
import Derived.Recover
import Derived.Test.YthinbooccdccfaaGreatDoorB14
set_option linter.unusedSectionVars false
set_option linter.unusedVariables false
set_option linter.unusedSimpArgs false
namespace Go.Ab
open Go.Proofs
variable [Base]
section
variable {P:Program}{C:Ctx}{n:Nat}{F:Fr}{H:LH}{Post:Exit→Act→World→Prop}{ops:Array Oper}{rest:List Oper}
def WPT (P:Program) (C:Ctx) (n:Nat) (c:Code) (Post:Exit→Act→World→Prop) (F:Fr) (H:LH):Prop:=∀a w,St C n F H a w→c.wp P Post a w
def WTL (P:Program) (C:Ctx) (n:Nat) (ops:Array Oper) (l:List Oper) (Post:Exit→Act→World→Prop) (F:Fr) (H:LH):Prop:=∀a w,St C n F H a w→wpList P ops Post l a w
def onN (K:Fr→LH→Prop):Exit→Fr→LH→Prop
 | .normal,F,H=>K F H
 |_,_,_=>False
theorem onN.i {K:Fr→LH→Prop}(h:K F H):onN K .normal F H:=h
theorem WPT.seq {x y:Code}(hpan:∀pv H,¬C.pan pv H) (h:WP P C n x (onN fun F H=>WPT P C n y Post F H) F H):WPT P C n (.seq x y) Post F H:=by
 intro a w hs
 unfold WP at h
 refine wp_seq (wp_mono (h a w hs) ?_)
 rintro e a' w' (⟨F',H',hs',hq⟩|⟨ch,rfl,_,m,v,pv,H',_,_,_,_,_,_,hx⟩)
 ·cases e with
  |normal=>exact hq a' w' hs'
  |_=>exact hq.elim
 ·exact absurd hx (hpan _ _)
theorem WPT.fin {c:Code}{Q:Exit→Fr→LH→Prop}(h:WP P C n c Q F H) (k:∀e a w,liftQ C n Q e a w→Post e a w):WPT P C n c Post F H:=by
 unfold WP at h
 exact fun a w hs=>wp_mono (h a w hs) k
theorem WPT.reg {id:Nat}{l:List Oper}{y:Code}(h:WTL P C n l.toArray l (Exit.then (y.wp P Post) Post) F H):WPT P C n (.seq (.region id l.toArray false) y) Post F H :=
 fun a w hs=>wp_seq (wp_region_lit (h a w hs))
theorem WTL.nil {y:Code}(h:WPT P C n y Post F H):WTL P C n ops [] (Exit.then (y.wp P Post) Post) F H:=fun a w hs=>wpList_nil (h a w hs)
theorem WTL.val {d:Nat}{op:Op}{ty:TypeId}{pos:String}{aft:Array Edge}{sv:SV}(hop:OpV P op ty F H sv) (k:WTL P C n ops rest Post (upd F d sv) H) (hd:Nat.blt d n=true):WTL P C n ops (⟨some d,op,ty,pos,aft,none⟩::rest) Post F H:=by
 intro a w hs
 obtain⟨hdef,hn,m,h1,h2,h3,h4,h5⟩:=hs
 refine wpList_plain rfl fun K' hK'=>?_
 unfold OpV at hop
 refine hop m w _ a rfl rfl h1 h2 (fun t _=>h5 t) K' Post fun v m' w' hv hm' hH' r=>hK' _ _ ?_
 exact k _ _ (St.put (Nat.blt_eq.mp hd) hdef hn h2 h3 h4 h5 hv hm' hH' r)
theorem ArgsOk.lits {m:Mem}:∀{cv vs:List Value},ArgsOk m (cv.map lit) vs→vs=cv
 | [],[],_=>rfl
 |_::_,_::_,h=>by rw [lit_p.1 h.1,h.2.lits]
 | [],_::_,h=>h.elim
 |_::_,[],h=>h.elim
theorem WPT.defer {id d:Nat}{f:FuncId}{l2:List Operand}{tys:Array TypeId}{ty ty2:TypeId}{pos pos2:String}{aft aft2:Array Edge}{y:Code}{cv:List Value}{X1:SV→LH→Prop}(hcap:l2.map (ev F)=cv.map lit) (hd:Nat.blt d n=true)
  (k:∀C1:Ctx,C1={C with pan:=X1,dfs:=⟨.fn (.func f) cv.toArray,#[]⟩::C.dfs}→WPT P C1 n y Post (upd F d (fnv f [] (cv.map lit))) H) :
  WPT P C n (.seq (.region id [⟨some d, .makeFunc (.func f) #[] l2.toArray,ty,pos,aft,none⟩,⟨none, .defer ⟨.value (.tmp d),#[],tys⟩,ty2,pos2,aft2,none⟩].toArray false) y) Post F H:=by
 intro a w hs
 refine wp_seq (wp_region_lit ?_)
 obtain⟨hdef,hn,m,h1,h2,h3,h4,h5⟩:=hs
 refine wpList_plain rfl fun K1 hK1=>?_
 have hop:OpV P (.makeFunc (.func f) ([]:List Operand).toArray l2.toArray) ty F H (fnv f [] (cv.map lit)):=ov_makeFunc rfl hcap
 unfold OpV at hop
 refine hop m w _ a rfl rfl h1 h2 (fun t _=>h5 t) K1 _ fun v m' w' hv hm' hH' r=>hK1 _ _ ?_
 have hst:=St.put (Nat.blt_eq.mp hd) hdef hn h2 h3 h4 h5 hv hm' hH' r
 unfold fnv at hv
 obtain⟨x,yv,rfl,hx,hy⟩:=hv
 have hx':x = #[]:=by
  cases x with
  |mk l=>cases l with
   |nil=>rfl
   |cons _ _=>exact hx.elim
 have hy':=hy.lits
 have hyv:yv=cv.toArray:=by rw [←hy']
 subst hx' hyv
 refine wpList_plain rfl fun K2 hK2=>?_
 unfold Oper.wp
 have hev:(a.put (some d) (.func (.func f) #[] cv.toArray)).eval (.tmp d) = .func (.func f) #[] cv.toArray:=by
  show(a.put (some d) _).tmps.getD d undef=_
  rw [getD_put (Nat.lt_of_lt_of_le (Nat.blt_eq.mp hd) hn),if_pos rfl]
 have hrun:(execOp (a.put (some d) (.func (.func f) #[] cv.toArray)).eval (⟨none, .defer ⟨.value (.tmp d),#[],tys⟩,ty2,pos2,aft2,none⟩:Oper)).run P w' = .ok (.defer ⟨.fn (.func f) cv.toArray,#[]⟩) w':=by
  simp [execOp,resolve,hev,Deferred.ofValue]
 rw [hrun]
 refine hK2 _ _ (wpList_nil ?_)
 refine k _ rfl _ _ ?_
 obtain⟨gdef,gn,gm,g1,g2,g3,g4,g5⟩:=hst
 exact⟨by show _::_=_::_;rw [gdef],gn,gm,g1,g2,g3,g4,g5⟩
theorem WTL.call {d:Nat}{x:Operand}{s:SV}{f:FuncId}{first caps:List SV}{l:List Operand}{tys:Array TypeId}{ty:TypeId}{pos:String}{aft:Array Edge}{svs:List SV}{Hin Rs:LH}{R X:SV→LH→Prop}(hx:ev F x=s) [hfv:FV s f first caps] (hc:PuH P f svs Hin R X)
  (hs:H.Perm (Hin++Rs)) (ha:first++l.map (ev F)++caps=svs) (hd:Nat.blt d n=true)
  (k:∀res H',R res H'→WTL P C n ops rest Post (upd F d res) (H'++Rs))
  (kx:∀v pv H' m' (a:Act) w',X pv H'→a.defers=C.dfs→MemIn m' w'→HOk m' w' (H'++Rs)→Rel C.ks C.m C.w m' w'→(∀e∈H'++Rs,e.1∈C.ks∨C.w.heap.size≤e.1)→pv.p m' v→(∀t,(F t).p m' (a.tmps.getD t undef))→Post (.panic [{v:=v,recovered:=false}]) a w') :
  WTL P C n ops (⟨some d, .call ⟨.value x,l.toArray,tys⟩,ty,pos,aft,none⟩::rest) Post F H:=by
 intro a w hst
 obtain⟨hdef,hn,m,h1,h2,h3,h4,h5⟩:=hst
 have hp:∀x,(ev F x).p m (a.eval x):=fun x=>by
  cases x with
  |tmp t=>exact h5 t
  |const v=>unfold ev lit;rfl
  |global g=>unfold ev lit;rfl
  |func f=>unfold ev lit;rfl
 have hargs:=evs_ok (m:=m) (a:=a) l fun x _=>hp x
 have e0:=hp x;rw [hx]at e0
 obtain⟨fa,ca,hv,hfa,hca⟩:=hfv.h _ _ e0
 have hall:ArgsOk m svs (fa.toList++l.map a.eval++ca.toList):=ha▸(hfa.append hargs).append hca
 have h2':=h2.perm hs
 have hHin:HOk m w Hin:=⟨by have:=h2'.1;rw [List.map_append]at this;exact(List.nodup_append.1 this).1,fun e he=>h2'.2 e (by simp [he])⟩
 unfold PuH at hc
 have hcall:=hc.2 m w _ h1 hHin hall
 refine wpList_plain rfl fun K' hK'=>?_
 unfold Oper.wp
 rw [run_callV hc.1 hv]
 refine Calls.mono hcall ?_
 rintro _ w' ⟨m',H',hm',hH',hr,hnew,hres⟩
 have hnk:∀e∈Rs,e.1∉keys Hin:=fun e he hk=>by
  obtain⟨e',he',hke⟩:=List.mem_map.1 hk
  have:=h2'.1
  rw [List.map_append]at this
  exact(List.nodup_append.1 this).2.2 _ (List.mem_map.2 ⟨e',he',rfl⟩) _ (List.mem_map.2 ⟨e,he,rfl⟩) hke
 have hRs:∀e∈Rs,m' e.1=none∧CellsOk m' w' e.1 e.2.1 e.2.2:=fun e he=>by
  obtain⟨g1,g2⟩:=h2'.2 e (by simp [he])
  have hlt:=g2.lt
  obtain⟨arr,g3,g4⟩:=g2
  exact⟨(hr.old _ hlt (hnk e he)).trans g1,arr,(hr.block _ hlt (hnk e he)).trans g3,g4.mono hr.le⟩
 have hHn:HOk m' w' (H'++Rs):=by
  refine⟨?_,fun e he=>?_⟩
  ·rw [List.map_append,List.nodup_append]
   refine⟨hH'.1,by have:=h2'.1;rw [List.map_append]at this;exact(List.nodup_append.1 this).2.1,fun x hx y hy hxy=>?_⟩
   obtain⟨e1,he1,rfl⟩:=List.mem_map.1 hx
   obtain⟨e2,he2,rfl⟩:=List.mem_map.1 hy
   rcases hnew e1 he1 with h|h
   ·exact hnk e2 he2 (hxy▸h)
   ·have:=(h2'.2 e2 (by simp [he2])).2.lt
    omega
  ·rcases List.mem_append.1 he with h|h
   ·exact hH'.2 e h
   ·exact hRs e h
 have hrel:Rel C.ks C.m C.w m' w':=h3.trans hr fun b hb hk=>by
  obtain⟨e',he',rfl⟩:=List.mem_map.1 hk
  rcases h4 e' (hs.mem_iff.2 (by simp [he']))with h|h
  ·exact h
  ·exact absurd hb (Nat.not_lt.2 h)
 have hown:∀e∈H'++Rs,e.1∈C.ks∨C.w.heap.size≤e.1:=fun e he=>by
  rcases List.mem_append.1 he with h|h
  ·rcases hnew e h with h|h
   ·obtain⟨e',he',hke⟩:=List.mem_map.1 h
    have:=h4 e' (hs.mem_iff.2 (by simp [he']))
    rw [hke]at this;exact this
   ·exact .inr (Nat.le_trans h3.size h)
  ·exact h4 e (hs.mem_iff.2 (by simp [h]))
 rcases hres with⟨v,res,rfl,hv',hR⟩|⟨v,pv,rfl,hv',hX⟩
 ·refine hK' _ _ (k res H' hR _ _ ?_)
  refine⟨hdef,by simpa [Act.put] using hn,m',hm',hHn,hrel,hown,fun t=>?_⟩
  rw [getD_put (Nat.lt_of_lt_of_le (Nat.blt_eq.mp hd) hn)]
  unfold Ab.upd
  by_cases ht:t=d
  ·subst ht;rw [if_pos rfl,Nat.beq_refl];exact hv'
  ·rw [if_neg ht]
   have:Nat.beq t d=false:=by
    cases hb:Nat.beq t d with
    |false=>rfl
    |true=>exact absurd (Nat.eq_of_beq_eq_true hb) ht
   rw [this]
   exact(F t).mono hr.le (h5 t)
 ·exact kx v pv H' m' a w' hX hdef hm' hHn hrel hown hv' fun t=>(F t).mono hr.le (h5 t)
def dRes (C:Ctx) (R:SV→LH→Prop):Ending→World→Prop:=fun e w'=>∃m' H',MemIn m' w'∧HOk m' w' H'∧Rel C.ks C.m C.w m' w'∧(∀e∈H',e.1∈C.ks∨C.w.heap.size≤e.1)∧∃v res,e = .returned v∧res.p m' v∧R res H'
theorem PuH.introD {f:FuncId}{fn:Func}{c:Code}{args:List SV}{Hin:LH}{R:SV→LH→Prop}(hf:P.funcs[f]? = some fn) (hb:fn.body=some c) (hbod:bodied P f=true)
  (h:∀C:Ctx,(∀pv H,¬C.pan pv H)→C.dfs=[]→WPT P C fn.ntmps c (bodyPostD P fn (dRes C R)) (ini args) Hin):PuH P f args Hin R noX:=by
 unfold PuH
 refine⟨hbod,fun m w vs hm hH ha=>?_⟩
 refine Calls.mono (calls_of_wp_defers hf hb ?_) (R:=dRes ⟨keys Hin,m,w,noX,[]⟩ R) ?_
 ·refine h ⟨keys Hin,m,w,noX,[]⟩ (fun _ _ h=>h) rfl _ w ?_
  refine⟨rfl,by simp only [Array.size_append,Array.size_replicate];omega,m,hm,hH,Rel.refl _ _ _,fun e he => .inl (mem_keys he),fun t=>?_⟩
  have:=ini_ok (us:=List.replicate (fn.ntmps-vs.toArray.size) undef) ha t
  rw [show vs.toArray++Array.replicate (fn.ntmps-vs.toArray.size) undef=(vs++List.replicate (fn.ntmps-vs.toArray.size) undef).toArray from by simp]
  exact this
 ·rintro e w' ⟨m',H',a1,a2,a3,a4,v,res,a5,a6,a7⟩
  exact⟨m',H',a1,a2,a3,a4, .inl ⟨v,res,a5,a6,a7⟩⟩
theorem dfin {fn:Func}{C1 C:Ctx}{g:FuncId}{cv:Array Value}{R:SV→LH→Prop}(hC:∃X,C1={C with pan:=X,dfs:=[⟨.fn (.func g) cv,#[]⟩]}) (hb:bodied P g=true) (hpan:∀pv H,¬C1.pan pv H)
  (hidle:∀w,CallsD P g cv .returning w fun e u' w'=>(∃v,e = .returned v)∧u' = .returning∧w'=w):∀e a w,liftQ C1 n (endH P fn.results R) e a w→bodyPostD P fn (dRes C R) e a w:=by
 obtain⟨X,rfl⟩:=hC
 rintro e a w (⟨F',H',⟨hdef,_,m',hm',hH',hr',h4',hp'⟩,hq⟩|⟨ch,rfl,_,m',v,pv,H',_,_,_,_,_,_,hx⟩)
 ·have fin:(∃res H2,Ends P fn.results.toList res F' H'∧H2.Sublist H'∧R res H2)→Leaves P fn a.tmps (dRes C R) a.defers .returning w:=by
   rintro ⟨res,H2,he,hsub,hR⟩
   obtain⟨v,hv,hpv⟩:=run_end rfl he hm' hH' hp'
   rw [hdef]
   refine leaves_cons (f:=g) (args:=cv) (by simp) (by simp only [invoke,run_callFunc hb,Array.empty_append]) ?_
   refine(hidle w).mono ?_
   rintro e u' w' ⟨⟨v0,rfl⟩,rfl,rfl⟩
   exact⟨v,hv,m',H2,hm',hH'.sub' hsub,hr',fun e he=>h4' e (hsub.subset he),v,res,rfl,hpv,hR⟩
  unfold endH at hq
  cases e with
  |normal=>exact fin hq
  |ret=>exact fin hq
  |exit id=>exact hq.elim
  |goto l=>exact hq.elim
  |panic ch=>exact hq.elim
  |outgrown=>exact hq.elim
 ·exact absurd hx (hpan _ _)
theorem dpan {fn:Func}{C:Ctx}{g:FuncId}{cv:Array Value}{R:SV→LH→Prop}{a:Act}{w:World}{v:Value}(hb:bodied P g=true) (hdef:a.defers=[⟨.fn (.func g) cv,#[]⟩])
  (h:CallsD P g cv (.panicking [{v:=v,recovered:=false}]) w fun e u' w'=>(∃v',e = .returned v')∧u' = .panicking [{v:=v,recovered:=true}]∧∃v2,(results fn a.tmps).run P w' = .ok v2 w'∧dRes C R (.returned v2) w') :
  bodyPostD P fn (dRes C R) (.panic [{v:=v,recovered:=false}]) a w:=by
 show Leaves P fn a.tmps (dRes C R) a.defers _ w
 rw [hdef]
 refine leaves_cons (f:=g) (args:=cv) (by simp) (by simp only [invoke,run_callFunc hb,Array.empty_append]) ?_
 refine h.mono ?_
 rintro e u' w' ⟨⟨v0,rfl⟩,rfl,v2,h1,h2⟩
 exact⟨v2,h1,h2⟩
theorem fm_ok {m:Mem}{tmps:Array Value}:∀(l:List (Nat×SV)),(∀e∈l,e.2.p m (tmps.getD e.1 undef))→∀t,(fm l t).p m (tmps.getD t undef)
 | [],_,t=>by show(Ab.top).p m _;unfold Ab.top;trivial
 |(d,s)::r,h,t=>by
  show(upd (fm r) d s t).p m _
  by_cases ht:t=d
  ·subst ht;rw [upd_eq];exact h (t,s) (by simp)
  ·rw [upd_ne ht];exact fm_ok r (fun e he=>h e (by simp [he])) t
theorem wpS_eng {c:Code}{Q:Exit→Fr→LH→Prop}{Q':Exit→Act→List Frame→World→Prop}{a:Act}{w:World}{cs:List Frame}(h:WP P C n c Q F H) (hst:St C n F H a w) (k:∀e a' w',liftQ C n Q e a' w'→Q' e a' cs w'):c.wpS P Q' a cs w :=
 wpS_of_wp (wp_mono (by unfold WP at h;exact h a w hst) k)
end
theorem catch_idle (p q:Addr) (w:World):CallsD Tryz.prog 158 #[.pointer (some p), .pointer (some q)] .returning w fun e u' w'=>(∃v,e = .returned v)∧u' = .returning∧w'=w:=by
 refine callsD_of_wpS Tryz.func158 rfl fun c₀ cs hu=>?_
 apply wpS_seq
 apply wpS_region
 simp [wpOpsS,go_sem,recoverD,hu,Exit.thenS]
 apply wpS_seq
 apply wpS_region
 simp [wpOpsS,go_sem,Exit.thenS]
 refine wpS_cond (t:=false) (by simp [Act.eval,Array.replicate]) ?_
 simp only [Bool.false_eq_true,if_false]
 refine wpS_of_wp (wp_skip ?_)
 cases c₀
 simp_all [bodyPostS,results,Exit.thenS]
theorem ov_assertInv {F:Fr}{H:LH}{ty:TypeId}{x:Operand}(hx:ev F x=inval):OpV Tryz.prog (.typeAssert x 20 282 true) ty F H (Ab.tup [ag [],lit (.bool true)]) :=
 OpV.pure fun m w o a ho _ _ _ h=>by
  have h0:=h x (by simp [Op.operands]);rw [hx,lit_p]at h0
  have hrun:(Instr.typeAssert (.iface 282 (.agg #[])) 20 282 true).run Tryz.prog w = .ok (.tuple #[.agg #[], .bool true]) w:=by kernel_rfl
  refine⟨.tuple #[.agg #[], .bool true],by simp [execOp,ho,h0,hrun],?_⟩
  unfold Ab.tup
  exact⟨_,rfl,by unfold ag;exact⟨#[],rfl,trivial⟩,lit_p.2 rfl,trivial⟩
theorem catch_rec [Sent 0]{b2 b3:Nat}{w:World}{m:Mem}{s0 e0:SV}{v:Value}(hm:MemIn m w) (hv:inval.p m v) (hH:HOk m w [(b3,41,[e0]),(b2,9,[s0])]) :
  CallsD Tryz.prog 158 #[.pointer (some ⟨b2,0,none⟩), .pointer (some ⟨b3,0,none⟩)] (.panicking [{v:=v,recovered:=false}]) w fun e u' w'=>(∃v',e = .returned v')∧u' = .panicking [{v:=v,recovered:=true}]∧
   ∃m',MemIn m' w'∧HOk m' w' [(b3,41,[lit (sent 0)]),(b2,9,[str []])]∧Rel [b3,b2] m w m' w':=by
 have hv':=lit_p.1 hv
 subst hv'
 refine callsD_of_wpS Tryz.func158 rfl fun c₀ cs hu=>?_
 apply wpS_seq
 apply wpS_region
 simp [wpOpsS,go_sem,recoverD,hu,Exit.thenS]
 refine wpS_eng (C:=⟨[b3,b2],m,w,noX,[]⟩) (n:=17) (F:=fm [(0,lit (.pointer (some ⟨b2,0,none⟩))),(1,lit (.pointer (some ⟨b3,0,none⟩))),(2,inval)]) (H:=[(b3,41,[e0]),(b2,9,[s0])])
  (Q:=fun e _ H'=>e = .normal∧[(b3,41,[lit (sent 0)]),(b2,9,[str []])].Sublist H') ?_ ⟨rfl,by simp,m,hm,hH,Rel.refl _ _ _,fun e he => .inl (by simp at he⊢;rcases he with rfl|rfl <;> simp),fm_ok _ ?_⟩ ?_
 ·repeat(refine A1 ⟨?_⟩;intros)
  refine Wo (ov_assertInv rfl) ?_
  repeat(refine A1 ⟨?_⟩;intros)
  exact⟨rfl,by repeat(first|exact List.Sublist.refl _|refine List.Sublist.cons _ ?_)⟩
 ·intro e he
  simp only [List.mem_cons,List.not_mem_nil,or_false]at he
  rcases he with rfl|rfl|rfl
  ·rw [lit_p];simp
  ·rw [lit_p];simp
  ·rw [lit_p];simp
 ·rintro e a' w' (⟨F',H',⟨hdef,_,m',hm',hH',hr',h4',hp'⟩,rfl,hsub⟩|⟨ch,rfl,_,_,_,_,_,_,_,_,_,_,_,hx⟩)
  ·refine⟨hdef,_,rfl, .tuple #[],?_,⟨_,rfl⟩,rfl,m',hm',hH'.sub' hsub,hr'⟩
   simp [results]
  ·exact hx.elim
theorem write_pu [Sent 0]{b:Nat}{T:TypeId}{cs:List SV}{g:FuncId}{good:Bool}{t:List UInt8}(hne:good=true→t≠[]) (hlen:t.length≤65536)
  (hc:∀w,PuH Tryz.prog g [lit (.pointer (some ⟨w,0,none⟩)),lit (.pointer (some ⟨b,0,none⟩))] [(b,T,cs),(w,289,wrC fresh (lit (.slice none 0 0)) 0 false)] (fun r H'=>good=true∧r=Ab.tup []∧Wtr w t 0 H') (fun pv _=>good=false∧pv=inval)) :
  PuH Tryz.prog 95 [fnv g [] [lit (.pointer (some ⟨b,0,none⟩))]] [(b,T,cs)] (fun r _=>r=(if good=true then Ab.tup [str t,lit .nilIface]else Ab.tup [str [],lit (sent 0)])) noX:=by
 refine PuH.introD Tryz.func95 rfl (by kernel_rfl) fun C hC0 hC1=>?_
 refine WPT.seq hC0 ?_
 repeat(refine A1 ⟨?_⟩;intros)
 rename_i b2 b3
 refine onN.i ?_
 refine WPT.defer (cv:=[.pointer (some ⟨b2,0,none⟩), .pointer (some ⟨b3,0,none⟩)]) (X1:=noX) rfl rfl fun C1 hC=>?_
 rw [hC1]at hC
 have hC2:∀pv H,¬C1.pan pv H:=fun pv H h=>by rw [hC]at h;exact h
 refine WPT.seq hC2 ?_
 repeat(refine A1 ⟨?_⟩;intros)
 rename_i w
 refine onN.i ?_
 refine WPT.reg ?_
 refine WTL.val (op := .move _) Ov0 ?_ rfl
 refine WTL.val (op := .move _) Ov0 ?_ rfl
 refine WTL.call (s:=fnv g [] [lit (.pointer (some ⟨b,0,none⟩))]) (l:=[.tmp 9]) rfl (hc w) (Tk.perm (Tk.cons (HDel.there _ (HDel.there _ (HDel.there _ (HDel.here _)))) (Tk.cons (HDel.here _) (Tk.nil _)))) rfl rfl ?_ ?_
 ·rintro _ H' ⟨hg,rfl,a,s,Hb,ha,hb,rfl⟩
  refine WTL.nil ?_
  refine WPT.fin (Q:=endH Tryz.prog Tryz.f95.results fun r _=>r=(if good=true then Ab.tup [str t,lit .nilIface]else Ab.tup [str [],lit (sent 0)])) ?_ (dfin ⟨_,hC⟩ (by kernel_rfl) hC2 fun w=>catch_idle _ _ w)
  have hl0:=hne hg
  refine WP.perm List.perm_append_comm ?_
  simp only [List.cons_append,List.nil_append]
  repeat(refine A1 ⟨?_⟩;intros)
  refine WgE ?_
  refine WfH (len_pu ⟨a,s,Hb,ha,hb,rfl⟩) ?_
  rintro _ _ ⟨rfl,rfl⟩
  refine WPL.perm List.perm_append_comm ?_
  simp only [List.cons_append,List.nil_append]
  repeat(refine A1 ⟨?_⟩;intros)
  refine WfH (bstring_pu ⟨a,s,Hb,ha,hb,rfl⟩ hl0 (by omega)) ?_
  rintro _ H2 rfl
  refine WPL.perm List.perm_append_comm ?_
  simp only [List.cons_append,List.nil_append]
  repeat(refine A1 ⟨?_⟩;intros)
  exact endHR _ _ (end2 (RV.cell1 (b:=b2) rfl (List.mem_cons_of_mem _ List.mem_cons_self) rfl) (RV.cell1 (b:=b3) rfl List.mem_cons_self rfl) (Le.refl _)) (List.nil_sublist _) (by rw [if_pos hg])
 ·subst hC
  rintro v pv H' m' a' w' ⟨hg,rfl⟩ hdef hm' hH' hrel hown hpv hF
  refine dpan (g:=158) (cv := #[.pointer (some ⟨b2,0,none⟩), .pointer (some ⟨b3,0,none⟩)]) (by kernel_rfl) hdef ?_
  have hsub:∀e∈[(b3,41,[lit (sent 0)]),(b2,9,[str []])],e.1∈C.ks∨C.w.heap.size≤e.1:=fun e he=>by
   simp only [List.mem_cons,List.not_mem_nil,or_false]at he
   rcases he with rfl|rfl
   ·exact hown (b3,41,[lit .nilIface]) (List.mem_append_right _ (List.mem_cons_self))
   ·exact hown (b2,9,[lit (.string ⟨#[]⟩)]) (List.mem_append_right _ (List.mem_cons_of_mem _ (List.mem_cons_self)))
  refine(catch_rec hm' hpv hH'.tail).mono ?_
  rintro e u' w2 ⟨he,hu,m2,g1,g2,g3⟩
  refine⟨he,hu,?_⟩
  obtain⟨v2,hv2,hp2⟩:=run_end (fn:=Tryz.f95) (tmps:=a'.tmps) (P:=Tryz.prog) rfl (end2 (RV.cell1 (b:=b2) rfl (List.mem_cons_of_mem _ List.mem_cons_self) rfl) (RV.cell1 (b:=b3) rfl List.mem_cons_self rfl) (Le.refl _)) g1 g2 fun x=>SV.mono _ g3.le (hF x)
  refine⟨v2,hv2,m2,_,g1,g2,hrel.trans g3 fun x hx hk=>?_,hsub,v2,_,rfl,hp2,by rw [hg];rfl⟩
  have:x∈C.ks∨C.w.heap.size≤x:=by
   simp only [keys,List.map_cons,List.map_nil,List.mem_cons,List.not_mem_nil,or_false]at hk
   rcases hk with rfl|rfl
   ·exact hsub _ List.mem_cons_self
   ·exact hsub _ (List.mem_cons_of_mem _ List.mem_cons_self)
  rcases this with h|h
  ·exact h
  ·exact absurd hx (Nat.not_lt.2 h)
section
variable {P:Program}{C:Ctx}{n:Nat}{Q:Exit→Fr→LH→Prop}{F:Fr}{H:LH}{ops:Array Oper}
theorem WPL.viaS2 {l:List Oper}{B D R:Code}(J:Fr→LH→Prop) (h:WPL P C n ops l (fun F H=>thenQ (fun F H=>WP P C n B (thenQ (fun F H=>WP P C n D (thenQ J Q) F H) Q) F H) Q .normal F H) F H)
  (k:∀F H,J F H→WP P C n R Q F H):WPL P C n ops l (fun F H=>thenQ (WP P C n (.seq B (.seq D R)) Q) Q .normal F H) F H :=
 WPL.via _ h fun F H hB=>WP.join _ hB fun F H hD=>WP.join _ hD k
end
theorem stop_top {x:Ex}{j:Nat}{r:List (Ex×Nat)}:((stop ((x,j)::r)).drop r.length).take 1=[lit (.int .i64 (j:Nat))]:=by
 rw [stop_cons,←stop_len r];simp
theorem stop_two {x y:Ex}{j k:Nat}{r:List (Ex×Nat)}:((stop ((y,k)::(x,j)::r)).drop r.length).take 1=[lit (.int .i64 (j:Nat))]∧((stop ((y,k)::(x,j)::r)).drop (r.length+1)).take 1=[lit (.int .i64 (k:Nat))]:=by
 rw [stop_cons,stop_cons]
 constructor
 ·rw [←stop_len r];simp
 ·rw [show r.length+1=(stop r++[lit (.int .i64 (j:Nat))]).length by simp [stop_len],List.drop_left];simp
theorem bor3:∀b g1 g3:Bool,(b || !g3 || !g1)=(b || !(g1&&g3)):=by decide
def Rdy (ns:List Nd) (w k:Nat) (n:Nd) (st:List (Ex×Nat)) (bad:Bool) (m:Nat):Prop:=∃(r:List (Ex×Nat)) (t:Ex) (kT kD:List SV),stp k n st=some ((t,k)::r)∧st.length=r.length+m∧stxt st=stxt r++kT∧sdep st=sdep r++kD∧
 (stop st).take r.length=stop r∧
 PuH Tryz.prog 91 [lit (.pointer (some ⟨w,0,none⟩)),ag (ndx n),sl (ns.map ndx).flatten ns.length,sl kT m,sl kD m] [(w,wT,wC (bad || !stGood st) false)]
  (fun r' H=>r'=Ab.tup [str t.rtxt,lit (.int .i64 t.dep)]∧H=[(w,wT,wC (bad || !stGood ((t,k)::r)) false)]) noX
set_option maxHeartbeats 4000000 in
theorem rexpr_pu (w:Nat) (ns:List Nd){L:Nat}(hok:∀n∈ns,n.ok L) (hL:L≤20) (hns:ns.length≤90) (bad:Bool) :
  PuH Tryz.prog 40 [lit (.pointer (some ⟨w,0,none⟩)),sl (ns.map ndx).flatten ns.length] [(w,wT,wC bad false)]
   (fun r H=>(okL ns=false∧r=str []∧H=[(w,wT,wC true false)])∨∃t:Ex,okL ns=true∧t.At ns (ns.length-1)∧t.size=ns.length∧r=str t.rtxt∧H=[(w,wT,wC (bad || !t.good) false)]) noX:=by
 have hspec:=stk_okL ns
 refine PuH.intro Tryz.func40 rfl (by kernel_rfl) fun C hC=>?_
 repeat(refine A1 ⟨?_⟩;intros)
 refine WP.loopS (ι:=Nat×List (Ex×Nat)) (fun x=>x.1≤ns.length∧stk (ns.drop x.1) x.1 x.2=stk ns 0 []∧∃ss:List Nat,ss.length=x.1∧Sk ns ss x.1 x.2) (fun x=>ns.length-x.1)
  (fun x=>fm [(0,lit (.pointer (some ⟨w,0,none⟩))),(1,sl (ns.map ndx).flatten ns.length),(5,sl (stxt x.2) x.2.length),(6,sl (stop x.2) x.2.length),(7,sl (sdep x.2) x.2.length),(14,sl (ns.map ndx).flatten ns.length),(15,lit (.int .i64 ns.length)),(16,lit (.int .i64 x.1))])
  (fun x=>[(w,wT,wC (bad || !stGood x.2) false)]) (0,[])
  ⟨Nat.zero_le _,rfl,[],rfl, .nil⟩ (LeF.cons (Le.refl _) (LeF.cons (Le.refl _) (LeF.cons le_nilS (LeF.cons le_nilS (LeF.cons le_nilS lfA))))) (by show [(w,wT,wC (bad||false) false)].Sublist _;rw [Bool.or_false];exact List.Sublist.refl _) ?_
 rintro ⟨k,st⟩ ⟨hk,hstk,ss,hss,hSk⟩ K hK
 simp only at hk hstk hss hSk⊢
 have hstl:=hSk.len
 by_cases hkl:k<ns.length
 ·have hget:=List.getElem?_eq_getElem hkl
  generalize ns[k]=n at hget
  have hmem:n∈ns:=List.mem_of_getElem? hget
  have hat:=flat_at (f:=ndx) (n:=19) ndx_len hget
  have hne:(ns.map ndx).flatten≠[]:=flat_ne ndx_len (by omega) (fun e=>by rw [e]at hkl;simp at hkl)
  have c0:=shape_pu n (hok n hmem) (by omega)
  rw [drop_cons hget,stk_cons]at hstk
  have hfail:stp k n st=none→okL ns=false:=fun h=>by
   rw [h]at hstk;rw [←hstk]at hspec;exact hspec
  have hgo:∀st',stp k n st=some st'→∀F' H',LeF F' (fm [(0,lit (.pointer (some ⟨w,0,none⟩))),(1,sl (ns.map ndx).flatten ns.length),(5,sl (stxt st') st'.length),(6,sl (stop st') st'.length),(7,sl (sdep st') st'.length),(14,sl (ns.map ndx).flatten ns.length),(15,lit (.int .i64 ns.length)),(16,lit (.int .i64 (k+1:Nat)))])→
    [(w,wT,wC (bad || !stGood st') false)].Sublist H'→K F' H':=fun st' hs F' H' h1 h2=>by
   have h3:=stp_step (ns:=ns) (ss:=ss) (n:=n) (st:=st) (by rw [hss];exact hget) (by rw [hss];exact hSk)
   rw [hss,hs]at h3
   obtain⟨s,_,h4⟩:=h3
   rw [hs]at hstk
   exact hK F' H' (k+1,st') ⟨by simp only;omega,hstk,ss++[s],by simp [hss],h4⟩ (by simp only;omega) h1 h2
  have hall:=hSk.all
  clear hK hstk hspec
  repeat(refine A1 ⟨?_⟩;intros)
  refine Wo (ov_idxS (cs':=ndx n) rfl rfl (by omega) (by omega) hat hne) ?_
  repeat(refine A1 ⟨?_⟩;intros)
  rename_i b9
  refine Wc c0 ?_
  cases e:okN n with
  |false =>
   repeat(refine A1 ⟨?_⟩;intros)
   exact endHR _ _ (end1 (RV.tmp rfl) (Le.refl _)) (List.Sublist.cons _ (List.Sublist.refl _)) (.inl ⟨hfail (by unfold stp;rw [if_neg (by rw [e];decide)]),rfl,rfl⟩)
  |true =>
   obtain⟨hnk,hno⟩:=okN_k e
   refine O1 ⟨?_⟩
   repeat(refine AS ⟨?_⟩;intros)
   refine WPL.viaS2 (fun F H=>∃m:Nat,m≤2∧Rdy ns w k n st bad m∧LeF F (fm [(0,lit (.pointer (some ⟨w,0,none⟩))),(1,sl (ns.map ndx).flatten ns.length),(5,sl (stxt st) st.length),(6,sl (stop st) st.length),(7,sl (sdep st) st.length),(8,lit (.int .i64 k)),(9,lit (.pointer (some ⟨b9,0,none⟩))),(10,lit (.int .i64 m)),(14,sl (ns.map ndx).flatten ns.length),(15,lit (.int .i64 ns.length)),(16,lit (.int .i64 k))])∧
    H=[(b9,33,ndx n),(w,wT,wC (bad || !stGood st) false)]) ?_ ?_
   ·have hbnd:∀e∈st,e.1.At ns e.2∧e.1.rtxt.length≤900000∧e.1.dep≤900000:=fun q hq=>by
     obtain⟨a1,a2,_⟩:=hall q hq
     have:=Ex.rtxt_len hL hok a1
     have:=q.1.dep_le
     exact⟨a1,by omega,by omega⟩
    by_cases k5:n.k=5
    ·cases st with
     |nil =>
      have h0:([]:List (Ex×Nat)).length=0:=rfl
      have hf:=hfail (by unfold stp;rw [if_pos e,if_pos k5])
      clear hbnd hall hgo hfail
      repeat(first|(refine AS ⟨?_⟩;intros)|(refine O1 ⟨?_⟩;intros))
      refine WdM [] _ (fun _=>[]) ?_
      refine MkD 35 ?_
      repeat(refine A1 ⟨?_⟩;intros)
      refine mkD0 ?_
      refine MkN ?_
      repeat(refine A1 ⟨?_⟩;intros)
      exact endHR _ _ (end1 (RV.tmp rfl) (Le.refl _)) (List.Sublist.cons _ (List.Sublist.refl _)) (.inl ⟨hf,rfl,rfl⟩)
     |cons q r =>
      obtain⟨x,j⟩:=q
      obtain⟨a1,a2,a3⟩:=hbnd (x,j) (by simp)
      simp only at a1 a2 a3
      have h0:((x,j)::r).length=r.length+1:=rfl
      by_cases hx:n.x=(j:Nat)
      ·have hs:stp k n ((x,j)::r)=some ((.un n x,k)::r):=by unfold stp;rw [if_pos e,if_pos k5];simp only;rw [if_pos hx]
       have hpart:=rpart_un (ns:=ns) (by omega) w n x j k5 hx a1.top a2 a3 (bad || !stGood ((x,j)::r))
       clear hbnd hall hgo hfail
       repeat(first|(refine AS ⟨?_⟩;intros)|(refine O1 ⟨?_⟩;intros))
       refine WdM [] _ (fun _=>[]) ?_
       refine MkD 35 ?_
       repeat(refine A1 ⟨?_⟩;intros)
       refine Wdog (ov_idxS (cs':=[lit (.int .i64 (j:Nat))]) rfl rfl (by omega) (by omega) (by rw [show(((((x,j)::r).length:Nat):Int)-1).toNat*1=r.length by omega];exact stop_top) (by rw [stop_cons];simp)) ?_
       repeat(refine A1 ⟨?_⟩;intros)
       refine mkD0 ?_
       refine MkN ?_
       repeat(refine A1 ⟨?_⟩;intros)
       exact⟨1,by omega,⟨r, .un n x,[str x.rtxt],[lit (.int .i64 (x.dep:Nat))],hs,h0,stxt_cons _ _,sdep_cons _ _,by rw [stop_cons,←stop_len r,List.take_left],hpart⟩,lfA,rfl⟩
      ·have hf:=hfail (by unfold stp;rw [if_pos e,if_pos k5];simp only;rw [if_neg hx])
       clear hbnd hall hgo hfail
       repeat(first|(refine AS ⟨?_⟩;intros)|(refine O1 ⟨?_⟩;intros))
       refine WdM [] _ (fun _=>[]) ?_
       refine MkD 35 ?_
       repeat(refine A1 ⟨?_⟩;intros)
       refine Wdog (ov_idxS (cs':=[lit (.int .i64 (j:Nat))]) rfl rfl (by omega) (by omega) (by rw [show(((((x,j)::r).length:Nat):Int)-1).toNat*1=r.length by omega];exact stop_top) (by rw [stop_cons];simp)) ?_
       repeat(refine A1 ⟨?_⟩;intros)
       refine mkD0 ?_
       refine MkN ?_
       repeat(refine A1 ⟨?_⟩;intros)
       exact endHR _ _ (end1 (RV.tmp rfl) (Le.refl _)) (List.Sublist.cons _ (List.Sublist.refl _)) (.inl ⟨hf,rfl,rfl⟩)
    by_cases k6:n.k=6
    ·cases st with
     |nil =>
      have h0:([]:List (Ex×Nat)).length=0:=rfl
      have hf:=hfail (by unfold stp;rw [if_pos e,if_neg k5,if_pos k6])
      clear hbnd hall hgo hfail
      repeat(first|(refine AS ⟨?_⟩;intros)|(refine O1 ⟨?_⟩;intros))
      refine WdM [] _ (fun _=>[]) ?_
      refine MkD 35 ?_
      repeat(refine A1 ⟨?_⟩;intros)
      refine mkD0 ?_
      refine MkN ?_
      repeat(refine A1 ⟨?_⟩;intros)
      exact endHR _ _ (end1 (RV.tmp rfl) (Le.refl _)) (List.Sublist.cons _ (List.Sublist.refl _)) (.inl ⟨hf,rfl,rfl⟩)
     |cons q r1 =>
      obtain⟨y,i⟩:=q
      cases r1 with
      |nil =>
       have h0:([(y,i)]:List (Ex×Nat)).length=1:=rfl
       have hf:=hfail (by unfold stp;rw [if_pos e,if_neg k5,if_pos k6])
       clear hbnd hall hgo hfail
       repeat(first|(refine AS ⟨?_⟩;intros)|(refine O1 ⟨?_⟩;intros))
       refine WdM [] _ (fun _=>[]) ?_
       refine MkD 35 ?_
       repeat(refine A1 ⟨?_⟩;intros)
       refine mkD0 ?_
       refine MkN ?_
       repeat(refine A1 ⟨?_⟩;intros)
       exact endHR _ _ (end1 (RV.tmp rfl) (Le.refl _)) (List.Sublist.cons _ (List.Sublist.refl _)) (.inl ⟨hf,rfl,rfl⟩)
      |cons q r =>
       obtain⟨x,j⟩:=q
       obtain⟨b1,b2,b3⟩:=hbnd (y,i) (by simp)
       obtain⟨a1,a2,a3⟩:=hbnd (x,j) (by simp)
       simp only at a1 a2 a3 b1 b2 b3
       have h0:((y,i)::(x,j)::r).length=r.length+2:=rfl
       by_cases hx:n.x=(j:Nat)
       case neg =>
        have hf:=hfail (by unfold stp;rw [if_pos e,if_neg k5,if_pos k6];simp only;rw [if_neg (fun h=>hx h.1)])
        clear hbnd hall hgo hfail
        repeat(first|(refine AS ⟨?_⟩;intros)|(refine O1 ⟨?_⟩;intros))
        refine WdM [] _ (fun _=>[]) ?_
        refine MkD 35 ?_
        repeat(refine A1 ⟨?_⟩;intros)
        refine Wdog (ov_idxS (cs':=[lit (.int .i64 (j:Nat))]) rfl rfl (by omega) (by omega) (by rw [show(((((y,i)::(x,j)::r).length:Nat):Int)-2).toNat*1=r.length by omega];exact stop_two.1) (by rw [stop_cons];simp)) ?_
        repeat(refine A1 ⟨?_⟩;intros)
        refine mkD0 ?_
        refine MkN ?_
        repeat(refine A1 ⟨?_⟩;intros)
        exact endHR _ _ (end1 (RV.tmp rfl) (Le.refl _)) (List.Sublist.cons _ (List.Sublist.refl _)) (.inl ⟨hf,rfl,rfl⟩)
       by_cases hy:n.y=(i:Nat)
       case neg =>
        have hf:=hfail (by unfold stp;rw [if_pos e,if_neg k5,if_pos k6];simp only;rw [if_neg (fun h=>hy h.2)])
        clear hbnd hall hgo hfail
        repeat(first|(refine AS ⟨?_⟩;intros)|(refine O1 ⟨?_⟩;intros))
        refine WdM [] _ (fun _=>[]) ?_
        refine MkD 35 ?_
        repeat(refine A1 ⟨?_⟩;intros)
        refine Wdog (ov_idxS (cs':=[lit (.int .i64 (j:Nat))]) rfl rfl (by omega) (by omega) (by rw [show(((((y,i)::(x,j)::r).length:Nat):Int)-2).toNat*1=r.length by omega];exact stop_two.1) (by rw [stop_cons];simp)) ?_
        repeat(refine A1 ⟨?_⟩;intros)
        refine Wdog (ov_idxS (cs':=[lit (.int .i64 (i:Nat))]) rfl rfl (by omega) (by omega) (by rw [show(((((y,i)::(x,j)::r).length:Nat):Int)-1).toNat*1=r.length+1 by omega];exact stop_two.2) (by rw [stop_cons];simp)) ?_
        repeat(refine A1 ⟨?_⟩;intros)
        refine mkD0 ?_
        refine MkN ?_
        repeat(refine A1 ⟨?_⟩;intros)
        exact endHR _ _ (end1 (RV.tmp rfl) (Le.refl _)) (List.Sublist.cons _ (List.Sublist.refl _)) (.inl ⟨hf,rfl,rfl⟩)
       have hs:stp k n ((y,i)::(x,j)::r)=some ((.bi n x y,k)::r):=by unfold stp;rw [if_pos e,if_neg k5,if_pos k6];simp only;rw [if_pos ⟨hx,hy⟩]
       have hpart:=rpart_bi (ns:=ns) (by omega) w n x y j i k6 (hno k6).1 (hno k6).2 hx hy a1.top b1.top a2 b2 a3 b3 (bad || !stGood ((y,i)::(x,j)::r))
       have hgd:stGood ((y,i)::(x,j)::r)=stGood ((Ex.bi n x y,k)::r):=by
        show(y.good&&(x.good&&stGood r))=((x.good&&y.good)&&stGood r)
        generalize x.good=g1;generalize y.good=g2;generalize stGood r=g3
        revert g1 g2 g3;decide
       clear hbnd hall hgo hfail
       repeat(first|(refine AS ⟨?_⟩;intros)|(refine O1 ⟨?_⟩;intros))
       refine WdM [] _ (fun _=>[]) ?_
       refine MkD 35 ?_
       repeat(refine A1 ⟨?_⟩;intros)
       refine Wdog (ov_idxS (cs':=[lit (.int .i64 (j:Nat))]) rfl rfl (by omega) (by omega) (by rw [show(((((y,i)::(x,j)::r).length:Nat):Int)-2).toNat*1=r.length by omega];exact stop_two.1) (by rw [stop_cons];simp)) ?_
       repeat(refine A1 ⟨?_⟩;intros)
       refine Wdog (ov_idxS (cs':=[lit (.int .i64 (i:Nat))]) rfl rfl (by omega) (by omega) (by rw [show(((((y,i)::(x,j)::r).length:Nat):Int)-1).toNat*1=r.length+1 by omega];exact stop_two.2) (by rw [stop_cons];simp)) ?_
       repeat(refine A1 ⟨?_⟩;intros)
       refine mkD0 ?_
       refine MkN ?_
       repeat(refine A1 ⟨?_⟩;intros)
       refine⟨2,by omega,⟨r, .bi n x y,[str x.rtxt,str y.rtxt],[lit (.int .i64 (x.dep:Nat)),lit (.int .i64 (y.dep:Nat))],hs,h0,by rw [stxt_cons,stxt_cons,List.append_assoc];rfl,by rw [sdep_cons,sdep_cons,List.append_assoc];rfl,by rw [stop_cons,stop_cons,←stop_len r,List.append_assoc,List.take_left],?_⟩,lfA,rfl⟩
       rw [←hgd];exact hpart
    ·have hs:stp k n st=some ((.leaf n,k)::st):=by unfold stp;rw [if_pos e,if_neg k5,if_neg k6]
     have hpart:=rpart_leaf w n (hok n hmem) hL (by omega) (by omega) (bad || !stGood st) (sl (ns.map ndx).flatten ns.length) (sl [] 0) (sl [] 0)
     have hgd:(bad || !stGood st || !(Ex.leaf n).good)=(bad || !stGood ((Ex.leaf n,k)::st)):=by
      show _=(bad || !((Ex.leaf n).good&&stGood st))
      exact bor3 _ _ _
     clear hbnd hall hgo hfail
     repeat(first|(refine AS ⟨?_⟩;intros)|(refine O1 ⟨?_⟩;intros))
     refine WdM [] _ (fun _=>[]) ?_
     refine MkD 35 ?_
     repeat(refine A1 ⟨?_⟩;intros)
     refine mkD0 ?_
     refine MkN ?_
     repeat(refine A1 ⟨?_⟩;intros)
     refine⟨0,by omega,⟨st, .leaf n,[],[],hs,rfl,by rw [List.append_nil],by rw [List.append_nil],by rw [←stop_len st,List.take_length],?_⟩,lfA,rfl⟩
     rw [←hgd];exact hpart
   rintro F H ⟨m,hm2,⟨r,t,kT,kD,hstp,hlen,hT,hD,hO,hpart⟩,hF,rfl⟩
   refine WP.le hF ?_
   clear hF hat hne c0 hfail hget hmem e hnk hno hall
   have hTl:kT.length=m:=by have:=congrArg List.length hT;rw [List.length_append,stxt_len,stxt_len]at this;omega
   have hDl:kD.length=m:=by have:=congrArg List.length hD;rw [List.length_append,sdep_len,sdep_len]at this;omega
   have e1:(stxt st).drop r.length=kT:=by rw [hT,←stxt_len r,List.drop_left]
   have e2:(sdep st).drop r.length=kD:=by rw [hD,←sdep_len r,List.drop_left]
   have e3:(stxt st).take r.length=stxt r:=by rw [hT,←stxt_len r,List.take_left]
   have e4:(sdep st).take r.length=sdep r:=by rw [hD,←sdep_len r,List.take_left]
   have e5:st.length-r.length=m:=by omega
   have e6:(st.length:Int)-(m:Nat)=(r.length:Nat):=by omega
   have hgo':=hgo _ hstp
   clear hgo hstp
   repeat(first|(refine AS ⟨?_⟩;intros)|(refine O1 ⟨?_⟩;intros))
   refine WP.perm (List.Perm.swap _ _ _) ?_
   refine WdM [9] [(b9,33,ndx n)] (fun s=>[(w,wT,wC ([bad || !stGood st,bad || !stGood ((t,k)::r)].getD s false) false)]) ?_
   refine MkD 9 ?_
   repeat(refine A1 ⟨?_⟩;intros)
   refine Wdo (ov_slF (cs:=stxt st) r.length rfl rfl e6 (stxt_len st) (by omega)) ?_
   rw [e1,e5]
   repeat(refine A1 ⟨?_⟩;intros)
   refine Wdo (ov_slF (cs:=sdep st) r.length rfl rfl e6 (sdep_len st) (by omega)) ?_
   rw [e2,e5]
   repeat(refine A1 ⟨?_⟩;intros)
   refine mkD0 ?_
   refine MkC hpart ?_
   refine MkD 5 ?_
   repeat(refine A1 ⟨?_⟩;intros)
   refine mkD0 ?_
   refine MkN ?_
   repeat(first|(refine AS ⟨?_⟩;intros)|(refine O1 ⟨?_⟩;intros))
   refine WdM [] _ (fun _=>[]) ?_
   refine MkD 24 ?_
   repeat(refine A1 ⟨?_⟩;intros)
   refine Wdo (ov_sl3 (cs:=stxt st) r.length rfl rfl rfl e6 e6 (stxt_len st) (by omega)) ?_
   rw [e3]
   refine Wdo (ov_move rfl) ?_
   refine Wdo (ov_bs1 (s:=str t.rtxt) (by repeat(first|exact Parts.nil|(apply Parts.cons;exact Eq.refl (lit _);infer_instance)))) ?_
   refine Wdo (ov_appX rfl rfl (stxt_len r) (by omega) (by decide)) ?_
   repeat(refine A1 ⟨?_⟩;intros)
   refine Wdo (ov_sl3 (cs:=stop st) r.length rfl rfl rfl e6 e6 (stop_len st) (by omega)) ?_
   rw [hO]
   refine Wdo (ov_move rfl) ?_
   refine Wdo (ov_bs1 (s:=lit (.int .i64 (k:Nat))) (by repeat(first|exact Parts.nil|(apply Parts.cons;exact Eq.refl (lit _);infer_instance)))) ?_
   refine Wdo (ov_appX rfl rfl (stop_len r) (by omega) (by decide)) ?_
   repeat(refine A1 ⟨?_⟩;intros)
   refine Wdo (ov_sl3 (cs:=sdep st) r.length rfl rfl rfl e6 e6 (sdep_len st) (by omega)) ?_
   rw [e4]
   refine Wdo (ov_move rfl) ?_
   refine Wdo (ov_bs1 (s:=lit (.int .i64 (t.dep:Nat))) (by repeat(first|exact Parts.nil|(apply Parts.cons;exact Eq.refl (lit _);infer_instance)))) ?_
   refine Wdo (ov_appX rfl rfl (sdep_len r) (by omega) (by decide)) ?_
   repeat(refine A1 ⟨?_⟩;intros)
   refine mkD0 ?_
   refine MkN ?_
   repeat(refine A1 ⟨?_⟩;intros)
   exact hgo' _ _ (LeF.cons (Le.refl _) (LeF.cons (Le.refl _) (LeF.cons (Le.of_eq (by rw [stxt_cons];rfl)) (LeF.cons (Le.of_eq (by rw [stop_cons];rfl)) (LeF.cons (Le.of_eq (by rw [sdep_cons];rfl)) lfA))))) (List.sublist_append_left _ _)
 ·have hke:k=ns.length:=by omega
  subst hke
  rw [List.drop_length,show stk [] ns.length st=some st from rfl]at hstk
  rw [←hstk]at hspec
  simp only at hspec
  obtain⟨hz,hsp⟩:=hspec
  have hall:=hSk.all
  clear hK hstk
  by_cases h1:st.length=1
  ·obtain⟨⟨t,j⟩,rfl⟩:=List.length_eq_one_iff.1 h1
   obtain⟨ht,hr⟩:=hsp t j [] rfl
   obtain⟨rfl,hsz⟩:=hr rfl
   rw [decide_eq_true h1]at hz
   have hd:=t.dep_le
   clear hsp hr hall
   repeat(refine A1 ⟨?_⟩;intros)
   refine Wog (ov_idxS (cs':=[lit (.int .i64 (t.dep:Nat))]) (i:=0) rfl rfl (by omega) (by omega) rfl (by simp [sdep])) ?_
   repeat(refine A1 ⟨?_⟩;intros)
   refine Wo (ov_idxS (cs':=[str t.rtxt]) (i:=0) rfl rfl (by omega) (by omega) rfl (by simp [stxt])) ?_
   repeat(refine A1 ⟨?_⟩;intros)
   exact endHR _ _ (end1 (RV.tmp rfl) (Le.refl _)) (List.Sublist.refl _) (.inr ⟨t,hz,ht,hsz,rfl,by rw [show stGood [(t,ns.length-1)]=(t.good&&true)from rfl,Bool.and_true]⟩)
  ·rw [decide_eq_false h1]at hz
   clear hsp hall
   repeat(refine A1 ⟨?_⟩;intros)
   exact endHR _ _ (end1 (RV.tmp rfl) (Le.refl _)) (List.Sublist.refl _) (.inl ⟨hz,rfl,rfl⟩)
def otx (ns:List Nd):Option (List UInt8):=match stk ns 0 []with
 |some [(t,_)]=>if t.good=true then some t.txt else none
 |_=>none
theorem otx_spec (ns:List Nd):(okL ns=false∧otx ns=none)∨∃t:Ex,okL ns=true∧t.At ns (ns.length-1)∧t.size=ns.length∧otx ns=if t.good=true then some t.txt else none:=by
 have h:=stk_okL ns
 unfold otx
 cases hst:stk ns 0 []with
 |none=>rw [hst]at h;exact .inl ⟨h,rfl⟩
 |some st =>
  rw [hst]at h
  simp only at h
  obtain⟨h1,h2⟩:=h
  match st,h1,h2 with
  | [],h1,_=>exact .inl ⟨by rw [h1];rfl,rfl⟩
  | [(t,j)],h1,h2 =>
   obtain⟨a,b⟩:=h2 t j [] rfl
   obtain⟨rfl,c⟩:=b rfl
   exact .inr ⟨t,by rw [h1];rfl,a,c,rfl⟩
  |_::_::r,h1,_=>exact .inl ⟨by rw [h1];simp,rfl⟩
theorem Ex.txt_ne:∀{t:Ex}{ns:List Nd}{i:Nat},t.At ns i→t.good=true→t.txt≠[]
 | .leaf n,ns,i,hat,h=>by
  obtain⟨_,h1,h4⟩:=hat
  unfold Ex.txt
  unfold Ex.good at h
  by_cases k1:n.k=1
  ·rw [if_pos k1]at h⊢
   intro e
   rw [e]at h
   revert h
   decide
  rw [if_neg k1]
  by_cases k2:n.k=2
  ·rw [if_pos k2];decide
  rw [if_neg k2]
  by_cases k3:n.k=3
  ·rw [if_pos k3];decide
  rw [if_neg k3]
  simp
 | .un n x,ns,i,hat,h=>by
  unfold Ex.txt
  simp
 | .bi n l r,ns,i,hat,h=>by
  unfold Ex.txt
  have:=sgn_len n.op
  intro e
  have h2:=congrArg List.length e
  simp only [List.length_append,List.length_nil]at h2
  omega
theorem Ex.txt_len {L:Nat}(hL:L≤20){ns:List Nd}(hok:∀n∈ns,n.ok L):∀{t:Ex}{i:Nat},t.At ns i→t.txt.length≤2000*t.size
 | .leaf n,i,hat=>by
  have hm:=hok n (List.mem_of_getElem? hat.1)
  have h1:=ptxt_len hm.a hm.b
  have h2:=ptxt_len hm.c hm.e
  have h3:=hm.nm
  simp only [Ex.txt,Ex.size]
  split
  ·omega
  split
  ·simp
  split
  ·simp
  ·unfold ptxt2
   simp only [List.length_append,List.length_cons,List.length_nil];omega
 | .un n x,i,hat=>by
  obtain⟨_,_,j,_,hx⟩:=hat
  have h1:=Ex.txt_len hL hok hx
  have h2:=par_len (decide (rk x.top<3)) x.txt
  simp only [Ex.txt,Ex.size,List.length_append,List.length_cons,List.length_nil]
  omega
 | .bi n l r,i,hat=>by
  obtain⟨_,_,_,j,k,_,_,hl,hr⟩:=hat
  have h1:=Ex.txt_len hL hok hl
  have h2:=Ex.txt_len hL hok hr
  have h3:=par_len (decide (rk l.top<rk n)) l.txt
  have h4:=par_len (decide (rk r.top<rk n+1)) r.txt
  have h5:=sgn_len n.op
  simp only [Ex.txt,Ex.size,List.length_append]
  omega
def pans (g:Nat):Option (List UInt8)→SV
 |some t=>Ab.tup [str t,lit .nilIface]
 |none=>Ab.tup [str [],lit (sent g)]
def rans:Option (List UInt8)→SV
 |some t=>Ab.tup [str t,lit (.int .i64 0)]
 |none=>Ab.tup [str [],lit (.int .i64 1)]
theorem txt_len {L:Nat}(hL:L≤20){ns:List Nd}(hok:∀n∈ns,n.ok L) (hns:ns.length≤30){t:Ex}{i:Nat}(hat:t.At ns i) (hs:t.size=ns.length):t.rtxt.length≤65536:=by
 have:=Ex.rtxt_len hL hok hat
 omega
theorem writeExpr_pu [Sent 0] (ns:List Nd){L:Nat}(hok:∀n∈ns,n.ok L) (hL:L≤20) (hns:ns.length≤30):Pu Tryz.prog 45 [sl (ns.map ndx).flatten ns.length] (pans 0 (otx ns)):=by
 rcases otx_spec ns with⟨h1,h2⟩|⟨t,h1,h2,h3,h4⟩
 ·rw [h2]
  show Pu _ _ _ (Ab.tup [str [],lit (sent 0)])
  have c:=fun b=>write_pu (b:=b) (T:=22) (cs:=[sl (ns.map ndx).flatten ns.length]) (good:=false) (t:=[]) (fun h=>by cases h) (by simp) (fun w=>(wexpr1_f (b:=b) hok (by omega) (by omega) (wtr_new w) h1).mono (fun _ _ h=>h.elim) fun pv _ h=>⟨rfl,h⟩)
  refine Pu.intro Tryz.func45 rfl (by kernel_rfl) fun C=>?_
  repeat(refine A1 ⟨?_⟩;intros)
  refine WfT (c _) ?_
  rintro _ H' rfl
  repeat(refine A1 ⟨?_⟩;intros)
  ((first|refine endR ?_|refine endN ?_);exact end2 (RV.tmp rfl) (RV.tmp rfl) (Le.refl _))
 ·have hl:=txt_len hL hok hns h2 h3
  rw [h4]
  cases hg:t.good with
  |true =>
   rw [Ex.rtxt_good hg ns _ h2]at hl
   rw [if_pos rfl]
   show Pu _ _ _ (Ab.tup [str t.txt,lit .nilIface])
   have c:=fun b=>write_pu (b:=b) (T:=22) (cs:=[sl (ns.map ndx).flatten ns.length]) (good:=true) (t:=t.txt) (fun _=>Ex.txt_ne h2 hg) hl
    (fun w=>(wexpr1_t (b:=b) hok (by omega) (by omega) (wtr_new w) h1 h2 h3 (by simp;omega)).mono (fun _ _ h=>⟨rfl,h.2.1,h.2.2⟩) fun pv _ h=>by rw [hg]at h;exact absurd h.1 (by decide))
   refine Pu.intro Tryz.func45 rfl (by kernel_rfl) fun C=>?_
   repeat(refine A1 ⟨?_⟩;intros)
   refine WfT (c _) ?_
   rintro _ H' rfl
   repeat(refine A1 ⟨?_⟩;intros)
   ((first|refine endR ?_|refine endN ?_);exact end2 (RV.tmp rfl) (RV.tmp rfl) (Le.refl _))
  |false =>
   rw [if_neg (by decide)]
   show Pu _ _ _ (Ab.tup [str [],lit (sent 0)])
   have c:=fun b=>write_pu (b:=b) (T:=22) (cs:=[sl (ns.map ndx).flatten ns.length]) (good:=false) (t:=[]) (fun h=>by cases h) (by simp)
    (fun w=>(wexpr1_t (b:=b) hok (by omega) (by omega) (wtr_new w) h1 h2 h3 (by simp;exact Nat.le_trans (Ex.txt_len hL hok h2) (by omega))).mono (fun _ _ h=>by rw [hg]at h;exact absurd h.1 (by decide)) fun pv _ h=>⟨rfl,h.2⟩)
   refine Pu.intro Tryz.func45 rfl (by kernel_rfl) fun C=>?_
   repeat(refine A1 ⟨?_⟩;intros)
   refine WfT (c _) ?_
   rintro _ H' rfl
   repeat(refine A1 ⟨?_⟩;intros)
   ((first|refine endR ?_|refine endN ?_);exact end2 (RV.tmp rfl) (RV.tmp rfl) (Le.refl _))
theorem pexpr_pu [Sent 0] (ns:List Nd){L:Nat}(hok:∀n∈ns,n.ok L) (hL:L≤20) (hns:ns.length≤30):Pu Tryz.prog 17 [sl (ns.map ndx).flatten ns.length] (pans 0 (otx ns)):=by
 have c:=writeExpr_pu ns hok hL hns
 cases h:otx ns with
 |some t =>
  rw [h]at c
  unfold pans at c⊢
  refine Pu.intro Tryz.func17 rfl (by kernel_rfl) fun C=>?_
  repeat(first|(refine A1 ⟨?_⟩;intros)|refine W4 c ⟨?_⟩)
  ((first|refine endR ?_|refine endN ?_);exact end2 (RV.tmp rfl) (RV.tmp rfl) (Le.refl _))
 |none =>
  rw [h]at c
  unfold pans at c⊢
  refine Pu.intro Tryz.func17 rfl (by kernel_rfl) fun C=>?_
  repeat(first|(refine A1 ⟨?_⟩;intros)|refine W4 c ⟨?_⟩)
  ((first|refine endR ?_|refine endN ?_);exact end2 (RV.tmp rfl) (RV.tmp rfl) (Le.refl _))
theorem rExpr_pu (ns:List Nd){L:Nat}(hok:∀n∈ns,n.ok L) (hL:L≤20) (hns:ns.length≤30):Pu Tryz.prog 12 [sl (ns.map ndx).flatten ns.length] (rans (otx ns)):=by
 rcases otx_spec ns with⟨h1,h2⟩|⟨t,h1,h2,h3,h4⟩
 ·rw [h2]
  show Pu _ _ _ (Ab.tup [str [],lit (.int .i64 1)])
  have c:=fun w=>(rexpr_pu w ns hok hL (by omega) false).mono (R':=fun r H=>r=str []∧H=[(w,wT,wC true false)]) (fun s H h=>by
   rcases h with⟨_,h⟩|⟨t,h,_⟩
   ·exact h
   ·rw [h1]at h;cases h) (fun _ _ h=>h)
  have d:=fun w=>result_pu w [] (by simp) true
  refine Pu.intro Tryz.func12 rfl (by kernel_rfl) fun C=>?_
  repeat(refine A1 ⟨?_⟩;intros)
  refine WfT (c _) ?_
  rintro _ H' ⟨rfl,rfl⟩
  repeat(refine A1 ⟨?_⟩;intros)
  refine WfT (d _) ?_
  rintro _ H' rfl
  repeat(refine A1 ⟨?_⟩;intros)
  ((first|refine endR ?_|refine endN ?_);exact end2 (RV.tmp rfl) (RV.tmp rfl) (Le.refl _))
 ·have hl:=txt_len hL hok hns h2 h3
  have c:=fun w=>(rexpr_pu w ns hok hL (by omega) false).mono (R':=fun r H=>r=str t.rtxt∧H=[(w,wT,wC (!t.good) false)]) (fun s H h=>by
   rcases h with⟨h,_⟩|⟨t',_,h5,_,h6,h7⟩
   ·rw [h1]at h;cases h
   ·obtain rfl:=Ex.At.uniq h2 h5
    exact⟨h6,by rw [h7,Bool.false_or]⟩) (fun _ _ h=>h)
  have d:=fun w=>result_pu w t.rtxt hl (!t.good)
  rw [h4]
  cases hg:t.good with
  |true =>
   rw [hg]at c d
   rw [if_pos rfl]
   rw [Ex.rtxt_good hg ns _ h2]at c d
   show Pu _ _ _ (Ab.tup [str t.txt,lit (.int .i64 0)])
   refine Pu.intro Tryz.func12 rfl (by kernel_rfl) fun C=>?_
   repeat(refine A1 ⟨?_⟩;intros)
   refine WfT (c _) ?_
   rintro _ H' ⟨rfl,rfl⟩
   repeat(refine A1 ⟨?_⟩;intros)
   refine WfT (d _) ?_
   rintro _ H' rfl
   repeat(refine A1 ⟨?_⟩;intros)
   ((first|refine endR ?_|refine endN ?_);exact end2 (RV.tmp rfl) (RV.tmp rfl) (Le.refl _))
  |false =>
   rw [hg]at c d
   rw [if_neg (by decide)]
   show Pu _ _ _ (Ab.tup [str [],lit (.int .i64 1)])
   refine Pu.intro Tryz.func12 rfl (by kernel_rfl) fun C=>?_
   repeat(refine A1 ⟨?_⟩;intros)
   refine WfT (c _) ?_
   rintro _ H' ⟨rfl,rfl⟩
   repeat(refine A1 ⟨?_⟩;intros)
   refine WfT (d _) ?_
   rintro _ H' rfl
   repeat(refine A1 ⟨?_⟩;intros)
   ((first|refine endR ?_|refine endN ?_);exact end2 (RV.tmp rfl) (RV.tmp rfl) (Le.refl _))
end Go.Ab
