/- Texts laid one behind the other: Rng, RngB, Drw, ArrA, Edg, PLn, WdS. -/
import Derived.Test.YtgiifnbebppbgaaGreatDoorB03
import Derived.RangeFuncLeaves
import Derived.RangeFuncRecord
import Derived.TacticsIn
import Derived.OrdersIn
import Derived.LoopNIn
import Derived.Test.YtgiifnbebppbgaaGreatDoorB11
import Derived.Test.YtgiifnbebppbgaaGreatDoorB15
import Derived.Test.YtgiifnbebppbgaaGreatDoorB18
import Derived.Test.YtgiifnbebppbgaaGreatDoorB13
import Derived.Test.YtgiifnbebppbgaaGreatDoorB22
import Derived.Test.YtgiifnbebppbgaaGreatDoorB17
import Derived.Test.YtgiifnbebppbgaaGreatDoorLate
set_option linter.unusedSectionVars false
set_option linter.unusedVariables false
set_option linter.unusedSimpArgs false
namespace Go.Ab
open Go.Proofs
variable [Base]
abbrev fe (ro:Option Nat):Fence:={fn:=fun _=>True,depth:=none,alive:=false,round:=ro}
theorem callsIn_fe {ro:Option Nat}{n:Nat}{P:Program}{f:FuncId}{args:Array Value}{w:World}{R:Ending→World→Prop}(h:Calls P f args w R):CallsIn (fe ro) n P f args w R:=callsIn_wide.2 h
theorem rowsIn_fe {ro:Option Nat}{n:Nat}{P:Program}{row:String}{args:Array Value}{w:World}{R:Value→World→Prop}(h:Rows P row args w R):RowsIn (fe ro) n P row args w R :=
 fun c cs _=>let⟨v,w',r,s⟩:=h c cs;⟨v,w',r,stepsIn_wide.2 s⟩
def isDefer:Op→Bool
 | .defer _=>true
 |_=>false
theorem not_defer {o:Oper}(h:(!isDefer o.op)=true):∀c,o.op≠ .defer c:=fun c e=>by rw [e]at h;cases h
theorem up1 {ro:Option Nat}{d:Nat}{P:Program}{o:Oper}{a:Act}{w:World}{K:Act→World→Prop}{Q:Exit→Act→World→Prop}(hd:(!isDefer o.op)=true) (h:o.wp P a w K Q):o.wpIn (fe ro) d P a w K Q:=by
 refine⟨fun _ _=>trivial,?_⟩
 rw [Oper.semAt_eq _ _ _ (not_defer hd)]
 unfold Oper.wp at h
 generalize(execOp a.eval o).run P w=r at *
 cases r with
 |ok x w' =>
  cases x with
  |value v=>exact h
  |skip=>exact h
  |defer d=>exact h
  |enter f args=>exact⟨(fun e=>by cases e),callsIn_fe h⟩
  |row r args=>exact⟨(fun e=>by cases e),rowsIn_fe h⟩
  |_=>exact h.elim
 |halt x w' =>
  cases x with
  |panic v=>exact h
  |_=>exact h.elim
theorem upL {ro:Option Nat}{d:Nat}{P:Program}{ops:Array Oper}{Q:Exit→Act→World→Prop}(hq:∀a w,¬Q .outgrown a w):∀(l:List Oper) (a:Act) (w:World),(l.all fun o => !isDefer o.op)=true→wpList P ops Q l a w→wpListIn (fe ro) d P ops Q l a w
 | [],a,w,_,h=>h
 |o::l,a,w,hd,h=>by
  rw [List.all_cons,Bool.and_eq_true]at hd
  unfold wpList at h
  unfold wpListIn
  split
  ·rename_i hw
   rw [if_pos hw]at h
   rcases h with h|⟨_,a0,w0,h0⟩
   ·exact Oper.wpIn_mono (fun a w=>upL hq l a w hd.2) (up1 hd.1 h)
   ·exact(hq _ _ h0).elim
  ·rename_i hw
   rw [if_neg hw]at h
   exact⟨fun _ _=>trivial,upL hq l _ w hd.2 h⟩
section
variable {P:Program}{C:Ctx}{n:Nat}{Q:Exit→Fr→LH→Prop}{F:Fr}{H:LH}{ro:Option Nat}
attribute [local semireducible] WP WPL thenQ blkQ
def WPX (ro:Option Nat) (P:Program) (C:Ctx) (n:Nat) (c:Code) (Q:Exit→Fr→LH→Prop) (F:Fr) (H:LH):Prop:=∀a w,St C n F H a w→∀d,c.wpIn (fe ro) d P (liftQ C n Q) a w
theorem WPX.le {c:Code}{F':Fr}(k:LeF F F') (h:WPX ro P C n c Q F' H):WPX ro P C n c Q F H:=fun a w hs=>h a w (hs.le k)
theorem WPX.seq {x y:Code}(h:WPX ro P C n x (thenQ (WPX ro P C n y Q) Q) F H):WPX ro P C n (.seq x y) Q F H:=by
 intro a w hs d
 refine wpIn_seq (wpIn_mono (h a w hs d) ?_)
 rintro e a' w' (⟨F',H',hs',hq⟩|⟨ch,rfl,hp⟩)
 ·cases e with
  |normal=>exact hq a' w' hs' d
  |_=>exact .inl ⟨F',H',hs',hq⟩
 ·exact .inr ⟨ch,rfl,hp⟩
theorem WPX.block {id:Nat}{c:Code}(h:WPX ro P C n c (blkQ id Q) F H):WPX ro P C n (.block id c) Q F H:=by
 intro a w hs d
 refine wpIn_block (wpIn_mono (h a w hs d) ?_)
 rintro e a' w' (⟨F',H',hs',hq⟩|⟨ch,rfl,hp⟩)
 ·cases e with
  |exit id' =>
   simp only [blkQ]at hq
   simp only [Exit.inBlock]
   cases hb:Nat.beq id' id with
   |true=>rw [hb]at hq;rw [if_pos (Nat.eq_of_beq_eq_true hb)];exact .inl ⟨F',H',hs',hq⟩
   |false=>rw [hb]at hq;rw [if_neg (fun h=>by rw [h,Nat.beq_refl]at hb;cases hb)];exact .inl ⟨F',H',hs',hq⟩
  |_=>exact .inl ⟨F',H',hs',hq⟩
 ·exact .inr ⟨ch,rfl,hp⟩
theorem WPX.skip (h:Q .normal F H):WPX ro P C n .skip Q F H:=fun _ _ hs _=>wpIn_skip (.mk hs h)
theorem WPX.exit {id:Nat}(h:Q (.exit id) F H):WPX ro P C n (.exit id) Q F H:=fun _ _ hs _=>wpIn_exit (.mk hs h)
theorem WPX.ret (h:Q .ret F H):WPX ro P C n .ret Q F H:=fun _ _ hs _=>wpIn_ret (.mk hs h)
theorem WPX.cond {c:Operand}{x y:Code}{t:Bool}(hc:ev F c=lit (.bool t)) (h1:t=true→WPX ro P C n x Q F H) (h2:t=false→WPX ro P C n y Q F H):WPX ro P C n (.cond c x y) Q F H:=by
 intro a w hs d
 obtain⟨m,_,hp⟩:=hs.evp
 have hv:=hp c
 rw [hc,lit_p]at hv
 exact wpIn_cond_split hv (fun h=>h1 h a w hs d) (fun h=>h2 h a w hs d)
theorem WPX.reg {id:Nat}{l:List Oper}(h:WPL P C n l.toArray l (fun F H=>Q .normal F H) F H) (hd:(l.all fun o => !isDefer o.op)=true:=by exact rfl):WPX ro P C n (.region id l.toArray false) Q F H:=by
 intro a w hs d
 have h1:=h a w hs (fun e a w=>e≠ .outgrown∧liftQ C n Q e a w) ⟨fun _ _ _ _ hs hq=>⟨(by intro e;cases e), .mk hs hq⟩,fun ch _ _ hp=>⟨(by intro e;cases e), .inr ⟨ch,rfl,hp⟩⟩⟩
 exact wpIn_mono (wpIn_region_lit (upL (fun a w h=>h.1 rfl) l a w hd h1)) fun e a w h=>h.2
theorem MemIn.putObj {m:Mem}{w:World}{l:Nat}{o:Obj}(h:MemIn m w) (hl:m l=none):MemIn m (w.putObj l o) :=
 ⟨fun b x hb=>by
  have hne:b≠l:=fun e=>by rw [e,hl]at hb;cases hb
  rw [World.putObj_heap_other hne]
  exact h b x hb,h.base⟩
theorem HOk.putObj {m:Mem}{w:World}{l:Nat}{o:Obj}(h:HOk m w H) (hl:∀e∈H,e.1≠l):HOk m (w.putObj l o) H :=
 ⟨h.1,fun e he=>by
  obtain⟨h1,arr,h2,h3⟩:=h.2 e he
  exact⟨h1,arr,by rw [World.putObj_heap_other (hl e he)];exact h2,h3⟩⟩
theorem HOk.ne_loop {m:Mem}{w:World}{l:Nat}{r:Loop}(h:HOk m w H) (hl:w.heap[l]? = some (.loop r)):∀e∈H,e.1≠l:=fun e he hel=>by
 obtain⟨_,arr,h2,_⟩:=h.2 e he
 rw [hel,hl]at h2
 cases h2
theorem lt_of_at {w:World}{l:Nat}{o:Obj}(h:w.heap[l]? = some o):l<w.heap.size:=(Array.getElem?_eq_some_iff.1 h).1
theorem Rel.putL {m:Mem}{w:World}{l:Nat}{o:Obj}:Rel [l] m w m (w.putObj l o) :=
 ⟨Mem.le_refl m,fun _ _ _=>rfl,rfl,rfl,rfl,by rw [World.putObj_size];exact Nat.le_refl _,fun b _ hn=>World.putObj_heap_other (fun e=>hn (by rw [e];exact List.mem_singleton.2 rfl))⟩
theorem Rel.around {ks:List Nat}{m m':Mem}{w w':World}{l:Nat}{o o1:Obj}(h:Rel ks m (w.putObj l o1) m' w') (hl:w.heap[l]? = some o):Rel ks m w m' (w'.putObj l o):=by
 have hs:w.heap.size≤w'.heap.size:=by have:=h.size;rwa [World.putObj_size]at this
 refine⟨h.le,fun b hb hn=>h.old b (by rwa [World.putObj_size]) hn,h.os,h.tape,h.output,by rw [World.putObj_size];exact hs,fun b hb hn=>?_⟩
 by_cases e:b=l
 ·subst e
  rw [World.putObj_heap_same (by omega),hl]
 ·rw [World.putObj_heap_other e]
  have:=h.block b (by rwa [World.putObj_size]) hn
  rwa [World.putObj_heap_other e]at this
theorem Rel.after {ks:List Nat}{m m':Mem}{w w':World}{l:Nat}{o o1:Obj}(h:Rel ks m (w.putObj l o1) m' w'):Rel (l::ks) m w m' (w'.putObj l o):=by
 have hs:w.heap.size≤w'.heap.size:=by have:=h.size;rwa [World.putObj_size]at this
 refine⟨h.le,fun b hb hn=>h.old b (by rwa [World.putObj_size]) (fun x=>hn (List.mem_cons_of_mem _ x)),h.os,h.tape,h.output,by rw [World.putObj_size];exact hs,fun b hb hn=>?_⟩
 have e:b≠l:=fun e=>hn (by rw [e];exact List.mem_cons_self)
 rw [World.putObj_heap_other e]
 have:=h.block b (by rwa [World.putObj_size]) (fun x=>hn (List.mem_cons_of_mem _ x))
 rwa [World.putObj_heap_other e]at this
theorem St.putLoop {a:Act}{w1:World}{l:Nat}{r:Loop}{o:Obj}(h:St C n F H a w1) (hm:C.m l=none) (hl:C.w.heap[l]? = some (.loop r)) (hk:l∉C.ks):St {C with w:=C.w.putObj l o} n F H a (w1.putObj l o):=by
 obtain⟨hdef,hn,m,h1,h2,h3,h4,h5⟩:=h
 have hlt:=lt_of_at hl
 have hl1:w1.heap[l]? = some (.loop r):=(h3.block l hlt hk).trans hl
 have hml:m l=none:=(h3.old l hlt hk).trans hm
 refine⟨hdef,hn,m,h1.putObj hml,h2.putObj (h2.ne_loop hl1),⟨h3.le,fun b hb hn=>h3.old b (by rwa [World.putObj_size]at hb) hn,h3.os,h3.tape,h3.output,by rw [World.putObj_size,World.putObj_size];exact h3.size,fun b hb hn=>?_⟩,fun e he=>by rw [World.putObj_size];exact h4 e he,h5⟩
 by_cases e:b=l
 ·subst e
  rw [World.putObj_heap_same (lt_of_at hl1),World.putObj_heap_same hlt]
 ·rw [World.putObj_heap_other e,World.putObj_heap_other e]
  exact h3.block b (by rwa [World.putObj_size]at hb) hn
def updL (F:Fr):List (Nat×SV)→Fr
 | []=>F
 |(d,s)::r=>updL (upd F d s) r
theorem updL_ok {m:Mem}:∀(l:List (Nat×SV)) (ps:List (Tmp×Value)) (F:Fr) (tmps:Array Value),l.map (·.1)=ps.map (·.1)→ArgsOk m (l.map (·.2)) (ps.map (·.2))→(∀e∈l,e.1<tmps.size)→(∀t,(F t).p m (tmps.getD t undef))→
  ∀t,(updL F l t).p m ((ps.foldl (fun t (p,v)=>t.setIfInBounds p v) tmps).getD t undef)
 | [],[],F,tmps,_,_,_,h=>h
 |(d,s)::l,(p,v)::ps,F,tmps,he,ha,hl,h=>by
  simp only [List.map_cons,List.cons.injEq]at he
  obtain⟨rfl,he⟩:=he
  refine updL_ok l ps (upd F d s) (tmps.setIfInBounds d v) he ha.2 (fun e h=>by rw [Array.size_setIfInBounds];exact hl e (List.mem_cons_of_mem _ h)) fun t=>?_
  have hd:=hl (d,s) List.mem_cons_self
  by_cases ht:t=d
  ·subst ht
   rw [upd_eq]
   simpa [Array.getD,hd] using ha.1
  ·rw [upd_ne ht]
   have:=h t
   simpa [Array.getD_eq_getD_getElem?,Array.getElem?_setIfInBounds_ne (Ne.symm ht)] using this
 | [],_::_,_,_,he,_,_,_=>by cases he
 |_::_,[],_,_,he,_,_,_=>by cases he
end
def rndQ (G:LH) (Gx:LH→Prop) (T:Prop):Exit→Fr→LH→Prop
 | .normal,_,H=>G.Sublist H∧T
 | .ret,_,H=>∃H',H'.Sublist H∧Gx H'
 |_,_,_=>False
def onlyN (K:Fr→LH→Prop):Exit→Fr→LH→Prop
 | .normal,F,H=>K F H
 |_,_,_=>False
def YOk (P:Program) (l:Nat) (rec:Loop) (G:LH) (ys:List SV) (Gx:LH→Prop) (T:Prop) (m0:Mem):Prop :=
 ∀(m:Mem) (w:World) (vs:List Value),MemIn m w→HOk m w G→m0.le m→m l=none→l∉keys G→w.heap[l]? = some (.loop rec)→ArgsOk m ys vs→
  ∃fn tmps assign body,(Instr.yield l vs.toArray).run P w = .ok (.round l fn tmps assign body) w∧∀d,RoundIn (fe none) d P l fn tmps assign body w fun e w' =>
   (e = .returned (.bool true)∧T∧w'.heap[l]? = some (.loop rec)∧∃m',MemIn m' w'∧HOk m' w' G∧Rel (keys G) m w m' w')∨
   (e = .returned (.bool false)∧w'.heap[l]? = some (.loop {rec with state := .done,pending:=some .ret})∧∃m' H',MemIn m' w'∧HOk m' w' H'∧Rel (l::keys G) m w m' w'∧m' l=none∧(∀e∈H',e.1∈keys G∨w.heap.size≤e.1)∧Gx H')
def ItOk (P:Program) (gf:FuncId) (caps:List SV) (ys:Nat→List SV) (N:Nat):Prop :=
  bodied P gf=true∧∀(l:Nat) (rec:Loop) (G:LH) (Gx:LH→Prop) (T:Nat→Prop) (m:Mem) (w:World) (lb:List Value),rec.state = .ready→rec.pending=none→MemIn m w→HOk m w G→m l=none→l∉keys G→w.heap[l]? = some (.loop rec)→ArgsOk m caps lb→
    (∀i,i<N→YOk P l rec G (ys i) Gx (T i) m)→Calls P gf (Value.func (.yield l) #[] #[]::lb).toArray w fun e w'=>(∃v,e = .returned v)∧
      (((∀i,i<N→T i)∧w'.heap[l]? = some (.loop rec)∧∃m',MemIn m' w'∧HOk m' w' G∧Rel (keys G) m w m' w')∨
       (w'.heap[l]? = some (.loop {rec with state := .done,pending:=some .ret})∧∃m' H',MemIn m' w'∧HOk m' w' H'∧Rel (l::keys G) m w m' w'∧m' l=none∧(∀e∈H',e.1∈keys G∨w.heap.size≤e.1)∧Gx H'))
section
variable {P:Program}{C:Ctx}{n:Nat}{Q:Exit→Fr→LH→Prop}{F:Fr}{H:LH}{Post:Exit→Act→World→Prop}
attribute [local semireducible] WP WPL thenQ blkQ
theorem ArgsOk.len {m:Mem}:∀{ss:List SV}{vs:List Value},ArgsOk m ss vs→ss.length=vs.length
 | [],[],_=>rfl
 |_::_,_::_,h=>by rw [List.length_cons,List.length_cons,ArgsOk.len h.2]
 | [],_::_,h=>h.elim
 |_::_,[],h=>h.elim
theorem zip_fst {α β:Type}:∀(a:List α) (b:List β),a.length=b.length→(a.zip b).map (·.1)=a
 | [],[],_=>rfl
 |x::a,y::b,h=>by simp [zip_fst a b (by simpa using h)]
 | [],_::_,h=>by cases h
 |_::_,[],h=>by cases h
theorem zip_snd {α β:Type}:∀(a:List α) (b:List β),a.length=b.length→(a.zip b).map (·.2)=b
 | [],[],_=>rfl
 |x::a,y::b,h=>by simp [zip_snd a b (by simpa using h)]
 | [],_::_,h=>by cases h
 |_::_,[],h=>by cases h
theorem YOk.of {l:Nat}{rec:Loop}{G:LH}{ys:List SV}{Gx:LH→Prop}{T:Prop}{m0:Mem}{ps:List Nat}(hs:rec.state = .ready) (hpd:rec.pending=none) (hps:rec.params=ps.toArray) (hpl:ps.length=ys.length) (hpn:∀p∈ps,p<n) (hn:n≤rec.tmps.size)
  (hF:∀t,(F t).p m0 (rec.tmps.getD t undef))
  (h:∀C:Ctx,C.ks=keys G→C.dfs=[]→(∀pv H,¬C.pan pv H)→WPX (some l) P C n rec.assign (onlyN fun F' H'=>∀C2:Ctx,C2.ks=keys G→C2.dfs=[]→(∀pv H,¬C2.pan pv H)→WPX (some l) P C2 n rec.body (rndQ G Gx T) F' H') (updL F (ps.zip ys)) G) :
  YOk P l rec G ys Gx T m0:=by
 intro m w vs hm hH hle hml hlk hl hargs
 have hlen:=hargs.len
 have hlt:=lt_of_at hl
 have hpar:∀(X:Loop),X.params=ps.toArray→vs.toArray.size=X.params.size:=fun X hX=>by rw [hX];simp;omega
 refine⟨rec.fn,_,rec.assign,rec.body,run_yield hl (hpar rec hps),fun d=>roundIn_of_wpIn trivial ?_⟩
 have hst:St ⟨keys G,m,w,noX,[]⟩ n (updL F (ps.zip ys)) G {tmps:=(rec.params.zip vs.toArray).foldl (fun tmps (t,a)=>tmps.setIfInBounds t a) rec.tmps,defers:=[]} w:=by
  have hz:rec.params.zip vs.toArray=(ps.zip vs).toArray:=by rw [hps];simp
  have hsz:∀(l:List (Tmp×Value)) (t:Array Value),(l.foldl (fun tmps (x:Tmp×Value)=>tmps.setIfInBounds x.1 x.2) t).size=t.size:=fun l=>by
   induction l with
   |nil=>intro t;rfl
   |cons x l ih=>intro t;rw [List.foldl_cons,ih,Array.size_setIfInBounds]
  rw [hz]
  refine⟨rfl,by simp only [List.foldl_toArray'];rw [hsz];exact hn,m,hm,hH,Rel.refl _ _ _,fun e he => .inl (mem_keys he),fun t=>?_⟩
  have:=updL_ok (m:=m) (ps.zip ys) (ps.zip vs) F rec.tmps (by rw [zip_fst _ _ hpl,zip_fst _ _ (by omega)]) (by rw [zip_snd _ _ hpl,zip_snd _ _ (by omega)];exact hargs) (fun e he=>by
   have:=List.of_mem_zip (a:=e.1) (b:=e.2) he
   exact Nat.lt_of_lt_of_le (hpn _ this.1) hn) (fun t=>(F t).mono hle (hF t)) t
  simpa using this
 have h1:=h ⟨keys G,m,w,noX,[]⟩ rfl rfl (fun _ _ h=>h) _ _ hst d
 refine wpIn_mono h1 ?_
 rintro e a1 w1 (⟨F1,H1,hs1,hq1⟩|⟨ch,_,_,_,_,_,_,_,_,_,_,_,_,hx⟩)
 case inr=>exact hx.elim
 cases e with
 |normal =>
  have hl1:w1.heap[l]? = some (.loop rec):=by
   obtain⟨_,_,m1,_,_,h3,_⟩:=hs1
   exact(h3.block l hlt hlk).trans hl
  refine⟨_,run_beginRound hl1 hs,?_⟩
  have hs2:=hs1.putLoop (o := .loop {rec with state := .busy}) hml hl hlk
  refine wpIn_mono (hq1 _ rfl rfl (fun _ _ h=>h) _ _ hs2 d) ?_
  rintro e a3 w3 (⟨F3,H3,⟨_,_,m3,g1,g2,g3,g4,_⟩,hq3⟩|⟨ch,_,_,_,_,_,_,_,_,_,_,_,_,hx⟩)
  case inr=>exact hx.elim
  have hlt2:l<(w.putObj l (.loop {rec with state := .busy})).heap.size:=by rw [World.putObj_size];exact hlt
  have hm3:m3 l=none:=(g3.old l hlt2 hlk).trans hml
  have hl3:w3.heap[l]? = some (.loop {rec with state := .busy}):=(g3.block l hlt2 hlk).trans (World.putObj_heap_same hlt)
  have hne:=g2.ne_loop hl3
  cases e with
  |normal =>
   have e0:({{rec with state:=LoopState.busy}with state:=LoopState.ready,pending:=none}:Loop)=rec:=by
    cases rec;simp only at hs hpd;subst hs;subst hpd;rfl
   refine⟨_,_,run_endRound none hl3, .inl ⟨rfl,hq3.2,?_,m3,g1.putObj hm3,(g2.sub' hq3.1).putObj (fun e he=>hne e (hq3.1.subset he)),?_⟩⟩
   ·rw [World.putObj_heap_same (lt_of_at hl3)]
    exact congrArg (fun x=>some (Obj.loop x)) e0
   ·exact(show Obj.loop {{rec with state:=LoopState.busy}with state:=LoopState.ready,pending:=none} = .loop rec from congrArg _ e0)▸g3.around hl
  |ret =>
   obtain⟨H',hsub,hx⟩:=hq3
   refine⟨_,_,run_endRound (some .ret) hl3, .inr ⟨rfl,?_,m3,H',g1.putObj hm3,(g2.sub' hsub).putObj (fun e he=>hne e (hsub.subset he)),g3.after,hm3,fun e he=>?_,hx⟩⟩
   ·rw [World.putObj_heap_same (lt_of_at hl3)]
    rfl
   ·have:=g4 e (hsub.subset he)
    simp only [World.putObj_size]at this
    exact this
  |_=>exact hq3.elim
 |_=>exact hq1.elim
def WPE (P:Program) (C:Ctx) (n:Nat) (c:Code) (Post:Exit→Act→World→Prop) (F:Fr) (H:LH):Prop:=∀a w,St C n F H a w→c.wp P Post a w
theorem WPE.seq {x y:Code}(h:WP P C n x (thenQ (fun F H=>WPE P C n y Post F H) Q) F H) (k:∀e a w,e≠ .normal→liftQ C n Q e a w→Post e a w):WPE P C n (.seq x y) Post F H:=by
 intro a w hs
 unfold WP at h
 refine wp_seq (wp_mono (h a w hs) ?_)
 rintro e a' w' (⟨F',H',hs',hq⟩|⟨ch,rfl,hp⟩)
 ·cases e with
  |normal=>exact hq a' w' hs'
  |_=>exact k _ _ _ (by intro e;cases e) (.inl ⟨F',H',hs',hq⟩)
 ·exact k _ _ _ (by intro e;cases e) (.inr ⟨ch,rfl,hp⟩)
theorem WPE.ahead {x y:Code}(h:WPE P C n x (Exit.then (fun a w=>y.wp P Post a w) Post) F H):WPE P C n (.seq x y) Post F H:=fun a w hs=>wp_seq (h a w hs)
theorem WPE.fin {c:Code}(h:WP P C n c Q F H) (k:∀e a w,liftQ C n Q e a w→Post e a w):WPE P C n c Post F H:=by
 unfold WP at h
 exact fun a w hs=>wp_mono (h a w hs) k
structure RB (C C1:Ctx) (D:Nat):Prop where
 dfs:C1.dfs=⟨.collected D,#[]⟩::C.dfs
 pan:C1.pan=C.pan
 rel:Rel C.ks C.m C.w C1.m C1.w
 own:∀b∈C1.ks,b∈C.ks∨C.w.heap.size≤b
 mark:C1.w.heap[D]? = some (.deferred (some []))
 nd:D∉C1.ks
 mem:C1.m D=none
 ge:C.w.heap.size≤D
theorem HOk.frame {m m':Mem}{w w':World}{Rs G H':LH}{ks:List Nat}(h:HOk m w (Rs++G)) (h':HOk m' w' H') (r:Rel ks m w m' w') (hk:∀e∈Rs,e.1∉ks) (hn:∀e∈H',e.1∈keys G∨w.heap.size≤e.1):HOk m' w' (Rs++H'):=by
 refine⟨?_,fun e he=>?_⟩
 ·rw [List.map_append,List.nodup_append]
  have h0:=h.1
  rw [List.map_append,List.nodup_append]at h0
  refine⟨h0.1,h'.1,fun x hx y hy hxy=>?_⟩
  obtain⟨e1,he1,rfl⟩:=List.mem_map.1 hx
  obtain⟨e2,he2,rfl⟩:=List.mem_map.1 hy
  rcases hn e2 he2 with g|g
  ·exact h0.2.2 _ (List.mem_map.2 ⟨e1,he1,rfl⟩) _ g hxy
  ·have:=(h.2 e1 (List.mem_append_left _ he1)).2.lt
   omega
 ·rcases List.mem_append.1 he with g|g
  ·obtain⟨h1,hc⟩:=h.2 e (List.mem_append_left _ g)
   have hlt:=hc.lt
   obtain⟨arr,h2,h3⟩:=hc
   exact⟨(r.old _ hlt (hk e g)).trans h1,arr,(r.block _ hlt (hk e g)).trans h2,h3.mono r.le⟩
  ·exact h'.2 e g
theorem WPE.range {out gf:Nat}{g:Operand}{ps:List Nat}{assign body:Code}{caps:List SV}{ys:Nat→List SV}{N:Nat}{G Rs:LH}{Gx:LH→Prop}{T:Nat→Prop}(hg:ev F g=fnv gf [] caps) (hit:ItOk P gf caps ys N) (hp:H.Perm (Rs++G)) (hpl:∀i,i<N→ps.length=(ys i).length) (hpn:∀p∈ps,p<n)
  (hbody:∀(i:Nat) (l:Nat) (C:Ctx),i<N→C.ks=keys G→C.dfs=[]→(∀pv H,¬C.pan pv H)→WPX (some l) P C n assign (onlyN fun F' H'=>∀C2:Ctx,C2.ks=keys G→C2.dfs=[]→(∀pv H,¬C2.pan pv H)→WPX (some l) P C2 n body (rndQ G Gx (T i)) F' H') (updL F (ps.zip (ys i))) G)
  (k1:∀C1 D a w,(∀i,i<N→T i)→RB C C1 D→St C1 n F (Rs++G) a w→Post .normal a w) (k2:∀C1 D H' a w,RB C C1 D→Gx H'→St C1 n F (Rs++H') a w→Post .ret a w) :
  WPE P C n (.block out (.rangeFunc g ps.toArray assign body)) Post F H:=by
 intro a w hs
 refine wp_block ((wpIn_wide (n:=2)).1 (wpIn_rangeFunc fun fn _=>?_))
 obtain⟨hdef,hn,m,h1,h2,h3,h4,h5⟩:=hs
 have h2p:=h2.perm hp
 have hev:(ev F g).p m (a.eval g):=by
  cases g with
  |tmp t=>exact h5 t
  |const v=>unfold ev lit;rfl
  |global g=>unfold ev lit;rfl
  |func f=>unfold ev lit;rfl
 rw [hg]at hev
 unfold fnv at hev
 obtain⟨fa,ca,hev,hfa,hca⟩:=hev
 have hfa':fa = #[]:=by
  cases fa with
  |mk l=>cases l with
   |nil=>rfl
   |cons _ _=>exact hfa.elim
 subst hfa'
 obtain⟨rec,hrec⟩:∃rec:Loop,rec={state := .ready,pending:=none,fn,tmps:=a.tmps,params:=ps.toArray,assign,body,defers:=w.heap.size}:=⟨_,rfl⟩
 obtain⟨w1,hw1⟩:∃w1,(w.alloc (.deferred (some []))).alloc (.loop rec)=w1:=⟨_,rfl⟩
 have hsz1:w1.heap.size=w.heap.size+2:=by rw [←hw1,World.size_alloc,World.size_alloc]
 have hold:∀b,b<w.heap.size→w1.heap[b]? = w.heap[b]?:=fun b hb=>by
  rw [←hw1,heap_alloc_old _ _ b (by rw [World.size_alloc];omega),heap_alloc_old _ _ b hb]
 have hD1:w1.heap[w.heap.size]? = some (.deferred (some [])):=by
  rw [←hw1,heap_alloc_old _ _ _ (by rw [World.size_alloc];omega)]
  exact heap_alloc_new w _
 have hL1:w1.heap[w.heap.size+1]? = some (.loop rec):=by
  rw [←hw1]
  have:=heap_alloc_new (w.alloc (.deferred (some []))) (.loop rec)
  rwa [World.size_alloc]at this
 have hmlt:∀b o,m b=some o→b<w.heap.size:=fun b o hb=>lt_of_at (h1 b o hb)
 have hmD:m w.heap.size=none:=by
  cases hx:m w.heap.size with
  |none=>rfl
  |some o=>have:=hmlt _ _ hx;omega
 have hmL:m (w.heap.size+1)=none:=by
  cases hx:m (w.heap.size+1)with
  |none=>rfl
  |some o=>have:=hmlt _ _ hx;omega
 have hm1:MemIn m w1:=⟨fun b o hb=>by rw [hold b (hmlt b o hb)];exact h1 b o hb,h1.base⟩
 have hr1:Rel [] m w m w1:=⟨Mem.le_refl m,fun _ _ _=>rfl,by rw [←hw1];rfl,by rw [←hw1];rfl,by rw [←hw1];rfl,by omega,fun b hb _=>hold b hb⟩
 have hH1:HOk m w1 (Rs++G):=h2p.rel hr1 fun _ _=>by simp
 have hG1:HOk m w1 G:=hH1.sub' (List.sublist_append_right _ _)
 have hklt:∀e∈Rs++G,e.1<w.heap.size:=fun e he=>(h2p.2 e he).2.lt
 have hlk:w.heap.size+1∉keys G:=fun hk=>by
  obtain⟨e,he,hk⟩:=List.mem_map.1 hk
  have:=hklt e (List.mem_append_right _ he)
  omega
 refine⟨w.heap.size+1,[{target := .collected w.heap.size,args := #[]}],w1,{target := .fn (.func gf) ca,args := #[.func (.yield (w.heap.size+1)) #[] #[]]},w1,gf,(Value.func (.yield (w.heap.size+1)) #[] #[]::ca.toList).toArray,w1,?_,?_,fun _ _=>trivial,?_,(fun e=>by cases e),?_⟩
 ·rw [←hw1,hrec];exact run_enterLoop_outer _ _ _ _ _
 ·simp only [resolve,hev]
  simp [go_sem]
 ·simp only [invoke,run_callFunc hit.1]
  congr 2
  apply Array.ext';simp
 ·refine callsIn_fe (Calls.mono (hit.2 (w.heap.size+1) rec G Gx T m w1 ca.toList (by rw [hrec]) (by rw [hrec]) hm1 hG1 hmL hlk hL1 hca fun i hi=>?_) ?_)
  ·refine YOk.of (n:=n) (F:=F) (ps:=ps) (by rw [hrec]) (by rw [hrec]) (by rw [hrec]) (hpl i hi) hpn (by rw [hrec];exact hn) (by rw [hrec];exact h5) fun C e1 e2 e3=>?_
   have:=hbody i (w.heap.size+1) C hi e1 e2 e3
   rw [hrec]
   exact this
  ·have hRs:∀e∈Rs,e.1∉keys G:=fun e he hk=>by
    have:=h2p.1
    rw [List.map_append,List.nodup_append]at this
    exact this.2.2 _ (List.mem_map.2 ⟨e,he,rfl⟩) _ hk rfl
   have hRs':∀e∈Rs,e.1∉(w.heap.size+1)::keys G:=fun e he hk=>by
    rcases List.mem_cons.1 hk with hk|hk
    ·have:=hklt e (List.mem_append_left _ he)
     omega
    ·exact hRs e he hk
   have hks:∀b,b<C.w.heap.size→b∈keys G→b∈C.ks:=fun b hb hk=>by
    obtain⟨e,he,rfl⟩:=List.mem_map.1 hk
    rcases h4 e (hp.mem_iff.2 (List.mem_append_right _ he))with h|h
    ·exact h
    ·omega
   have hCw:=h3.size
   have mk:∀(w2:World) (m2:Mem) (H':LH) (o:Obj),MemIn m2 w2→HOk m2 w2 H'→Rel ((w.heap.size+1)::keys G) m w1 m2 w2→m2 (w.heap.size+1)=none→(∀e∈H',e.1∈keys G∨w1.heap.size≤e.1)→(∀e∈H',e.1≠w.heap.size+1)→
     RB C {ks:=keys (Rs++H'),m:=m2,w:=w2.putObj (w.heap.size+1) o,pan:=C.pan,dfs:=⟨.collected w.heap.size,#[]⟩::C.dfs} w.heap.size∧
     St {ks:=keys (Rs++H'),m:=m2,w:=w2.putObj (w.heap.size+1) o,pan:=C.pan,dfs:=⟨.collected w.heap.size,#[]⟩::C.dfs} n F (Rs++H') {a with defers:=[{target := .collected w.heap.size,args := #[]}]++a.defers} (w2.putObj (w.heap.size+1) o):=by
    intro w2 m2 H' o q1 q2 q3 q4 q5 q6
    have hHn:HOk m2 w2 (Rs++H'):=hH1.frame q2 q3 hRs' q5
    have hall:∀e∈Rs++H',e.1≠w.heap.size+1:=fun e he=>by
     rcases List.mem_append.1 he with g|g
     ·have:=hklt e (List.mem_append_left _ g);omega
     ·exact q6 e g
    have hDk:w.heap.size∉(w.heap.size+1)::keys G:=fun hk=>by
     rcases List.mem_cons.1 hk with hk|hk
     ·omega
     ·obtain⟨e,he,hk⟩:=List.mem_map.1 hk
      have:=hklt e (List.mem_append_right _ he)
      omega
    have hDne:w.heap.size≠w.heap.size+1:=by omega
    have hDat:(w2.putObj (w.heap.size+1) o).heap[w.heap.size]? = some (.deferred (some [])):=by
     rw [World.putObj_heap_other hDne,q3.block _ (by omega) hDk];exact hD1
    have hD2:m2 w.heap.size=none:=(q3.old _ (by omega) hDk).trans hmD
    have hMn:MemIn m2 (w2.putObj (w.heap.size+1) o):=q1.putObj q4
    have hHf:=hHn.putObj (o:=o) hall
    refine⟨⟨rfl,rfl,?_,fun b hb=>?_,hDat,fun hk=>?_,hD2,hCw⟩,⟨by show _::a.defers=_::C.dfs;rw [hdef],hn,m2,hMn,hHf,Rel.refl _ _ _,fun e he => .inl (mem_keys he),fun t=>(F t).mono q3.le (h5 t)⟩⟩
    ·refine((h3.trans hr1 fun b _ h=>by cases h).trans q3 fun b hb hk=>?_).trans Rel.putL fun b hb hk=>?_
     ·rcases List.mem_cons.1 hk with hk|hk
      ·omega
      ·exact hks b hb hk
     ·rw [List.mem_singleton.1 hk]at hb;omega
    ·obtain⟨e,he,rfl⟩:=List.mem_map.1 hb
     rcases List.mem_append.1 he with g|g
     ·exact h4 e (hp.mem_iff.2 (List.mem_append_left _ g))
     ·rcases q5 e g with g|g
      ·obtain⟨e',he',g⟩:=List.mem_map.1 g
       have:=h4 e' (hp.mem_iff.2 (List.mem_append_right _ he'))
       rw [g]at this;exact this
      ·exact .inr (by omega)
    ·obtain⟨e,he,hk⟩:=List.mem_map.1 hk
     obtain⟨_,arr,hb,_⟩:=hHf.2 e he
     rw [hk,hDat]at hb
     cases hb
   rintro e w2 ⟨⟨v,rfl⟩,⟨hTT,hl2,m2,q1,q2,q3⟩|⟨hl2,m2,H',q1,q2,q3,q4,q5,q6⟩⟩
   ·have hne:=q2.ne_loop hl2
    have hml2:m2 (w.heap.size+1)=none:=(q3.old _ (by omega) hlk).trans hmL
    obtain⟨r1,r2⟩:=mk w2 m2 G (.loop {rec with state := .exhausted}) q1 q2 (q3.mono fun b hb=>List.mem_cons_of_mem _ hb) hml2 (fun e he => .inl (mem_keys he)) hne
    exact⟨none,_,(run_endLoop (P:=P) hl2 (by rw [hrec];simp)).trans (congrArg (fun x=>Result.ok x (w2.putObj (w.heap.size+1) (.loop {rec with state := .exhausted}))) (show rec.pending=none by rw [hrec])),k1 _ _ _ _ hTT r1 r2⟩
   ·have hne:=q2.ne_loop hl2
    obtain⟨r1,r2⟩:=mk w2 m2 H' (.loop {{rec with state := .done,pending:=some .ret}with state := .exhausted}) q1 q2 q3 q4 q5 hne
    exact⟨some .ret,_,run_endLoop (P:=P) hl2 (by simp),wpIn_ret (k2 _ _ _ _ _ r1 q6 r2)⟩
end
section
variable {P:Program}{ops:Array Oper}{C:Ctx}{n:Nat}{F F':Fr}{H:LH}
attribute [local semireducible] WP WPL thenQ blkQ Dk
end
section
variable {P:Program}{F:Fr}{H:LH}{ty:TypeId}
theorem ov_idxA {x ix:Operand}{T e:TypeId}{len k by2:Nat}{z2:List SV}{g2:Bool} [hE:TY P e k by2 z2 g2] (hA:P.underlying T=some (.array len e)){ki:IntKind}{b:Nat}{i:Int}
  (hx:ev F x=lit (.pointer (some ⟨b,0,none⟩))) (hi:ev F ix=lit (.int ki i)) (h0:0≤i) (h1:i<len):OpV P (.indexAddr T x ix) ty F H (lit (.pointer (some ⟨b,i.toNat*k,none⟩))) :=
 OpV.pure fun m w o a hop _ _ _ h=>by
  have e0:=h x (by simp [Op.operands]);rw [hx,lit_p]at e0
  have e1:=h ix (by simp [Op.operands]);rw [hi,lit_p]at e1
  refine⟨.pointer (some ⟨b,i.toNat*k,none⟩),?_,lit_p.2 rfl⟩
  simp [execOp,hop,e0,e1,Instr.indexAt,Instr.sureAddr,asIntOf,underlying,hA,h0,h1,hE.run_size,add_none]
end
section
variable {P:Program}{C:Ctx}{n:Nat}{F:Fr}{H:LH}{Post:Exit→Act→World→Prop}
attribute [local semireducible] WP WPL thenQ blkQ Dk
def WPY (P:Program) (C:Ctx) (n:Nat) (c:Code) (Post:Exit→Act→World→Prop) (F:Fr) (H:LH):Prop:=∀a w,St C n F H a w→∀d,c.wpIn (fe none) d P Post a w
theorem WPY.seq {x y:Code}(hpan:∀pv H,¬C.pan pv H) (h:WPX none P C n x (onlyN fun F H=>WPY P C n y Post F H) F H):WPY P C n (.seq x y) Post F H:=by
 intro a w hs d
 refine wpIn_seq (wpIn_mono (h a w hs d) ?_)
 rintro e a' w' (⟨F',H',hs',hq⟩|⟨ch,rfl,_,m,v,pv,H',_,_,_,_,_,_,hx⟩)
 ·cases e with
  |normal=>exact hq a' w' hs' d
  |_=>exact hq.elim
 ·exact absurd hx (hpan _ _)
theorem onlyN.i {K:Fr→LH→Prop}(h:K F H):onlyN K .normal F H:=h
theorem WPY.le {c:Code}{F':Fr}(k:LeF F F') (h:WPY P C n c Post F' H):WPY P C n c Post F H:=fun a w hs=>h a w (hs.le k)
theorem WPY.last {c:Code}{Q:Exit→Fr→LH→Prop}(h:WPX none P C n c Q F H) (k:∀e a w,liftQ C n Q e a w→Post e a w):WPY P C n c Post F H:=fun a w hs d=>wpIn_mono (h a w hs d) k
theorem WPY.block {id:Nat}{c:Code}(h:WPY P C n c (Exit.inBlock id Post) F H):WPY P C n (.block id c) Post F H:=fun a w hs d=>wpIn_block (h a w hs d)
theorem WPY.loop {c:Code}(J:Nat→Fr) (I:Nat→Prop) (L:LH) (k:Nat) (hI:I k) (h0:LeF F (J k)) (hH:L.Sublist H) (hs:∀k,I k→WPY P C n c (Exit.then (fun a w=>∃j,j<k∧I j∧St C n (J j) L a w) Post) (J k) L):WPY P C n (.loop c) Post F H:=by
 intro a w hst d
 have key:∀k a w,I k→St C n (J k) L a w→Code.roundsIn (fe none) d P c Post (k+1) a w:=by
  intro k
  induction k using Nat.strongRecOn with
  |ind k ih =>
   intro a w hIk hst
   refine wpIn_mono (hs k hIk a w hst d) ?_
   intro e a' w' hq
   cases e with
   |normal =>
    obtain⟨j,hj,hIj,hst'⟩:=hq
    have h1:=ih j hj a' w' hIj hst'
    have mono:∀(q q':Nat) (a:Act) (w:World),q≤q'→Code.roundsIn (fe none) d P c Post q a w→Code.roundsIn (fe none) d P c Post q' a w:=by
     intro q
     induction q with
     |zero=>intro q' a w _ h;exact h.elim
     |succ q ihq =>
      intro q' a w hle h
      obtain⟨q'',rfl⟩:∃q'',q'=q''+1:=⟨q'-1,by omega⟩
      refine wpIn_mono h ?_
      intro e a w hq
      cases e with
      |normal=>exact ihq q'' a w (by omega) hq
      |_=>exact hq
    exact mono (j+1) k a' w' (by omega) h1
   |_=>exact hq
 exact wpIn_loop_rounds (k+1) (key k a w hI ((hst.sub hH).le h0))
end
abbrev lfl (l:Li):SV:=lf l.a l.b l.c
abbrev ppq (p:Pq):SV:=pp p.1 p.2
theorem Li.le.hts {l:Li}{L:Nat}(h:l.le L) (hL:1≤L):ht (l.a:Rat)≤L∧ht (l.b:Rat)≤L∧ht (l.c:Rat)≤L:=by
 have ha:=ht_int2 l.a h.a
 have hb:=ht_int2 l.b h.b
 have hc:=ht_int2 l.c h.c
 omega
theorem fquo_pu (x y:Rat) (hx:ht x≤1000000) (hy:ht y≤1000000):Pu Tryz.prog 320 [fr x,fr y] (fr (x/y)):=by
 have h1:=ht_inv y
 have c1:=inv_pu y (by omega)
 have c2:=rmul_pu x y⁻¹ (by omega) (by omega)
 rw [←Rat.div_def]at c2
 refine Pu.intro Tryz.func320 rfl (by kernel_rfl) fun C=>?_
 repeat(first|(refine A1 ⟨?_⟩;intros)|refine W4 c1 ⟨?_⟩|refine W4 c2 ⟨?_⟩)
 ((first|refine endR ?_|refine endN ?_);refine end1 RVa (Le.refl _))
theorem fhalf_pu (x:Rat) (hx:ht x≤1000000):Pu Tryz.prog 325 [fr x] (fr (x/2)):=by
 have h2:ht ((1:Rat)/2)≤10:=by have h1:=ht_div 1 2;have h2:=ht_one;have h3:ht (2:Rat)≤1:=ht_small 2 (by omega);clear hx;omega
 have c2:=rmul_pu x (1/2) (by omega) (by omega)
 rw [show x*(1/2)=x/2 by grind]at c2
 have e0:r0 ((1:Rat)/2)=1:=by decide +kernel
 have e1:r1 ((1:Rat)/2)=1:=by decide +kernel
 have e2:r2 ((1:Rat)/2)=lit (.pointer none):=if_pos (by decide +kernel)
 rw [show fr ((1:Rat)/2)=ag [lit (.int .i64 1),lit (.int .i64 1),lit (.pointer none)] by unfold fr;rw [e0,e1,e2]]at c2
 clear h2 e0 e1 e2
 refine Pu.intro Tryz.func325 rfl (by kernel_rfl) fun C=>?_
 repeat(first|(refine A1 ⟨?_⟩;intros)|refine W4 c2 ⟨?_⟩)
 ((first|refine endR ?_|refine endN ?_);refine end1 RVa (Le.refl _))
theorem fmax_pu (x y:Rat) (hx:ht x≤1000000) (hy:ht y≤1000000):Pu Tryz.prog 298 [fr x,fr y] (fr (maxR x y)):=by
 have c1:=fcmp_pu y x (by omega) (by omega)
 have e:(0≤(x-y).num.sign)↔¬0<(y-x).num.sign:=by rw [rsign_nn,rsign_pos];grind
 unfold maxR
 by_cases h:0<(y-x).num.sign
 ·rw [if_neg (fun k=>e.1 k h)]
  clear e
  generalize(y-x).num.sign=z at *
  refine Pu.intro Tryz.func298 rfl (by kernel_rfl) fun C=>?_
  repeat(first|(refine A1 ⟨?_⟩;intros)|refine W4 c1 ⟨?_⟩)
  ((first|refine endR ?_|refine endN ?_);refine end1 RVa (Le.refl _))
 ·rw [if_pos (e.2 h)]
  clear e
  generalize(y-x).num.sign=z at *
  refine Pu.intro Tryz.func298 rfl (by kernel_rfl) fun C=>?_
  repeat(first|(refine A1 ⟨?_⟩;intros)|refine W4 c1 ⟨?_⟩)
  ((first|refine endR ?_|refine endN ?_);refine end1 RVa (Le.refl _))
theorem fmin_pu (x y:Rat) (hx:ht x≤1000000) (hy:ht y≤1000000):Pu Tryz.prog 299 [fr x,fr y] (fr (minR x y)):=by
 have c1:=fcmp_pu y x (by omega) (by omega)
 have e:((x-y).num.sign≤0)↔¬(y-x).num.sign<0:=by rw [←Int.not_lt,rsign_pos,rsign_neg];grind
 unfold minR
 by_cases h:(y-x).num.sign<0
 ·rw [if_neg (fun k=>e.1 k h)]
  clear e
  generalize(y-x).num.sign=z at *
  refine Pu.intro Tryz.func299 rfl (by kernel_rfl) fun C=>?_
  repeat(first|(refine A1 ⟨?_⟩;intros)|refine W4 c1 ⟨?_⟩)
  ((first|refine endR ?_|refine endN ?_);refine end1 RVa (Le.refl _))
 ·rw [if_pos (e.2 h)]
  clear e
  generalize(y-x).num.sign=z at *
  refine Pu.intro Tryz.func299 rfl (by kernel_rfl) fun C=>?_
  repeat(first|(refine A1 ⟨?_⟩;intros)|refine W4 c1 ⟨?_⟩)
  ((first|refine endR ?_|refine endN ?_);refine end1 RVa (Le.refl _))
theorem lrev_pu (l:Li) (h:l.le 1000000):Pu Tryz.prog 279 [lfl l] (lfl l.neg):=by
 have ha:=ht_int2 l.a h.a
 have hb:=ht_int2 l.b h.b
 have hc:=ht_int2 l.c h.c
 have c1:=rneg_pu (l.a:Rat) (by omega)
 have c2:=rneg_pu (l.b:Rat) (by omega)
 have c3:=rneg_pu (l.c:Rat) (by omega)
 rw [←Rat.intCast_neg]at c1 c2 c3
 refine Pu.intro Tryz.func279 rfl (by kernel_rfl) fun C=>?_
 repeat(first|(refine A1 ⟨?_⟩;intros)|refine W4 c1 ⟨?_⟩|refine W4 c2 ⟨?_⟩|refine W4 c3 ⟨?_⟩)
 ((first|refine endR ?_|refine endN ?_);refine end1 RVa (Le.refl _))
theorem ldir_pu (l:Li) (h:l.le 1000000):Pu Tryz.prog 192 [lfl l] (ppq (dirL l)):=by
 have ha:=ht_int2 l.a h.a
 have c1:=rneg_pu (l.a:Rat) (by omega)
 refine Pu.intro Tryz.func192 rfl (by kernel_rfl) fun C=>?_
 repeat(first|(refine A1 ⟨?_⟩;intros)|refine W4 c1 ⟨?_⟩)
 ((first|refine endR ?_|refine endN ?_);refine end1 RVa (Le.refl _))
theorem Li.bf_htL {l:Li}{L:Nat}(h:l.le L) (hL:1≤L):ht l.bf≤10*L:=by
 obtain⟨ha,hb,hc⟩:=h.hts hL
 unfold Li.bf
 have h1:=ht_mul (l.b:Rat) l.b
 have h2:=ht_mul (-(l.a:Rat)) (-(l.a:Rat))
 have h3:=ht_add ((l.b:Rat)*l.b) (-(l.a:Rat) * -(l.a:Rat))
 have h4:=ht_inv ((l.b:Rat)*l.b + -(l.a:Rat) * -(l.a:Rat))
 have h5:=ht_mul (l.c:Rat) ((l.b:Rat)*l.b + -(l.a:Rat) * -(l.a:Rat))⁻¹
 rw [ht_neg]at h2⊢
 rw [Rat.div_def]
 omega
theorem baseL_htL {l:Li}{L:Nat}(h:l.le L) (hL:1≤L):hp (baseL l) (12*L):=by
 obtain⟨ha,hb,hc⟩:=h.hts hL
 have:=Li.bf_htL h hL
 have:=ht_mul l.bf (l.a:Rat)
 have:=ht_mul l.bf (l.b:Rat)
 unfold baseL
 constructor <;> simp only <;> omega
theorem atL_htL {l:Li}{L:Nat}(h:l.le L) (hL:1≤L){t:Rat}{n:Nat}(k:ht t≤n):hp (atL l t) (n+15*L):=by
 obtain⟨ha,hb,hc⟩:=h.hts hL
 have hd:hp (dirL l) L:=⟨hb,by show ht (-(l.a:Rat))≤L;rw [ht_neg];exact ha⟩
 obtain⟨h1,h2⟩:=addP_ht (baseL_htL h hL) k hd
 unfold atL
 exact⟨by omega,by omega⟩
theorem valL_htL {l:Li}{L:Nat}(h:l.le L) (hL:1≤L){p:Pq}{n:Nat}(k:hp p n):ht (valL l p)≤2*n+7*L:=by
 obtain⟨h1,h2,h3⟩:=h.hts hL
 obtain⟨k1,k2⟩:=k
 have:=ht_mul (l.a:Rat) p.1
 have:=ht_mul (l.b:Rat) p.2
 have:=ht_add ((l.a:Rat)*p.1) ((l.b:Rat)*p.2)
 have:=ht_add ((l.a:Rat)*p.1+(l.b:Rat)*p.2) (l.c:Rat)
 unfold valL
 omega
theorem lbase_pu {l:Li}{L:Nat}(h:l.le L) (hL:1≤L) (hU:L≤10000):Pu Tryz.prog 319 [lfl l] (ppq (baseL l)):=by
 obtain⟨ha,hb,hc⟩:=h.hts hL
 have hf:=Li.bf_htL h hL
 have h1:=ht_mul (l.a:Rat) l.a
 have h2:=ht_mul (l.b:Rat) l.b
 have h3:=ht_add ((l.a:Rat)*l.a) ((l.b:Rat)*l.b)
 have hcn:ht (-(l.c:Rat))≤L:=by rw [ht_neg];exact hc
 have e : -(l.c:Rat)/((l.a:Rat)*l.a+l.b*l.b)=l.bf:=by
  unfold Li.bf
  rw [show(l.b:Rat)*l.b + -(l.a:Rat) * -(l.a:Rat)=(l.a:Rat)*l.a+l.b*l.b by grind,Rat.div_def,Rat.div_def,Rat.neg_mul]
 have c1:=lnormal_pu (l.a:Rat) l.b l.c
 have c2:=rneg_pu (l.c:Rat) (by omega)
 have c3:=pdot_pu (l.a:Rat) l.b l.a l.b (by omega) (by omega) (by omega) (by omega)
 have c4:=fquo_pu (-(l.c:Rat)) ((l.a:Rat)*l.a+l.b*l.b) (by omega) (by omega)
 rw [e]at c4
 have c5:=pscale_pu (l.a:Rat) l.b l.bf (by omega) (by omega) (by omega)
 rw [Rat.mul_comm (l.a:Rat) l.bf,Rat.mul_comm (l.b:Rat) l.bf]at c5
 clear h1 h2 h3 hcn ha hb hc hf e
 refine Pu.intro Tryz.func319 rfl (by kernel_rfl) fun C=>?_
 repeat(first|(refine A1 ⟨?_⟩;intros)|refine W4 c1 ⟨?_⟩|refine W4 c2 ⟨?_⟩|refine W4 c3 ⟨?_⟩|refine W4 c4 ⟨?_⟩|refine W4 c5 ⟨?_⟩)
 ((first|refine endR ?_|refine endN ?_);refine end1 RVa (Le.refl _))
theorem lat_pu {l:Li}{L:Nat}(h:l.le L) (hL:1≤L) (hU:L≤10000){t:Rat}(k:ht t≤200000):Pu Tryz.prog 317 [lfl l,fr t] (ppq (atL l t)):=by
 obtain⟨ha,hb,hc⟩:=h.hts hL
 obtain⟨b1,b2⟩:=baseL_htL h hL
 have d2:ht (-(l.a:Rat))≤L:=by rw [ht_neg];exact ha
 have m1:=ht_mul (l.b:Rat) t
 have m2:=ht_mul (-(l.a:Rat)) t
 have c1:=lbase_pu h hL hU
 have c2:=ldir_pu l (h.gr (by omega))
 have c3:=pscale_pu (l.b:Rat) (-(l.a:Rat)) t (by omega) (by omega) (by omega)
 have c4:=padd_pu (baseL l).1 (baseL l).2 ((l.b:Rat)*t) (-(l.a:Rat)*t) (by omega) (by omega) (by omega) (by omega)
 rw [Rat.mul_comm (l.b:Rat) t,Rat.mul_comm (-(l.a:Rat)) t]at c3 c4
 clear m1 m2 b1 b2 d2 ha hb hc
 refine Pu.intro Tryz.func317 rfl (by kernel_rfl) fun C=>?_
 repeat(first|(refine A1 ⟨?_⟩;intros)|refine W4 c1 ⟨?_⟩|refine W4 c2 ⟨?_⟩|refine W4 c3 ⟨?_⟩|refine W4 c4 ⟨?_⟩)
 ((first|refine endR ?_|refine endN ?_);refine end1 RVa (Le.refl _))
theorem lside_pu {l:Li}{L:Nat}(h:l.le L) (hL:1≤L) (hU:L≤10000){p:Pq}(k:hp p 100000):Pu Tryz.prog 191 [lfl l,ppq p] (lit (.int .i64 (sideL l p))):=by
 obtain⟨ha,hb,hc⟩:=h.hts hL
 have hv:=valL_htL h hL k
 have c1:=lvalue_pu (l.a:Rat) l.b l.c p.1 p.2 (by omega) (by omega) (by omega) k.1 k.2
 have c2:=fsign_pu (valL l p) (by omega)
 clear ha hb hc hv
 refine Pu.intro Tryz.func191 rfl (by kernel_rfl) fun C=>?_
 repeat(first|(refine A1 ⟨?_⟩;intros)|refine W4 c1 ⟨?_⟩|refine W4 c2 ⟨?_⟩)
 exact E1
section
variable {P:Program}{C:Ctx}{n:Nat}{F:Fr}{H:LH}{Q:Exit→Fr→LH→Prop}
theorem WdS {id:Nat}{l:List Oper}(ks:List Nat){b:Nat}{T:TypeId}{cs:List SV}(css:List (List SV)){Hc:LH}(hd:HDel b T cs H Hc) (hm:P.follows .mixedOrders=true) (hchk:mixOk l.toArray ks=true)
  (h:Mk P C n l.toArray ks Hc (fun s=>[(b,T,(cs::css).getD s [])]) 0 0 l (fun Fe=>Q .normal Fe ((b,T,(cs::css).getD ks.length [])::Hc)) F):WP P C n (.region id l.toArray true) Q F H :=
 .perm hd.perm (WdM ks Hc (fun s=>[(b,T,(cs::css).getD s [])]) h rfl hm hchk)
theorem MkS {ops:Array Oper}{rs:List Nat}{Hc:LH}{E:Nat→LH}{i s:Nat}{l:List Oper}{K:Fr→Prop}{T T':TypeId}{sz by_:Nat}{z:List SV}{g:Bool} [hT:TY P T sz by_ z g]{x v:Operand}{b o:Nat}{sv:SV}{cs cs' ds:List SV}{ty:TypeId}{pos:String}{aft:Array Edge}
  (h:Mk P C n ops rs Hc E (i+1) (s+1) l K F) (hE:E s=[(b,T',cs)]:=by exact rfl) (hE':E (s+1)=[(b,T',cs')]:=by exact rfl) (hx:ev F x=lit (.pointer (some ⟨b,o,none⟩)):=by exact rfl)
  (hv:ev F v=sv:=by(first|exact Eq.refl (lit _)|exact Eq.refl (dg _)|exact Eq.refl (ag _)|exact Eq.refl (pt _)|exact Eq.refl (sl _ _)|exact Eq.refl (nsl _ _)|exact Eq.refl (tup _)|exact Eq.refl top|exact rfl)) (hco:CO sv ds:=by infer_instance)
  (hlen:Nat.beq ds.length sz=true:=by exact rfl) (hsp:spl cs o ds=cs':=by exact rfl) (hle:Nat.ble (o+sz) cs.length=true:=by exact rfl)
  (ho:ops[i]? = some ⟨none, .store T x v,ty,pos,aft,none⟩:=by exact rfl) (hr:rs[s]? = some i:=by exact rfl):Mk P C n ops rs Hc E i s (⟨none, .store T x v,ty,pos,aft,none⟩::l) K F :=
 MkR (sv:=top) (by rw [hE,hE'];exact TS.store ho hx hv hlen (HUpd.here _) hsp hle) h hr
end
end Go.Ab
