/- Texts laid one behind the other: Rng, RngB, Drw, RgM. -/
import Derived.RangeFuncLeaves
import Derived.RangeFuncRecord
import Derived.TacticsIn
import Derived.OrdersIn
import Derived.Test.YtncbhpffccggcaaGreatDoorB12
set_option linter.all false
namespace Go.Ab
open Go.Proofs
variable [Base]
abbrev fe (ro:Option Nat):Fence:={fn:=fun _=>True,depth:=none,alive:=false,round:=ro}
theorem sj {ro:Option Nat}{n:Nat}{P:Program}{f:FuncId}{args:Array Value}{w:World}{R:Ending→World→Prop}(h:Calls P f args w R):CallsIn (fe ro) n P f args w R:=callsIn_wide.2 h
theorem BD {ro:Option Nat}{n:Nat}{P:Program}{row:String}{args:Array Value}{w:World}{R:Value→World→Prop}(h:Rows P row args w R):RowsIn (fe ro) n P row args w R :=
 fun c cs _=>let⟨v,w',r,s⟩:=h c cs;⟨v,w',r,stepsIn_wide.2 s⟩
def q9:Op→Bool
 | .defer _=>true
 |_=>false
theorem C6 {o:Oper}(h:(!q9 o.op)=true):∀c,o.op≠ .defer c:=fun c e=>by rw [e]at h;cases h
theorem up1 {ro:Option Nat}{d:Nat}{P:Program}{o:Oper}{a:Act}{w:World}{K:Act→World→Prop}{Q:Exit→Act→World→Prop}(hd:(!q9 o.op)=true) (h:o.wp P a w K Q):o.wpIn (fe ro) d P a w K Q:=by
 refine⟨fun _ _=>trivial,?_⟩;rw [Oper.semAt_eq _ _ _ (C6 hd)];unfold Oper.wp at h;generalize(execOp a.eval o).run P w=r at *;cases r with
 |ok x w' =>
  cases x with
  |value v=>exact h
  |skip=>exact h
  |defer d=>exact h
  |enter f args=>exact⟨(fun e=>by cases e),sj h⟩
  |row r args=>exact⟨(fun e=>by cases e),BD h⟩
  |_=>exact h.elim
 |halt x w' =>
  cases x with
  |panic v=>exact h
  |_=>exact h.elim
theorem upL {ro:Option Nat}{d:Nat}{P:Program}{ops:Array Oper}{Q:Exit→Act→World→Prop}(hq:∀a w,¬Q .outgrown a w):∀(l:List Oper) (a:Act) (w:World),(l.all fun o => !q9 o.op)=true→wpList P ops Q l a w→wpListIn (fe ro) d P ops Q l a w
 | [],a,w,_,h=>h
 |o::l,a,w,hd,h=>by
  rw [List.all_cons,Bool.and_eq_true]at hd;unfold wpList at h;unfold wpListIn;split
  ·rename_i hw;rw [if_pos hw]at h;rcases h with h|⟨_,a0,w0,h0⟩
   ·exact Oper.wpIn_mono (fun a w=>upL hq l a w hd.2) (up1 hd.1 h)
   ·exact(hq _ _ h0).elim
  ·rename_i hw;rw [if_neg hw]at h;exact⟨fun _ _=>trivial,upL hq l _ w hd.2 h⟩
section
variable {P:Program}{C:Ctx}{n:Nat}{Q:Exit→Fr→LH→Prop}{F:Fr}{H:LH}{ro:Option Nat}
attribute [local semireducible] WP WPL et kz
def WPX (ro:Option Nat) (P:Program) (C:Ctx) (n:Nat) (c:Code) (Q:Exit→Fr→LH→Prop) (F:Fr) (H:LH):Prop:=∀a w,St C n F H a w→∀d,c.wpIn (fe ro) d P (iD C n Q) a w
theorem WPX.le {c:Code}{F':Fr}(k:LeF F F') (h:WPX ro P C n c Q F' H):WPX ro P C n c Q F H:=fun a w hs=>h a w (hs.le k)
theorem WPX.seq {x y:Code}(h:WPX ro P C n x (et (WPX ro P C n y Q) Q) F H):WPX ro P C n (.seq x y) Q F H:=by
 intro a w hs d;refine wpIn_seq (wpIn_mono (h a w hs d) ?_);rintro e a' w' (⟨F',H',hs',hq⟩|⟨ch,rfl,hp⟩)
 ·cases e with
  |normal=>exact hq a' w' hs' d
  |_=>exact .inl ⟨F',H',hs',hq⟩
 ·exact .inr ⟨ch,rfl,hp⟩
theorem WPX.block {id:Nat}{c:Code}(h:WPX ro P C n c (kz id Q) F H):WPX ro P C n (.block id c) Q F H:=by
 intro a w hs d;refine wpIn_block (wpIn_mono (h a w hs d) ?_);rintro e a' w' (⟨F',H',hs',hq⟩|⟨ch,rfl,hp⟩)
 ·cases e with
  |exit id' =>
   simp only [kz]at hq;simp only [Exit.inBlock];cases hb:Nat.beq id' id with
   |true=>rw [hb]at hq;rw [if_pos (Nat.eq_of_beq_eq_true hb)];exact .inl ⟨F',H',hs',hq⟩
   |false=>rw [hb]at hq;rw [if_neg (fun h=>by rw [h,Nat.beq_refl]at hb;cases hb)];exact .inl ⟨F',H',hs',hq⟩
  |_=>exact .inl ⟨F',H',hs',hq⟩
 ·exact .inr ⟨ch,rfl,hp⟩
theorem WPX.skip (h:Q .normal F H):WPX ro P C n .skip Q F H:=fun _ _ hs _=>wpIn_skip (.mk hs h)
theorem WPX.exit {id:Nat}(h:Q (.exit id) F H):WPX ro P C n (.exit id) Q F H:=fun _ _ hs _=>wpIn_exit (.mk hs h)
theorem WPX.ret (h:Q .ret F H):WPX ro P C n .ret Q F H:=fun _ _ hs _=>wpIn_ret (.mk hs h)
theorem WPX.cond {c:Operand}{x y:Code}{t:Bool}(hc:ev F c=lit (.bool t)) (h1:t=true→WPX ro P C n x Q F H) (h2:t=false→WPX ro P C n y Q F H):WPX ro P C n (.cond c x y) Q F H:=by
 intro a w hs d;obtain⟨m,_,hp⟩:=hs.evp;have hv:=hp c;rw [hc,ae]at hv;exact wpIn_cond_split hv (fun h=>h1 h a w hs d) (fun h=>h2 h a w hs d)
theorem WPX.reg {id:Nat}{l:List Oper}(h:WPL P C n l.toArray l (fun F H=>Q .normal F H) F H) (hd:(l.all fun o => !q9 o.op)=true:=by exact rfl):WPX ro P C n (.region id l.toArray false) Q F H:=by
 intro a w hs d;have h1:=h a w hs (fun e a w=>e≠ .outgrown∧iD C n Q e a w) ⟨fun _ _ _ _ hs hq=>⟨(by intro e;cases e), .mk hs hq⟩,fun ch _ _ hp=>⟨(by intro e;cases e), .inr ⟨ch,rfl,hp⟩⟩⟩;exact wpIn_mono (wpIn_region_lit (upL (fun a w h=>h.1 rfl) l a w hd h1)) fun e a w h=>h.2
theorem aP.putObj {m:Mem}{w:World}{l:Nat}{o:Obj}(h:aP m w) (hl:m l=none):aP m (w.putObj l o) :=
 ⟨fun b x hb=>by
  have hne:b≠l:=fun e=>by rw [e,hl]at hb;cases hb
  rw [World.putObj_heap_other hne];exact h b x hb,h.base⟩
theorem HOk.putObj {m:Mem}{w:World}{l:Nat}{o:Obj}(h:HOk m w H) (hl:∀e∈H,e.1≠l):HOk m (w.putObj l o) H :=
 ⟨h.1,fun e he=>by
  obtain⟨h1,arr,h2,h3⟩:=h.2 e he;exact⟨h1,arr,by rw [World.putObj_heap_other (hl e he)];exact h2,h3⟩⟩
theorem HOk.ne_loop {m:Mem}{w:World}{l:Nat}{r:Loop}(h:HOk m w H) (hl:w.heap[l]? = some (.loop r)):∀e∈H,e.1≠l:=fun e he hel=>by
 obtain⟨_,arr,h2,_⟩:=h.2 e he;rw [hel,hl]at h2;cases h2
theorem jw {w:World}{l:Nat}{o:Obj}(h:w.heap[l]? = some o):l<w.heap.size:=(Array.getElem?_eq_some_iff.1 h).1
theorem Rel.putL {m:Mem}{w:World}{l:Nat}{o:Obj}:Rel [l] m w m (w.putObj l o) :=
 ⟨Mem.le_refl m,fun _ _ _=>rfl,rfl,rfl,rfl,by rw [World.putObj_size];exact Nat.le_refl _,fun b _ hn=>World.putObj_heap_other (fun e=>hn (by rw [e];exact List.mem_singleton.2 rfl))⟩
theorem Rel.around {ks:List Nat}{m m':Mem}{w w':World}{l:Nat}{o o1:Obj}(h:Rel ks m (w.putObj l o1) m' w') (hl:w.heap[l]? = some o):Rel ks m w m' (w'.putObj l o):=by
 have hs:w.heap.size≤w'.heap.size:=by have:=h.size;rwa [World.putObj_size]at this
 refine⟨h.le,fun b hb hn=>h.old b (by rwa [World.putObj_size]) hn,h.os,h.tape,h.output,by rw [World.putObj_size];exact hs,fun b hb hn=>?_⟩;by_cases e:b=l
 ·subst e;rw [World.putObj_heap_same om,hl]
 ·rw [World.putObj_heap_other e];have:=h.block b (by rwa [World.putObj_size]) hn;rwa [World.putObj_heap_other e]at this
theorem Rel.after {ks:List Nat}{m m':Mem}{w w':World}{l:Nat}{o o1:Obj}(h:Rel ks m (w.putObj l o1) m' w'):Rel (l::ks) m w m' (w'.putObj l o):=by
 have hs:w.heap.size≤w'.heap.size:=by have:=h.size;rwa [World.putObj_size]at this
 refine⟨h.le,fun b hb hn=>h.old b (by rwa [World.putObj_size]) (fun x=>hn (Mc x)),h.os,h.tape,h.output,by rw [World.putObj_size];exact hs,fun b hb hn=>?_⟩;have e:b≠l:=fun e=>hn (by rw [e];exact Ms)
 rw [World.putObj_heap_other e];have:=h.block b (by rwa [World.putObj_size]) (fun x=>hn (Mc x));rwa [World.putObj_heap_other e]at this
theorem St.putLoop {a:Act}{w1:World}{l:Nat}{r:Loop}{o:Obj}(h:St C n F H a w1) (hm:C.m l=none) (hl:C.w.heap[l]? = some (.loop r)) (hk:l∉C.ks):St {C with w:=C.w.putObj l o} n F H a (w1.putObj l o):=by
 obtain⟨hdef,hn,m,h1,h2,h3,h4,h5⟩:=h;have hlt:=jw hl;have hl1:w1.heap[l]? = some (.loop r):=(h3.block l hlt hk).trans hl;have hml:m l=none:=(h3.old l hlt hk).trans hm;refine⟨hdef,hn,m,h1.putObj hml,h2.putObj (h2.ne_loop hl1),⟨h3.le,fun b hb hn=>h3.old b (by rwa [World.putObj_size]at hb) hn,h3.os,h3.tape,h3.output,by rw [World.putObj_size,World.putObj_size];exact h3.size,fun b hb hn=>?_⟩,fun e he=>by rw [World.putObj_size];exact h4 e he,h5⟩;by_cases e:b=l
 ·subst e;rw [World.putObj_heap_same (jw hl1),World.putObj_heap_same hlt]
 ·rw [World.putObj_heap_other e,World.putObj_heap_other e];exact h3.block b (by rwa [World.putObj_size]at hb) hn
def D5 (F:Fr):List (Nat×SV)→Fr
 | []=>F
 |(d,s)::r=>D5 (upd F d s) r
theorem zR {m:Mem}:∀(l:List (Nat×SV)) (ps:List (Tmp×Value)) (F:Fr) (tmps:Array Value),l.map (·.1)=ps.map (·.1)→aU m (l.map (·.2)) (ps.map (·.2))→(∀e∈l,e.1<tmps.size)→(∀t,(F t).p m (tmps.getD t undef))→
  ∀t,(D5 F l t).p m ((ps.foldl (fun t (p,v)=>t.setIfInBounds p v) tmps).getD t undef)
 | [],[],F,tmps,_,_,_,h=>h
 |(d,s)::l,(p,v)::ps,F,tmps,he,ha,hl,h=>by
  simp only [List.map_cons,List.cons.injEq]at he;obtain⟨rfl,he⟩:=he;refine zR l ps (upd F d s) (tmps.setIfInBounds d v) he ha.2 (fun e h=>by rw [Array.size_setIfInBounds];exact hl e (Mc h)) fun t=>?_
  have hd:=hl (d,s) Ms;by_cases ht:t=d
  ·subst ht;rw [aB];simpa [Array.getD,hd] using ha.1
  ·rw [ap ht];have:=h t;simpa [Array.getD_eq_getD_getElem?,Array.getElem?_setIfInBounds_ne (Ne.symm ht)] using this
 | [],_::_,_,_,he,_,_,_=>by cases he
 |_::_,[],_,_,he,_,_,_=>by cases he
end
def JZ (G:LH) (Gx:LH→Prop) (T:Prop):Exit→Fr→LH→Prop
 | .normal,_,H=>G.Sublist H∧T
 | .ret,_,H=>∃H',H'.Sublist H∧Gx H'
 |_,_,_=>False
def wV (K:Fr→LH→Prop):Exit→Fr→LH→Prop
 | .normal,F,H=>K F H
 |_,_,_=>False
def YOk (P:Program) (l:Nat) (rec:Loop) (G:LH) (ys:List SV) (Gx:LH→Prop) (T:Prop) (m0:Mem):Prop :=
 ∀(m:Mem) (w:World) (vs:List Value),aP m w→HOk m w G→m0.le m→m l=none→l∉keys G→w.heap[l]? = some (.loop rec)→aU m ys vs→
  ∃fn tmps assign body,(Instr.yield l vs.toArray).run P w = .ok (.round l fn tmps assign body) w∧∀d,RoundIn (fe none) d P l fn tmps assign body w fun e w' =>
   (e = .returned (.bool true)∧T∧w'.heap[l]? = some (.loop rec)∧∃m',aP m' w'∧HOk m' w' G∧Rel (keys G) m w m' w')∨
   (e = .returned (.bool false)∧w'.heap[l]? = some (.loop {rec with state := .done,pending:=some .ret})∧∃m' H',aP m' w'∧HOk m' w' H'∧Rel (l::keys G) m w m' w'∧m' l=none∧(∀e∈H',e.1∈keys G∨w.heap.size≤e.1)∧Gx H')
def KT (P:Program) (gf:FuncId) (caps:List SV) (ys:Nat→List SV) (N:Nat):Prop :=
  gh P gf=true∧∀(l:Nat) (rec:Loop) (G:LH) (Gx:LH→Prop) (T:Nat→Prop) (m:Mem) (w:World) (lb:List Value),rec.state = .ready→rec.pending=none→aP m w→HOk m w G→m l=none→l∉keys G→w.heap[l]? = some (.loop rec)→aU m caps lb→
    (∀i,i<N→YOk P l rec G (ys i) Gx (T i) m)→Calls P gf (Value.func (.yield l) #[] #[]::lb).toArray w fun e w'=>(∃v,e = .returned v)∧
      (((∀i,i<N→T i)∧w'.heap[l]? = some (.loop rec)∧∃m',aP m' w'∧HOk m' w' G∧Rel (keys G) m w m' w')∨
       (w'.heap[l]? = some (.loop {rec with state := .done,pending:=some .ret})∧∃m' H',aP m' w'∧HOk m' w' H'∧Rel (l::keys G) m w m' w'∧m' l=none∧(∀e∈H',e.1∈keys G∨w.heap.size≤e.1)∧Gx H'))
section
variable {P:Program}{C:Ctx}{n:Nat}{Q:Exit→Fr→LH→Prop}{F:Fr}{H:LH}{Post:Exit→Act→World→Prop}
attribute [local semireducible] WP WPL et kz
theorem aU.len {m:Mem}:∀{ss:List SV}{vs:List Value},aU m ss vs→ss.length=vs.length
 | [],[],_=>rfl
 |_::_,_::_,h=>by rw [List.length_cons,List.length_cons,aU.len h.2]
 | [],_::_,h=>h.elim
 |_::_,[],h=>h.elim
theorem uh {α β:Type}:∀(a:List α) (b:List β),a.length=b.length→(a.zip b).map (·.1)=a
 | [],[],_=>rfl
 |x::a,y::b,h=>by simp [uh a b (by simpa using h)]
 | [],_::_,h=>by cases h
 |_::_,[],h=>by cases h
theorem ug {α β:Type}:∀(a:List α) (b:List β),a.length=b.length→(a.zip b).map (·.2)=b
 | [],[],_=>rfl
 |x::a,y::b,h=>by simp [ug a b (by simpa using h)]
 | [],_::_,h=>by cases h
 |_::_,[],h=>by cases h
theorem YOk.of {l:Nat}{rec:Loop}{G:LH}{ys:List SV}{Gx:LH→Prop}{T:Prop}{m0:Mem}{ps:List Nat}(hs:rec.state = .ready) (hpd:rec.pending=none) (hps:rec.params=ps.toArray) (hpl:ps.length=ys.length) (hpn:∀p∈ps,p<n) (hn:n≤rec.tmps.size)
  (hF:∀t,(F t).p m0 (rec.tmps.getD t undef))
  (h:∀C:Ctx,C.ks=keys G→C.dfs=[]→(∀pv H,¬C.pan pv H)→WPX (some l) P C n rec.assign (wV fun F' H'=>∀C2:Ctx,C2.ks=keys G→C2.dfs=[]→(∀pv H,¬C2.pan pv H)→WPX (some l) P C2 n rec.body (JZ G Gx T) F' H') (D5 F (ps.zip ys)) G) :
  YOk P l rec G ys Gx T m0:=by
 intro m w vs hm hH hle hml hlk hl hargs;have hlen:=hargs.len;have hlt:=jw hl;have hpar:∀(X:Loop),X.params=ps.toArray→vs.toArray.size=X.params.size:=fun X hX=>by rw [hX];simp;omega
 refine⟨rec.fn,_,rec.assign,rec.body,run_yield hl (hpar rec hps),fun d=>roundIn_of_wpIn trivial ?_⟩
 have hst:St ⟨keys G,m,w,noX,[]⟩ n (D5 F (ps.zip ys)) G {tmps:=(rec.params.zip vs.toArray).foldl (fun tmps (t,a)=>tmps.setIfInBounds t a) rec.tmps,defers:=[]} w:=by
  have hz:rec.params.zip vs.toArray=(ps.zip vs).toArray:=by rw [hps];simp
  have hsz:∀(l:List (Tmp×Value)) (t:Array Value),(l.foldl (fun tmps (x:Tmp×Value)=>tmps.setIfInBounds x.1 x.2) t).size=t.size:=fun l=>by
   induction l with
   |nil=>intro t;rfl
   |cons x l ih=>intro t;rw [List.foldl_cons,ih,Array.size_setIfInBounds]
  rw [hz];refine⟨rfl,by simp only [List.foldl_toArray'];rw [hsz];exact hn,m,hm,hH,Rel.refl _ _ _,fun e he => .inl (kT he),fun t=>?_⟩
  have:=zR (m:=m) (ps.zip ys) (ps.zip vs) F rec.tmps (by rw [uh _ _ hpl,uh _ _ om]) (by rw [ug _ _ hpl,ug _ _ om];exact hargs) (fun e he=>by
   have:=List.of_mem_zip (a:=e.1) (b:=e.2) he;exact Nat.lt_of_lt_of_le (hpn _ this.1) hn) (fun t=>(F t).mono hle (hF t)) t
  simpa using this
 have h1:=h ⟨keys G,m,w,noX,[]⟩ rfl rfl (fun _ _ h=>h) _ _ hst d;refine wpIn_mono h1 ?_;rintro e a1 w1 (⟨F1,H1,hs1,hq1⟩|⟨ch,_,_,_,_,_,_,_,_,_,_,_,_,hx⟩);case inr=>exact hx.elim
 cases e with
 |normal =>
  have hl1:w1.heap[l]? = some (.loop rec):=by
   obtain⟨_,_,m1,_,_,h3,_⟩:=hs1;exact(h3.block l hlt hlk).trans hl
  refine⟨_,run_beginRound hl1 hs,?_⟩;have hs2:=hs1.putLoop (o := .loop {rec with state := .busy}) hml hl hlk;refine wpIn_mono (hq1 _ rfl rfl (fun _ _ h=>h) _ _ hs2 d) ?_;rintro e a3 w3 (⟨F3,H3,⟨_,_,m3,g1,g2,g3,g4,_⟩,hq3⟩|⟨ch,_,_,_,_,_,_,_,_,_,_,_,_,hx⟩);case inr=>exact hx.elim
  have hlt2:l<(w.putObj l (.loop {rec with state := .busy})).heap.size:=by rw [World.putObj_size];exact hlt
  have hm3:m3 l=none:=(g3.old l hlt2 hlk).trans hml;have hl3:w3.heap[l]? = some (.loop {rec with state := .busy}):=(g3.block l hlt2 hlk).trans (World.putObj_heap_same hlt);have hne:=g2.ne_loop hl3;cases e with
  |normal =>
   have e0:({{rec with state:=LoopState.busy}with state:=LoopState.ready,pending:=none}:Loop)=rec:=by
    cases rec;simp only at hs hpd;subst hs;subst hpd;rfl
   refine⟨_,_,run_endRound none hl3, .inl ⟨rfl,hq3.2,?_,m3,g1.putObj hm3,(g2.sub' hq3.1).putObj (fun e he=>hne e (hq3.1.subset he)),?_⟩⟩
   ·rw [World.putObj_heap_same (jw hl3)];exact congrArg (fun x=>some (Obj.loop x)) e0
   ·exact(show Obj.loop {{rec with state:=LoopState.busy}with state:=LoopState.ready,pending:=none} = .loop rec from congrArg _ e0)▸g3.around hl
  |ret =>
   obtain⟨H',hsub,hx⟩:=hq3;refine⟨_,_,run_endRound (some .ret) hl3, .inr ⟨rfl,?_,m3,H',g1.putObj hm3,(g2.sub' hsub).putObj (fun e he=>hne e (hsub.subset he)),g3.after,hm3,fun e he=>?_,hx⟩⟩
   ·rw [World.putObj_heap_same (jw hl3)];rfl
   ·have:=g4 e (hsub.subset he);simp only [World.putObj_size]at this;exact this
  |_=>exact hq3.elim
 |_=>exact hq1.elim
def WPE (P:Program) (C:Ctx) (n:Nat) (c:Code) (Post:Exit→Act→World→Prop) (F:Fr) (H:LH):Prop:=∀a w,St C n F H a w→c.wp P Post a w
theorem WPE.seq {x y:Code}(h:WP P C n x (et (fun F H=>WPE P C n y Post F H) Q) F H) (k:∀e a w,e≠ .normal→iD C n Q e a w→Post e a w):WPE P C n (.seq x y) Post F H:=by
 intro a w hs;unfold WP at h;refine wp_seq (wp_mono (h a w hs) ?_);rintro e a' w' (⟨F',H',hs',hq⟩|⟨ch,rfl,hp⟩)
 ·cases e with
  |normal=>exact hq a' w' hs'
  |_=>exact k _ _ _ (by intro e;cases e) (.inl ⟨F',H',hs',hq⟩)
 ·exact k _ _ _ (by intro e;cases e) (.inr ⟨ch,rfl,hp⟩)
theorem WPE.ahead {x y:Code}(h:WPE P C n x (Exit.then (fun a w=>y.wp P Post a w) Post) F H):WPE P C n (.seq x y) Post F H:=fun a w hs=>wp_seq (h a w hs)
theorem WPE.fin {c:Code}(h:WP P C n c Q F H) (k:∀e a w,iD C n Q e a w→Post e a w):WPE P C n c Post F H:=by
 unfold WP at h;exact fun a w hs=>wp_mono (h a w hs) k
structure RB (C C1:Ctx) (D:Nat):Prop where
 dfs:C1.dfs=⟨.collected D,#[]⟩::C.dfs
 pan:C1.pan=C.pan
 rel:Rel C.ks C.m C.w C1.m C1.w
 own:∀b∈C1.ks,b∈C.ks∨C.w.heap.size≤b
 mark:C1.w.heap[D]? = some (.deferred (some []))
 nd:D∉C1.ks
 mem:C1.m D=none
 ge:C.w.heap.size≤D
theorem HOk.frame {m m':Mem}{w w':World}{Rs G H':LH}{ks:List Nat}(h:HOk m w (Rs++G)) (h':HOk m' w' H') (r:Rel ks m w m' w') (hk:∀e∈Rs,e.1∉ks) (hn:∀e∈H',e.1∈keys G∨w.heap.size≤e.1):HOk m' w' (Rs++H'):=by
 refine⟨?_,fun e he=>?_⟩
 ·rw [List.map_append,List.nodup_append];have h0:=h.1;rw [List.map_append,List.nodup_append]at h0;refine⟨h0.1,h'.1,fun x hx y hy hxy=>?_⟩;obtain⟨e1,he1,rfl⟩:=List.mem_map.1 hx;obtain⟨e2,he2,rfl⟩:=List.mem_map.1 hy;rcases hn e2 he2 with g|g
  ·exact h0.2.2 _ (List.mem_map.2 ⟨e1,he1,rfl⟩) _ g hxy
  ·have:=(h.2 e1 (List.mem_append_left _ he1)).2.lt;omega
 ·rcases List.mem_append.1 he with g|g
  ·obtain⟨h1,hc⟩:=h.2 e (List.mem_append_left _ g);have hlt:=hc.lt;obtain⟨arr,h2,h3⟩:=hc;exact⟨(r.old _ hlt (hk e g)).trans h1,arr,(r.block _ hlt (hk e g)).trans h2,h3.mono r.le⟩
  ·exact h'.2 e g
theorem WPE.range {out gf:Nat}{g:Operand}{ps:List Nat}{assign body:Code}{caps:List SV}{ys:Nat→List SV}{N:Nat}{G Rs:LH}{Gx:LH→Prop}{T:Nat→Prop}(hg:ev F g=fnv gf [] caps) (hit:KT P gf caps ys N) (hp:H.Perm (Rs++G)) (hpl:∀i,i<N→ps.length=(ys i).length) (hpn:∀p∈ps,p<n)
  (hbody:∀(i:Nat) (l:Nat) (C:Ctx),i<N→C.ks=keys G→C.dfs=[]→(∀pv H,¬C.pan pv H)→WPX (some l) P C n assign (wV fun F' H'=>∀C2:Ctx,C2.ks=keys G→C2.dfs=[]→(∀pv H,¬C2.pan pv H)→WPX (some l) P C2 n body (JZ G Gx (T i)) F' H') (D5 F (ps.zip (ys i))) G)
  (k1:∀C1 D a w,(∀i,i<N→T i)→RB C C1 D→St C1 n F (Rs++G) a w→Post .normal a w) (k2:∀C1 D H' a w,RB C C1 D→Gx H'→St C1 n F (Rs++H') a w→Post .ret a w) :
  WPE P C n (.block out (.rangeFunc g ps.toArray assign body)) Post F H:=by
 intro a w hs;refine wp_block ((wpIn_wide (n:=2)).1 (wpIn_rangeFunc fun fn _=>?_));obtain⟨hdef,hn,m,h1,h2,h3,h4,h5⟩:=hs;have h2p:=h2.perm hp
 have hev:(ev F g).p m (a.eval g):=by
  cases g with
  |tmp t=>exact h5 t
  |const v=>unfold ev lit;rfl
  |global g=>unfold ev lit;rfl
  |func f=>unfold ev lit;rfl
 rw [hg]at hev;unfold fnv at hev;obtain⟨fa,ca,hev,hfa,hca⟩:=hev
 have hfa':fa = #[]:=by
  cases fa with
  |mk l=>cases l with
   |nil=>rfl
   |cons _ _=>exact hfa.elim
 subst hfa';obtain⟨rec,hrec⟩:∃rec:Loop,rec={state := .ready,pending:=none,fn,tmps:=a.tmps,params:=ps.toArray,assign,body,defers:=w.heap.size}:=⟨_,rfl⟩
 obtain⟨w1,hw1⟩:∃w1,(w.alloc (.deferred (some []))).alloc (.loop rec)=w1:=⟨_,rfl⟩
 have hsz1:w1.heap.size=w.heap.size+2:=by rw [←hw1,World.size_alloc,World.size_alloc]
 have hold:∀b,b<w.heap.size→w1.heap[b]? = w.heap[b]?:=fun b hb=>by
  rw [←hw1,heap_alloc_old _ _ b (by rw [World.size_alloc];omega),heap_alloc_old _ _ b hb]
 have hD1:w1.heap[w.heap.size]? = some (.deferred (some [])):=by
  rw [←hw1,heap_alloc_old _ _ _ (by rw [World.size_alloc];omega)];exact heap_alloc_new w _
 have hL1:w1.heap[w.heap.size+1]? = some (.loop rec):=by
  rw [←hw1];have:=heap_alloc_new (w.alloc (.deferred (some []))) (.loop rec);rwa [World.size_alloc]at this
 have hmlt:∀b o,m b=some o→b<w.heap.size:=fun b o hb=>jw (h1 b o hb)
 have hmD:m w.heap.size=none:=by
  cases hx:m w.heap.size with
  |none=>rfl
  |some o=>have:=hmlt _ _ hx;omega
 have hmL:m (w.heap.size+1)=none:=by
  cases hx:m (w.heap.size+1)with
  |none=>rfl
  |some o=>have:=hmlt _ _ hx;omega
 have hm1:aP m w1:=⟨fun b o hb=>by rw [hold b (hmlt b o hb)];exact h1 b o hb,h1.base⟩
 have hr1:Rel [] m w m w1:=⟨Mem.le_refl m,fun _ _ _=>rfl,by rw [←hw1];rfl,by rw [←hw1];rfl,by rw [←hw1];rfl,om,fun b hb _=>hold b hb⟩
 have hH1:HOk m w1 (Rs++G):=h2p.rel hr1 fun _ _=>by simp
 have hG1:HOk m w1 G:=hH1.sub' (List.sublist_append_right _ _);have hklt:∀e∈Rs++G,e.1<w.heap.size:=fun e he=>(h2p.2 e he).2.lt
 have hlk:w.heap.size+1∉keys G:=fun hk=>by
  obtain⟨e,he,hk⟩:=List.mem_map.1 hk;have:=hklt e (List.mem_append_right _ he);omega
 refine⟨w.heap.size+1,[{target := .collected w.heap.size,args := #[]}],w1,{target := .fn (.func gf) ca,args := #[.func (.yield (w.heap.size+1)) #[] #[]]},w1,gf,(Value.func (.yield (w.heap.size+1)) #[] #[]::ca.toList).toArray,w1,?_,?_,fun _ _=>trivial,?_,(fun e=>by cases e),?_⟩
 ·rw [←hw1,hrec];exact run_enterLoop_outer _ _ _ _ _
 ·simp only [resolve,hev];simp [go_sem]
 ·simp only [invoke,eL hit.1];congr 2
  apply Array.ext';simp
 ·refine sj (Calls.mono (hit.2 (w.heap.size+1) rec G Gx T m w1 ca.toList (by rw [hrec]) (by rw [hrec]) hm1 hG1 hmL hlk hL1 hca fun i hi=>?_) ?_)
  ·refine YOk.of (n:=n) (F:=F) (ps:=ps) (by rw [hrec]) (by rw [hrec]) (by rw [hrec]) (hpl i hi) hpn (by rw [hrec];exact hn) (by rw [hrec];exact h5) fun C e1 e2 e3=>?_
   have:=hbody i (w.heap.size+1) C hi e1 e2 e3;rw [hrec];exact this
  ·have hRs:∀e∈Rs,e.1∉keys G:=fun e he hk=>by
    have:=h2p.1;rw [List.map_append,List.nodup_append]at this;exact this.2.2 _ (List.mem_map.2 ⟨e,he,rfl⟩) _ hk rfl
   have hRs':∀e∈Rs,e.1∉(w.heap.size+1)::keys G:=fun e he hk=>by
    rcases List.mem_cons.1 hk with hk|hk
    ·have:=hklt e (List.mem_append_left _ he);omega
    ·exact hRs e he hk
   have hks:∀b,b<C.w.heap.size→b∈keys G→b∈C.ks:=fun b hb hk=>by
    obtain⟨e,he,rfl⟩:=List.mem_map.1 hk;rcases h4 e (hp.mem_iff.2 (List.mem_append_right _ he))with h|h
    ·exact h
    ·omega
   have hCw:=h3.size
   have mk:∀(w2:World) (m2:Mem) (H':LH) (o:Obj),aP m2 w2→HOk m2 w2 H'→Rel ((w.heap.size+1)::keys G) m w1 m2 w2→m2 (w.heap.size+1)=none→(∀e∈H',e.1∈keys G∨w1.heap.size≤e.1)→(∀e∈H',e.1≠w.heap.size+1)→
     RB C {ks:=keys (Rs++H'),m:=m2,w:=w2.putObj (w.heap.size+1) o,pan:=C.pan,dfs:=⟨.collected w.heap.size,#[]⟩::C.dfs} w.heap.size∧
     St {ks:=keys (Rs++H'),m:=m2,w:=w2.putObj (w.heap.size+1) o,pan:=C.pan,dfs:=⟨.collected w.heap.size,#[]⟩::C.dfs} n F (Rs++H') {a with defers:=[{target := .collected w.heap.size,args := #[]}]++a.defers} (w2.putObj (w.heap.size+1) o):=by
    intro w2 m2 H' o q1 q2 q3 q4 q5 q6;have hHn:HOk m2 w2 (Rs++H'):=hH1.frame q2 q3 hRs' q5
    have hall:∀e∈Rs++H',e.1≠w.heap.size+1:=fun e he=>by
     rcases List.mem_append.1 he with g|g
     ·have:=hklt e (List.mem_append_left _ g);omega
     ·exact q6 e g
    have hDk:w.heap.size∉(w.heap.size+1)::keys G:=fun hk=>by
     rcases List.mem_cons.1 hk with hk|hk
     ·omega
     ·obtain⟨e,he,hk⟩:=List.mem_map.1 hk;have:=hklt e (List.mem_append_right _ he);omega
    have hDne:w.heap.size≠w.heap.size+1:=by omega
    have hDat:(w2.putObj (w.heap.size+1) o).heap[w.heap.size]? = some (.deferred (some [])):=by
     rw [World.putObj_heap_other hDne,q3.block _ om hDk];exact hD1
    have hD2:m2 w.heap.size=none:=(q3.old _ om hDk).trans hmD;have hMn:aP m2 (w2.putObj (w.heap.size+1) o):=q1.putObj q4;have hHf:=hHn.putObj (o:=o) hall;refine⟨⟨rfl,rfl,?_,fun b hb=>?_,hDat,fun hk=>?_,hD2,hCw⟩,⟨by show _::a.defers=_::C.dfs;rw [hdef],hn,m2,hMn,hHf,Rel.refl _ _ _,fun e he => .inl (kT he),fun t=>(F t).mono q3.le (h5 t)⟩⟩
    ·refine((h3.trans hr1 fun b _ h=>by cases h).trans q3 fun b hb hk=>?_).trans Rel.putL fun b hb hk=>?_
     ·rcases List.mem_cons.1 hk with hk|hk
      ·omega
      ·exact hks b hb hk
     ·rw [List.mem_singleton.1 hk]at hb;omega
    ·obtain⟨e,he,rfl⟩:=List.mem_map.1 hb;rcases List.mem_append.1 he with g|g
     ·exact h4 e (hp.mem_iff.2 (List.mem_append_left _ g))
     ·rcases q5 e g with g|g
      ·obtain⟨e',he',g⟩:=List.mem_map.1 g;have:=h4 e' (hp.mem_iff.2 (List.mem_append_right _ he'));rw [g]at this;exact this
      ·exact .inr om
    ·obtain⟨e,he,hk⟩:=List.mem_map.1 hk;obtain⟨_,arr,hb,_⟩:=hHf.2 e he;rw [hk,hDat]at hb;cases hb
   rintro e w2 ⟨⟨v,rfl⟩,⟨hTT,hl2,m2,q1,q2,q3⟩|⟨hl2,m2,H',q1,q2,q3,q4,q5,q6⟩⟩
   ·have hne:=q2.ne_loop hl2;have hml2:m2 (w.heap.size+1)=none:=(q3.old _ om hlk).trans hmL;obtain⟨r1,r2⟩:=mk w2 m2 G (.loop {rec with state := .exhausted}) q1 q2 (q3.mono fun b hb=>Mc hb) hml2 (fun e he => .inl (kT he)) hne;exact⟨none,_,(run_endLoop (P:=P) hl2 (by rw [hrec];simp)).trans (congrArg (fun x=>Result.ok x (w2.putObj (w.heap.size+1) (.loop {rec with state := .exhausted}))) (show rec.pending=none by rw [hrec])),k1 _ _ _ _ hTT r1 r2⟩
   ·have hne:=q2.ne_loop hl2;obtain⟨r1,r2⟩:=mk w2 m2 H' (.loop {{rec with state := .done,pending:=some .ret}with state := .exhausted}) q1 q2 q3 q4 q5 hne;exact⟨some .ret,_,run_endLoop (P:=P) hl2 (by simp),wpIn_ret (k2 _ _ _ _ _ r1 q6 r2)⟩
end
section
variable {P:Program}{ops:Array Oper}{C:Ctx}{n:Nat}{F F':Fr}{H:LH}
attribute [local semireducible] WP WPL et kz Dk
end
abbrev Pq:=Rat×Rat
def rg (p q:Pq):Int:=if p.1=q.1 then(p.2-q.2).num.sign else(p.1-q.1).num.sign
def plt (p q:Pq):Bool:=decide (rg p q<0)
theorem tn {p q:Pq}:rg p q=0↔p=q:=by
 obtain⟨x,y⟩:=p;obtain⟨u,v⟩:=q;unfold rg;simp only [Prod.mk.injEq];split
 ·next h=>rw [e7];exact⟨fun e=>⟨h,e⟩,fun e=>e.2⟩
 ·next h=>rw [e7];exact⟨fun e=>absurd e h,fun e=>e.1⟩
def pat (out:List Pq) (p:Pq):Nat:=(out.takeWhile fun o=>plt o p).length
def lQ (out:List Pq) (p:Pq):List Pq:=if out[pat out p]? = some p then out else out.take (pat out p)++p::out.drop (pat out p)
def srt (l:List Pq):List Pq:=l.foldl lQ []
theorem Do (l:List Pq) (p:Pq):srt (l++[p])=lQ (srt l) p:=by unfold srt;rw [List.foldl_append];rfl
theorem Dn {l:List Pq}{k:Nat}{p:Pq}(h:l[k]? = some p):srt (l.take (k+1))=lQ (srt (l.take k)) p:=by
 obtain⟨h1,h2⟩:=List.getElem?_eq_some_iff.1 h;rw [List.take_succ_eq_append_getElem h1,h2,Do]
theorem J9 (out:List Pq) (p:Pq):pat out p≤out.length:=(List.takeWhile_sublist _).length_le
theorem pK {α:Type}{f:α→Bool}:∀{l:List α}{a:α},l[(l.takeWhile f).length]? = some a→f a=false
 | [],a,h=>by simp at h
 |b::l,a,h=>by
  rw [List.takeWhile_cons]at h;cases hb:f b with
  |true =>
   rw [if_pos hb]at h;exact pK (by simpa using h)
  |false =>
   rw [if_neg (by rw [hb];decide)]at h;simp at h;rw [←h];exact hb
theorem D8 {α:Type}{f:α→Bool}:∀{l:List α}{j:Nat}{a:α},l[j]? = some a→j<(l.takeWhile f).length→f a=true
 | [],j,a,h,_=>by simp at h
 |b::l,j,a,h,hj=>by
  rw [List.takeWhile_cons]at hj;cases hb:f b with
  |false=>rw [if_neg (by rw [hb];decide)]at hj;simp at hj
  |true =>
   rw [if_pos hb,List.length_cons]at hj;cases j with
   |zero=>simp at h;rw [←h];exact hb
   |succ j=>exact D8 (by simpa using h) om
theorem E4 {out:List Pq}{p o:Pq}{j:Nat}(hj:j≤pat out p) (ho:out[j]? = some o):(plt o p=true→j+1≤pat out p)∧(plt o p=false→j=pat out p):=by
 constructor
 ·intro h;rcases Nat.lt_or_ge j (pat out p)with hl|hl
  ·exact hl
  ·have e:j=pat out p:=by omega
   rw [e]at ho;have:=pK (f:=fun o=>plt o p) ho;rw [h]at this;cases this
 ·intro h;rcases Nat.lt_or_ge j (pat out p)with hl|hl
  ·have:=D8 (f:=fun o=>plt o p) ho hl;rw [h]at this;cases this
  ·omega
theorem DY (out:List Pq) (p:Pq):(lQ out p).length≤out.length+1:=by
 unfold lQ;split
 ·omega
 ·rw [List.length_append,List.length_cons,List.length_take,List.length_drop];omega
theorem zX:∀(l:List Pq),(srt l).length≤l.length:=by
 have h:∀(l out:List Pq),(l.foldl lQ out).length≤out.length+l.length:=by
  intro l;induction l with
  |nil=>intro out;simp
  |cons a l ih=>intro out;have:=ih (lQ out a);have:=DY out a;simp only [List.foldl_cons,List.length_cons];omega
 intro l;have:=h l [];simpa [srt] using this
theorem DX {out:List Pq}{p q:Pq}:q∈lQ out p↔q=p∨q∈out:=by
 unfold lQ;split
 ·next h =>
  have hm:=List.mem_of_getElem? h;constructor
  ·exact .inr
  ·rintro (rfl|h')
   ·exact hm
   ·exact h'
 ·rw [List.mem_append,List.mem_cons];constructor
  ·rintro (h|h|h)
   ·exact .inr (List.mem_of_mem_take h)
   ·exact .inl h
   ·exact .inr (List.mem_of_mem_drop h)
  ·rintro (h|h)
   ·exact .inr (.inl h)
   ·rw [←List.take_append_drop (pat out p) out,List.mem_append]at h;rcases h with h|h
    ·exact .inl h
    ·exact .inr (.inr h)
theorem zW (l:List Pq) (q:Pq):q∈srt l↔q∈l:=by
 have h:∀(l out:List Pq),q∈l.foldl lQ out↔q∈out∨q∈l:=by
  intro l;induction l with
  |nil=>intro out;simp
  |cons a l ih =>
   intro out;rw [List.foldl_cons,ih,DX,List.mem_cons];constructor
   ·rintro ((h|h)|h)
    ·exact .inr (.inl h)
    ·exact .inl h
    ·exact .inr (.inr h)
   ·rintro (h|h|h)
    ·exact .inl (.inr h)
    ·exact .inl (.inl h)
    ·exact .inr h
 unfold srt;rw [h];simp
def dst (l:List Pq):List Pq:=l.foldl (fun out p=>if p∈out then out else out++[p]) []
theorem tv {α:Type} [DecidableEq α]:∀{a b:List α},a.Nodup→(∀q∈a,q∈b)→a.length≤b.length
 | [],b,_,_=>Nat.zero_le _
 |x::a,b,h,hs=>by
  obtain⟨h1,h2⟩:=List.nodup_cons.1 h;have hx:=hs x Ms;have:=tv (b:=b.erase x) h2 fun q hq=>(List.mem_erase_of_ne (fun e=>h1 (by rw [←e];exact hq))).2 (hs q (Mc hq))
  rw [List.length_erase_of_mem hx]at this;have:0<b.length:=List.length_pos_of_mem hx;rw [List.length_cons];omega
end Go.Ab
