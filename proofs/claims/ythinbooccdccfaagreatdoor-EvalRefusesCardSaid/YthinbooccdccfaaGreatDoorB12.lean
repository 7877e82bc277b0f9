/- Texts laid one behind the other: RngB, Drw, RgM. -/
import Derived.Test.YthinbooccdccfaaGreatDoorB11
set_option linter.unusedSectionVars false
set_option linter.unusedVariables false
set_option linter.unusedSimpArgs false
namespace Go.Ab
open Go.Proofs
variable [Base]
def rndQ (G:LH) (Gx:LH→Prop) (T:Prop):Exit→Fr→LH→Prop
 | .normal,_,H=>G.Sublist H∧T
 | .ret,_,H=>∃H',H'.Sublist H∧Gx H'
 |_,_,_=>False
def onlyN (K:Fr→LH→Prop):Exit→Fr→LH→Prop
 | .normal,F,H=>K F H
 |_,_,_=>False
def YOk (P:Program) (l:Nat) (rec:Loop) (G:LH) (ys:List SV) (Gx:LH→Prop) (T:Prop) (m0:Mem):Prop :=
 ∀(m:Mem) (w:World) (vs:List Value),MemIn m w→HOk m w G→m0.le m→m l=none→l∉keys G→w.heap[l]? = some (.loop rec)→ArgsOk m ys vs→
  ∃fn tmps assign body,(Instr.yield l vs.toArray).run P w = .ok (.round l fn tmps assign body) w∧∀d,RoundIn (fe none) d P l fn tmps assign body w fun e w' =>
   (e = .returned (.bool true)∧T∧w'.heap[l]? = some (.loop rec)∧∃m',MemIn m' w'∧HOk m' w' G∧Rel (keys G) m w m' w')∨
   (e = .returned (.bool false)∧w'.heap[l]? = some (.loop {rec with state := .done,pending:=some .ret})∧∃m' H',MemIn m' w'∧HOk m' w' H'∧Rel (l::keys G) m w m' w'∧m' l=none∧(∀e∈H',e.1∈keys G∨w.heap.size≤e.1)∧Gx H')
def ItOk (P:Program) (gf:FuncId) (caps:List SV) (ys:Nat→List SV) (N:Nat):Prop :=
  bodied P gf=true∧∀(l:Nat) (rec:Loop) (G:LH) (Gx:LH→Prop) (T:Nat→Prop) (m:Mem) (w:World) (lb:List Value),rec.state = .ready→rec.pending=none→MemIn m w→HOk m w G→m l=none→l∉keys G→w.heap[l]? = some (.loop rec)→ArgsOk m caps lb→
    (∀i,i<N→YOk P l rec G (ys i) Gx (T i) m)→Calls P gf (Value.func (.yield l) #[] #[]::lb).toArray w fun e w'=>(∃v,e = .returned v)∧
      (((∀i,i<N→T i)∧w'.heap[l]? = some (.loop rec)∧∃m',MemIn m' w'∧HOk m' w' G∧Rel (keys G) m w m' w')∨
       (w'.heap[l]? = some (.loop {rec with state := .done,pending:=some .ret})∧∃m' H',MemIn m' w'∧HOk m' w' H'∧Rel (l::keys G) m w m' w'∧m' l=none∧(∀e∈H',e.1∈keys G∨w.heap.size≤e.1)∧Gx H'))
section
variable {P:Program}{C:Ctx}{n:Nat}{Q:Exit→Fr→LH→Prop}{F:Fr}{H:LH}{Post:Exit→Act→World→Prop}
attribute [local semireducible] WP WPL thenQ blkQ
theorem ArgsOk.len {m:Mem}:∀{ss:List SV}{vs:List Value},ArgsOk m ss vs→ss.length=vs.length
 | [],[],_=>rfl
 |_::_,_::_,h=>by rw [List.length_cons,List.length_cons,ArgsOk.len h.2]
 | [],_::_,h=>h.elim
 |_::_,[],h=>h.elim
theorem zip_fst {α β:Type}:∀(a:List α) (b:List β),a.length=b.length→(a.zip b).map (·.1)=a
 | [],[],_=>rfl
 |x::a,y::b,h=>by simp [zip_fst a b (by simpa using h)]
 | [],_::_,h=>by cases h
 |_::_,[],h=>by cases h
theorem zip_snd {α β:Type}:∀(a:List α) (b:List β),a.length=b.length→(a.zip b).map (·.2)=b
 | [],[],_=>rfl
 |x::a,y::b,h=>by simp [zip_snd a b (by simpa using h)]
 | [],_::_,h=>by cases h
 |_::_,[],h=>by cases h
theorem YOk.of {l:Nat}{rec:Loop}{G:LH}{ys:List SV}{Gx:LH→Prop}{T:Prop}{m0:Mem}{ps:List Nat}(hs:rec.state = .ready) (hpd:rec.pending=none) (hps:rec.params=ps.toArray) (hpl:ps.length=ys.length) (hpn:∀p∈ps,p<n) (hn:n≤rec.tmps.size)
  (hF:∀t,(F t).p m0 (rec.tmps.getD t undef))
  (h:∀C:Ctx,C.ks=keys G→C.dfs=[]→(∀pv H,¬C.pan pv H)→WPX (some l) P C n rec.assign (onlyN fun F' H'=>∀C2:Ctx,C2.ks=keys G→C2.dfs=[]→(∀pv H,¬C2.pan pv H)→WPX (some l) P C2 n rec.body (rndQ G Gx T) F' H') (updL F (ps.zip ys)) G) :
  YOk P l rec G ys Gx T m0:=by
 intro m w vs hm hH hle hml hlk hl hargs
 have hlen:=hargs.len
 have hlt:=lt_of_at hl
 have hpar:∀(X:Loop),X.params=ps.toArray→vs.toArray.size=X.params.size:=fun X hX=>by rw [hX];simp;omega
 refine⟨rec.fn,_,rec.assign,rec.body,run_yield hl (hpar rec hps),fun d=>roundIn_of_wpIn trivial ?_⟩
 have hst:St ⟨keys G,m,w,noX,[]⟩ n (updL F (ps.zip ys)) G {tmps:=(rec.params.zip vs.toArray).foldl (fun tmps (t,a)=>tmps.setIfInBounds t a) rec.tmps,defers:=[]} w:=by
  have hz:rec.params.zip vs.toArray=(ps.zip vs).toArray:=by rw [hps];simp
  have hsz:∀(l:List (Tmp×Value)) (t:Array Value),(l.foldl (fun tmps (x:Tmp×Value)=>tmps.setIfInBounds x.1 x.2) t).size=t.size:=fun l=>by
   induction l with
   |nil=>intro t;rfl
   |cons x l ih=>intro t;rw [List.foldl_cons,ih,Array.size_setIfInBounds]
  rw [hz]
  refine⟨rfl,by simp only [List.foldl_toArray'];rw [hsz];exact hn,m,hm,hH,Rel.refl _ _ _,fun e he => .inl (mem_keys he),fun t=>?_⟩
  have:=updL_ok (m:=m) (ps.zip ys) (ps.zip vs) F rec.tmps (by rw [zip_fst _ _ hpl,zip_fst _ _ (by omega)]) (by rw [zip_snd _ _ hpl,zip_snd _ _ (by omega)];exact hargs) (fun e he=>by
   have:=List.of_mem_zip (a:=e.1) (b:=e.2) he
   exact Nat.lt_of_lt_of_le (hpn _ this.1) hn) (fun t=>(F t).mono hle (hF t)) t
  simpa using this
 have h1:=h ⟨keys G,m,w,noX,[]⟩ rfl rfl (fun _ _ h=>h) _ _ hst d
 refine wpIn_mono h1 ?_
 rintro e a1 w1 (⟨F1,H1,hs1,hq1⟩|⟨ch,_,_,_,_,_,_,_,_,_,_,_,_,hx⟩)
 case inr=>exact hx.elim
 cases e with
 |normal =>
  have hl1:w1.heap[l]? = some (.loop rec):=by
   obtain⟨_,_,m1,_,_,h3,_⟩:=hs1
   exact(h3.block l hlt hlk).trans hl
  refine⟨_,run_beginRound hl1 hs,?_⟩
  have hs2:=hs1.putLoop (o := .loop {rec with state := .busy}) hml hl hlk
  refine wpIn_mono (hq1 _ rfl rfl (fun _ _ h=>h) _ _ hs2 d) ?_
  rintro e a3 w3 (⟨F3,H3,⟨_,_,m3,g1,g2,g3,g4,_⟩,hq3⟩|⟨ch,_,_,_,_,_,_,_,_,_,_,_,_,hx⟩)
  case inr=>exact hx.elim
  have hlt2:l<(w.putObj l (.loop {rec with state := .busy})).heap.size:=by rw [World.putObj_size];exact hlt
  have hm3:m3 l=none:=(g3.old l hlt2 hlk).trans hml
  have hl3:w3.heap[l]? = some (.loop {rec with state := .busy}):=(g3.block l hlt2 hlk).trans (World.putObj_heap_same hlt)
  have hne:=g2.ne_loop hl3
  cases e with
  |normal =>
   have e0:({{rec with state:=LoopState.busy}with state:=LoopState.ready,pending:=none}:Loop)=rec:=by
    cases rec;simp only at hs hpd;subst hs;subst hpd;rfl
   refine⟨_,_,run_endRound none hl3, .inl ⟨rfl,hq3.2,?_,m3,g1.putObj hm3,(g2.sub' hq3.1).putObj (fun e he=>hne e (hq3.1.subset he)),?_⟩⟩
   ·rw [World.putObj_heap_same (lt_of_at hl3)]
    exact congrArg (fun x=>some (Obj.loop x)) e0
   ·exact(show Obj.loop {{rec with state:=LoopState.busy}with state:=LoopState.ready,pending:=none} = .loop rec from congrArg _ e0)▸g3.around hl
  |ret =>
   obtain⟨H',hsub,hx⟩:=hq3
   refine⟨_,_,run_endRound (some .ret) hl3, .inr ⟨rfl,?_,m3,H',g1.putObj hm3,(g2.sub' hsub).putObj (fun e he=>hne e (hsub.subset he)),g3.after,hm3,fun e he=>?_,hx⟩⟩
   ·rw [World.putObj_heap_same (lt_of_at hl3)]
    rfl
   ·have:=g4 e (hsub.subset he)
    simp only [World.putObj_size]at this
    exact this
  |_=>exact hq3.elim
 |_=>exact hq1.elim
def WPE (P:Program) (C:Ctx) (n:Nat) (c:Code) (Post:Exit→Act→World→Prop) (F:Fr) (H:LH):Prop:=∀a w,St C n F H a w→c.wp P Post a w
theorem WPE.seq {x y:Code}(h:WP P C n x (thenQ (fun F H=>WPE P C n y Post F H) Q) F H) (k:∀e a w,e≠ .normal→liftQ C n Q e a w→Post e a w):WPE P C n (.seq x y) Post F H:=by
 intro a w hs
 unfold WP at h
 refine wp_seq (wp_mono (h a w hs) ?_)
 rintro e a' w' (⟨F',H',hs',hq⟩|⟨ch,rfl,hp⟩)
 ·cases e with
  |normal=>exact hq a' w' hs'
  |_=>exact k _ _ _ (by intro e;cases e) (.inl ⟨F',H',hs',hq⟩)
 ·exact k _ _ _ (by intro e;cases e) (.inr ⟨ch,rfl,hp⟩)
theorem WPE.ahead {x y:Code}(h:WPE P C n x (Exit.then (fun a w=>y.wp P Post a w) Post) F H):WPE P C n (.seq x y) Post F H:=fun a w hs=>wp_seq (h a w hs)
theorem WPE.fin {c:Code}(h:WP P C n c Q F H) (k:∀e a w,liftQ C n Q e a w→Post e a w):WPE P C n c Post F H:=by
 unfold WP at h
 exact fun a w hs=>wp_mono (h a w hs) k
structure RB (C C1:Ctx) (D:Nat):Prop where
 dfs:C1.dfs=⟨.collected D,#[]⟩::C.dfs
 pan:C1.pan=C.pan
 rel:Rel C.ks C.m C.w C1.m C1.w
 own:∀b∈C1.ks,b∈C.ks∨C.w.heap.size≤b
 mark:C1.w.heap[D]? = some (.deferred (some []))
 nd:D∉C1.ks
 mem:C1.m D=none
 ge:C.w.heap.size≤D
theorem HOk.frame {m m':Mem}{w w':World}{Rs G H':LH}{ks:List Nat}(h:HOk m w (Rs++G)) (h':HOk m' w' H') (r:Rel ks m w m' w') (hk:∀e∈Rs,e.1∉ks) (hn:∀e∈H',e.1∈keys G∨w.heap.size≤e.1):HOk m' w' (Rs++H'):=by
 refine⟨?_,fun e he=>?_⟩
 ·rw [List.map_append,List.nodup_append]
  have h0:=h.1
  rw [List.map_append,List.nodup_append]at h0
  refine⟨h0.1,h'.1,fun x hx y hy hxy=>?_⟩
  obtain⟨e1,he1,rfl⟩:=List.mem_map.1 hx
  obtain⟨e2,he2,rfl⟩:=List.mem_map.1 hy
  rcases hn e2 he2 with g|g
  ·exact h0.2.2 _ (List.mem_map.2 ⟨e1,he1,rfl⟩) _ g hxy
  ·have:=(h.2 e1 (List.mem_append_left _ he1)).2.lt
   omega
 ·rcases List.mem_append.1 he with g|g
  ·obtain⟨h1,hc⟩:=h.2 e (List.mem_append_left _ g)
   have hlt:=hc.lt
   obtain⟨arr,h2,h3⟩:=hc
   exact⟨(r.old _ hlt (hk e g)).trans h1,arr,(r.block _ hlt (hk e g)).trans h2,h3.mono r.le⟩
  ·exact h'.2 e g
theorem WPE.range {out gf:Nat}{g:Operand}{ps:List Nat}{assign body:Code}{caps:List SV}{ys:Nat→List SV}{N:Nat}{G Rs:LH}{Gx:LH→Prop}{T:Nat→Prop}(hg:ev F g=fnv gf [] caps) (hit:ItOk P gf caps ys N) (hp:H.Perm (Rs++G)) (hpl:∀i,i<N→ps.length=(ys i).length) (hpn:∀p∈ps,p<n)
  (hbody:∀(i:Nat) (l:Nat) (C:Ctx),i<N→C.ks=keys G→C.dfs=[]→(∀pv H,¬C.pan pv H)→WPX (some l) P C n assign (onlyN fun F' H'=>∀C2:Ctx,C2.ks=keys G→C2.dfs=[]→(∀pv H,¬C2.pan pv H)→WPX (some l) P C2 n body (rndQ G Gx (T i)) F' H') (updL F (ps.zip (ys i))) G)
  (k1:∀C1 D a w,(∀i,i<N→T i)→RB C C1 D→St C1 n F (Rs++G) a w→Post .normal a w) (k2:∀C1 D H' a w,RB C C1 D→Gx H'→St C1 n F (Rs++H') a w→Post .ret a w) :
  WPE P C n (.block out (.rangeFunc g ps.toArray assign body)) Post F H:=by
 intro a w hs
 refine wp_block ((wpIn_wide (n:=2)).1 (wpIn_rangeFunc fun fn _=>?_))
 obtain⟨hdef,hn,m,h1,h2,h3,h4,h5⟩:=hs
 have h2p:=h2.perm hp
 have hev:(ev F g).p m (a.eval g):=by
  cases g with
  |tmp t=>exact h5 t
  |const v=>unfold ev lit;rfl
  |global g=>unfold ev lit;rfl
  |func f=>unfold ev lit;rfl
 rw [hg]at hev
 unfold fnv at hev
 obtain⟨fa,ca,hev,hfa,hca⟩:=hev
 have hfa':fa = #[]:=by
  cases fa with
  |mk l=>cases l with
   |nil=>rfl
   |cons _ _=>exact hfa.elim
 subst hfa'
 obtain⟨rec,hrec⟩:∃rec:Loop,rec={state := .ready,pending:=none,fn,tmps:=a.tmps,params:=ps.toArray,assign,body,defers:=w.heap.size}:=⟨_,rfl⟩
 obtain⟨w1,hw1⟩:∃w1,(w.alloc (.deferred (some []))).alloc (.loop rec)=w1:=⟨_,rfl⟩
 have hsz1:w1.heap.size=w.heap.size+2:=by rw [←hw1,World.size_alloc,World.size_alloc]
 have hold:∀b,b<w.heap.size→w1.heap[b]? = w.heap[b]?:=fun b hb=>by
  rw [←hw1,heap_alloc_old _ _ b (by rw [World.size_alloc];omega),heap_alloc_old _ _ b hb]
 have hD1:w1.heap[w.heap.size]? = some (.deferred (some [])):=by
  rw [←hw1,heap_alloc_old _ _ _ (by rw [World.size_alloc];omega)]
  exact heap_alloc_new w _
 have hL1:w1.heap[w.heap.size+1]? = some (.loop rec):=by
  rw [←hw1]
  have:=heap_alloc_new (w.alloc (.deferred (some []))) (.loop rec)
  rwa [World.size_alloc]at this
 have hmlt:∀b o,m b=some o→b<w.heap.size:=fun b o hb=>lt_of_at (h1 b o hb)
 have hmD:m w.heap.size=none:=by
  cases hx:m w.heap.size with
  |none=>rfl
  |some o=>have:=hmlt _ _ hx;omega
 have hmL:m (w.heap.size+1)=none:=by
  cases hx:m (w.heap.size+1)with
  |none=>rfl
  |some o=>have:=hmlt _ _ hx;omega
 have hm1:MemIn m w1:=⟨fun b o hb=>by rw [hold b (hmlt b o hb)];exact h1 b o hb,h1.base⟩
 have hr1:Rel [] m w m w1:=⟨Mem.le_refl m,fun _ _ _=>rfl,by rw [←hw1];rfl,by rw [←hw1];rfl,by rw [←hw1];rfl,by omega,fun b hb _=>hold b hb⟩
 have hH1:HOk m w1 (Rs++G):=h2p.rel hr1 fun _ _=>by simp
 have hG1:HOk m w1 G:=hH1.sub' (List.sublist_append_right _ _)
 have hklt:∀e∈Rs++G,e.1<w.heap.size:=fun e he=>(h2p.2 e he).2.lt
 have hlk:w.heap.size+1∉keys G:=fun hk=>by
  obtain⟨e,he,hk⟩:=List.mem_map.1 hk
  have:=hklt e (List.mem_append_right _ he)
  omega
 refine⟨w.heap.size+1,[{target := .collected w.heap.size,args := #[]}],w1,{target := .fn (.func gf) ca,args := #[.func (.yield (w.heap.size+1)) #[] #[]]},w1,gf,(Value.func (.yield (w.heap.size+1)) #[] #[]::ca.toList).toArray,w1,?_,?_,fun _ _=>trivial,?_,(fun e=>by cases e),?_⟩
 ·rw [←hw1,hrec];exact run_enterLoop_outer _ _ _ _ _
 ·simp only [resolve,hev]
  simp [go_sem]
 ·simp only [invoke,run_callFunc hit.1]
  congr 2
  apply Array.ext';simp
 ·refine callsIn_fe (Calls.mono (hit.2 (w.heap.size+1) rec G Gx T m w1 ca.toList (by rw [hrec]) (by rw [hrec]) hm1 hG1 hmL hlk hL1 hca fun i hi=>?_) ?_)
  ·refine YOk.of (n:=n) (F:=F) (ps:=ps) (by rw [hrec]) (by rw [hrec]) (by rw [hrec]) (hpl i hi) hpn (by rw [hrec];exact hn) (by rw [hrec];exact h5) fun C e1 e2 e3=>?_
   have:=hbody i (w.heap.size+1) C hi e1 e2 e3
   rw [hrec]
   exact this
  ·have hRs:∀e∈Rs,e.1∉keys G:=fun e he hk=>by
    have:=h2p.1
    rw [List.map_append,List.nodup_append]at this
    exact this.2.2 _ (List.mem_map.2 ⟨e,he,rfl⟩) _ hk rfl
   have hRs':∀e∈Rs,e.1∉(w.heap.size+1)::keys G:=fun e he hk=>by
    rcases List.mem_cons.1 hk with hk|hk
    ·have:=hklt e (List.mem_append_left _ he)
     omega
    ·exact hRs e he hk
   have hks:∀b,b<C.w.heap.size→b∈keys G→b∈C.ks:=fun b hb hk=>by
    obtain⟨e,he,rfl⟩:=List.mem_map.1 hk
    rcases h4 e (hp.mem_iff.2 (List.mem_append_right _ he))with h|h
    ·exact h
    ·omega
   have hCw:=h3.size
   have mk:∀(w2:World) (m2:Mem) (H':LH) (o:Obj),MemIn m2 w2→HOk m2 w2 H'→Rel ((w.heap.size+1)::keys G) m w1 m2 w2→m2 (w.heap.size+1)=none→(∀e∈H',e.1∈keys G∨w1.heap.size≤e.1)→(∀e∈H',e.1≠w.heap.size+1)→
     RB C {ks:=keys (Rs++H'),m:=m2,w:=w2.putObj (w.heap.size+1) o,pan:=C.pan,dfs:=⟨.collected w.heap.size,#[]⟩::C.dfs} w.heap.size∧
     St {ks:=keys (Rs++H'),m:=m2,w:=w2.putObj (w.heap.size+1) o,pan:=C.pan,dfs:=⟨.collected w.heap.size,#[]⟩::C.dfs} n F (Rs++H') {a with defers:=[{target := .collected w.heap.size,args := #[]}]++a.defers} (w2.putObj (w.heap.size+1) o):=by
    intro w2 m2 H' o q1 q2 q3 q4 q5 q6
    have hHn:HOk m2 w2 (Rs++H'):=hH1.frame q2 q3 hRs' q5
    have hall:∀e∈Rs++H',e.1≠w.heap.size+1:=fun e he=>by
     rcases List.mem_append.1 he with g|g
     ·have:=hklt e (List.mem_append_left _ g);omega
     ·exact q6 e g
    have hDk:w.heap.size∉(w.heap.size+1)::keys G:=fun hk=>by
     rcases List.mem_cons.1 hk with hk|hk
     ·omega
     ·obtain⟨e,he,hk⟩:=List.mem_map.1 hk
      have:=hklt e (List.mem_append_right _ he)
      omega
    have hDne:w.heap.size≠w.heap.size+1:=by omega
    have hDat:(w2.putObj (w.heap.size+1) o).heap[w.heap.size]? = some (.deferred (some [])):=by
     rw [World.putObj_heap_other hDne,q3.block _ (by omega) hDk];exact hD1
    have hD2:m2 w.heap.size=none:=(q3.old _ (by omega) hDk).trans hmD
    have hMn:MemIn m2 (w2.putObj (w.heap.size+1) o):=q1.putObj q4
    have hHf:=hHn.putObj (o:=o) hall
    refine⟨⟨rfl,rfl,?_,fun b hb=>?_,hDat,fun hk=>?_,hD2,hCw⟩,⟨by show _::a.defers=_::C.dfs;rw [hdef],hn,m2,hMn,hHf,Rel.refl _ _ _,fun e he => .inl (mem_keys he),fun t=>(F t).mono q3.le (h5 t)⟩⟩
    ·refine((h3.trans hr1 fun b _ h=>by cases h).trans q3 fun b hb hk=>?_).trans Rel.putL fun b hb hk=>?_
     ·rcases List.mem_cons.1 hk with hk|hk
      ·omega
      ·exact hks b hb hk
     ·rw [List.mem_singleton.1 hk]at hb;omega
    ·obtain⟨e,he,rfl⟩:=List.mem_map.1 hb
     rcases List.mem_append.1 he with g|g
     ·exact h4 e (hp.mem_iff.2 (List.mem_append_left _ g))
     ·rcases q5 e g with g|g
      ·obtain⟨e',he',g⟩:=List.mem_map.1 g
       have:=h4 e' (hp.mem_iff.2 (List.mem_append_right _ he'))
       rw [g]at this;exact this
      ·exact .inr (by omega)
    ·obtain⟨e,he,hk⟩:=List.mem_map.1 hk
     obtain⟨_,arr,hb,_⟩:=hHf.2 e he
     rw [hk,hDat]at hb
     cases hb
   rintro e w2 ⟨⟨v,rfl⟩,⟨hTT,hl2,m2,q1,q2,q3⟩|⟨hl2,m2,H',q1,q2,q3,q4,q5,q6⟩⟩
   ·have hne:=q2.ne_loop hl2
    have hml2:m2 (w.heap.size+1)=none:=(q3.old _ (by omega) hlk).trans hmL
    obtain⟨r1,r2⟩:=mk w2 m2 G (.loop {rec with state := .exhausted}) q1 q2 (q3.mono fun b hb=>List.mem_cons_of_mem _ hb) hml2 (fun e he => .inl (mem_keys he)) hne
    exact⟨none,_,(run_endLoop (P:=P) hl2 (by rw [hrec];simp)).trans (congrArg (fun x=>Result.ok x (w2.putObj (w.heap.size+1) (.loop {rec with state := .exhausted}))) (show rec.pending=none by rw [hrec])),k1 _ _ _ _ hTT r1 r2⟩
   ·have hne:=q2.ne_loop hl2
    obtain⟨r1,r2⟩:=mk w2 m2 H' (.loop {{rec with state := .done,pending:=some .ret}with state := .exhausted}) q1 q2 q3 q4 q5 hne
    exact⟨some .ret,_,run_endLoop (P:=P) hl2 (by simp),wpIn_ret (k2 _ _ _ _ _ r1 q6 r2)⟩
end
section
variable {P:Program}{ops:Array Oper}{C:Ctx}{n:Nat}{F F':Fr}{H:LH}
attribute [local semireducible] WP WPL thenQ blkQ Dk
end
abbrev Pq:=Rat×Rat
def dst (l:List Pq):List Pq:=l.foldl (fun out p=>if p∈out then out else out++[p]) []
end Go.Ab
