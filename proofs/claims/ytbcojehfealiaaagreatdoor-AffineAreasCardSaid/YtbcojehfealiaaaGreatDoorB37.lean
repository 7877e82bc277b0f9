/- Texts laid one behind the other: RngS, MsB, DrwM, LateX. -/
import Derived.Test.YtbcojehfealiaaaGreatDoorB36
set_option linter.all false
set_option maxHeartbeats 16000000
namespace Go.Ab
open Go.Proofs
variable [Base]
def L1 (G':LH):Exit→Fr→LH→Prop
 | .normal,_,H=>G'.Sublist H
 |_,_,_=>False
def J5 (P:Program) (l:Nat) (rec:Loop) (G G':LH) (ys:List SV) (m0:Mem):Prop :=
 ∀(m:Mem) (w:World) (vs:List Value),aU m w→HOk m w G→m0.le m→m l=none→l∉keys G→w.heap[l]? = some (.loop rec)→bn m ys vs→
  ∃fn tmps assign body,(Instr.yield l vs.toArray).run P w = .ok (.round l fn tmps assign body) w∧∀d,RoundIn (fe none) d P l fn tmps assign body w fun e w' =>
   e = .returned (.bool true)∧w'.heap[l]? = some (.loop rec)∧∃m',aU m' w'∧HOk m' w' G'∧Rel (keys G) m w m' w'
def yf (P:Program) (gf:FuncId) (caps:List SV) (ys:Nat→List SV) (N:Nat):Prop :=
 fY P gf=true∧∀(l:Nat) (rec:Loop) (G:Nat→LH) (m:Mem) (w:World) (lb:List Value),(∀i,keys (G i)=keys (G 0))→rec.state = .ready→rec.pending=none→aU m w→HOk m w (G 0)→m l=none→l∉keys (G 0)→w.heap[l]? = some (.loop rec)→bn m caps lb→
  (∀i,i<N→J5 P l rec (G i) (G (i+1)) (ys i) m)→Calls P gf (Value.func (.yield l) #[] #[]::lb).toArray w fun e w'=>(∃v,e = .returned v)∧
   w'.heap[l]? = some (.loop rec)∧∃m',aU m' w'∧HOk m' w' (G N)∧Rel (keys (G 0)) m w m' w'
section
variable {P:Program}{C:Ctx}{n:Nat}{Q:Exit→Fr→LH→Prop}{F:Fr}{H:LH}{Post:Exit→Act→World→Prop}
attribute [local semireducible] WP WPL dW iM
theorem J5.of {l:Nat}{rec:Loop}{G G':LH}{ys:List SV}{m0:Mem}{ps:List Nat}(hs:rec.state = .ready) (hpd:rec.pending=none) (hps:rec.params=ps.toArray) (hpl:ps.length=ys.length) (hpn:∀p∈ps,p<n) (hn:n≤rec.tmps.size)
  (hF:∀t,(F t).p m0 (rec.tmps.getD t undef))
  (h:∀C:Ctx,C.ks=keys G→C.dfs=[]→(∀pv H,¬C.pan pv H)→WPX (some l) P C n rec.assign (fO fun F' H'=>∀C2:Ctx,C2.ks=keys G→C2.dfs=[]→(∀pv H,¬C2.pan pv H)→WPX (some l) P C2 n rec.body (L1 G') F' H') (Dy F (ps.zip ys)) G) :
  J5 P l rec G G' ys m0:=by
 intro m w vs hm hH hle hml hlk hl hargs;have hlen:=hargs.len;have hlt:=iD hl;have hpar:∀(X:Loop),X.params=ps.toArray→vs.toArray.size=X.params.size:=fun X hX=>by rw [hX];simp;omega
 refine⟨rec.fn,_,rec.assign,rec.body,run_yield hl (hpar rec hps),fun d=>roundIn_of_wpIn trivial ?_⟩
 have hst:St ⟨keys G,m,w,noX,[]⟩ n (Dy F (ps.zip ys)) G {tmps:=(rec.params.zip vs.toArray).foldl (fun tmps (t,a)=>tmps.setIfInBounds t a) rec.tmps,defers:=[]} w:=by
  have hz:rec.params.zip vs.toArray=(ps.zip vs).toArray:=by rw [hps];simp
  have hsz:∀(l:List (Tmp×Value)) (t:Array Value),(l.foldl (fun tmps (x:Tmp×Value)=>tmps.setIfInBounds x.1 x.2) t).size=t.size:=fun l=>by
   induction l with
   |nil=>intro t;rfl
   |cons x l ih=>intro t;rw [List.foldl_cons,ih,Array.size_setIfInBounds]
  rw [hz];refine⟨rfl,by simp only [List.foldl_toArray'];rw [hsz];exact hn,m,hm,hH,Rel.refl _ _ _,fun e he => .inl (gJ he),fun t=>?_⟩
  have:=A6 (m:=m) (ps.zip ys) (ps.zip vs) F rec.tmps (by rw [uv _ _ hpl,uv _ _ om]) (by rw [ut _ _ hpl,ut _ _ om];exact hargs) (fun e he=>by
   have:=List.of_mem_zip (a:=e.1) (b:=e.2) he;exact Nat.lt_of_lt_of_le (hpn _ this.1) hn) (fun t=>(F t).mono hle (hF t)) t
  simpa using this
 have h1:=h ⟨keys G,m,w,noX,[]⟩ rfl rfl (fun _ _ h=>h) _ _ hst d;refine wpIn_mono h1 ?_;rintro e a1 w1 (⟨F1,H1,hs1,hq1⟩|⟨ch,_,_,_,_,_,_,_,_,_,_,_,_,hx⟩);case inr=>exact hx.elim
 cases e with
 |normal =>
  have hl1:w1.heap[l]? = some (.loop rec):=by
   obtain⟨_,_,m1,_,_,h3,_⟩:=hs1;exact(h3.block l hlt hlk).trans hl
  refine⟨_,run_beginRound hl1 hs,?_⟩;have hs2:=hs1.putLoop (o := .loop {rec with state := .busy}) hml hl hlk;refine wpIn_mono (hq1 _ rfl rfl (fun _ _ h=>h) _ _ hs2 d) ?_;rintro e a3 w3 (⟨F3,H3,⟨_,_,m3,g1,g2,g3,g4,_⟩,hq3⟩|⟨ch,_,_,_,_,_,_,_,_,_,_,_,_,hx⟩);case inr=>exact hx.elim
  have hlt2:l<(w.putObj l (.loop {rec with state := .busy})).heap.size:=by rw [World.putObj_size];exact hlt
  have hm3:m3 l=none:=(g3.old l hlt2 hlk).trans hml;have hl3:w3.heap[l]? = some (.loop {rec with state := .busy}):=(g3.block l hlt2 hlk).trans (World.putObj_heap_same hlt);have hne:=g2.ne_loop hl3;cases e with
  |normal =>
   have e0:({{rec with state:=LoopState.busy}with state:=LoopState.ready,pending:=none}:Loop)=rec:=by
    cases rec;simp only at hs hpd;subst hs;subst hpd;rfl
   have hq3:G'.Sublist H3:=hq3;refine⟨_,_,run_endRound none hl3,rfl,?_,m3,g1.putObj hm3,(g2.sub' hq3).putObj (fun e he=>hne e (hq3.subset he)),?_⟩
   ·rw [World.putObj_heap_same (iD hl3)];exact congrArg (fun x=>some (Obj.loop x)) e0
   ·exact(show Obj.loop {{rec with state:=LoopState.busy}with state:=LoopState.ready,pending:=none} = .loop rec from congrArg _ e0)▸g3.around hl
  |_=>exact hq3.elim
 |_=>exact hq1.elim
theorem WPE.rangeS {out gf:Nat}{g:Operand}{ps:List Nat}{assign body:Code}{caps:List SV}{ys:Nat→List SV}{N:Nat}{G:Nat→LH}{Rs:LH}(hg:ev F g=fnv gf [] caps) (hit:yf P gf caps ys N) (hkG:∀i,keys (G i)=keys (G 0)) (hp:H.Perm (Rs++G 0)) (hpl:∀i,i<N→ps.length=(ys i).length) (hpn:∀p∈ps,p<n)
  (hbody:∀(i:Nat) (l:Nat) (C:Ctx),i<N→C.ks=keys (G i)→C.dfs=[]→(∀pv H,¬C.pan pv H)→WPX (some l) P C n assign (fO fun F' H'=>∀C2:Ctx,C2.ks=keys (G i)→C2.dfs=[]→(∀pv H,¬C2.pan pv H)→WPX (some l) P C2 n body (L1 (G (i+1))) F' H') (Dy F (ps.zip (ys i))) (G i))
  (k1:∀C1 D a w,RB C C1 D→St C1 n F (Rs++G N) a w→Post .normal a w) :
  WPE P C n (.block out (.rangeFunc g ps.toArray assign body)) Post F H:=by
 intro a w hs;refine wp_block ((wpIn_wide (n:=2)).1 (wpIn_rangeFunc fun fn _=>?_));obtain⟨hdef,hn,m,h1,h2,h3,h4,h5⟩:=hs;have h2p:=h2.perm hp
 have hev:(ev F g).p m (a.eval g):=by
  cases g with
  |tmp t=>exact h5 t
  |const v=>unfold ev lit;rfl
  |global g=>unfold ev lit;rfl
  |func f=>unfold ev lit;rfl
 rw [hg]at hev;unfold fnv at hev;obtain⟨fa,ca,hev,hfa,hca⟩:=hev
 have hfa':fa = #[]:=by
  cases fa with
  |mk l=>cases l with
   |nil=>rfl
   |cons _ _=>exact hfa.elim
 subst hfa';obtain⟨rec,hrec⟩:∃rec:Loop,rec={state := .ready,pending:=none,fn,tmps:=a.tmps,params:=ps.toArray,assign,body,defers:=w.heap.size}:=⟨_,rfl⟩
 obtain⟨w1,hw1⟩:∃w1,(w.alloc (.deferred (some []))).alloc (.loop rec)=w1:=⟨_,rfl⟩
 have hsz1:w1.heap.size=w.heap.size+2:=by rw [←hw1,World.size_alloc,World.size_alloc]
 have hold:∀b,b<w.heap.size→w1.heap[b]? = w.heap[b]?:=fun b hb=>by
  rw [←hw1,@heap_alloc_old _ _ b (by rw [World.size_alloc];omega),@heap_alloc_old _ _ b hb]
 have hD1:w1.heap[w.heap.size]? = some (.deferred (some [])):=by
  rw [←hw1,@heap_alloc_old _ _ _ (by rw [World.size_alloc];omega)];exact heap_alloc_new w _
 have hL1:w1.heap[w.heap.size+1]? = some (.loop rec):=by
  rw [←hw1];have:=heap_alloc_new (w.alloc (.deferred (some []))) (.loop rec);rwa [World.size_alloc]at this
 have hmlt:∀b o,m b=some o→b<w.heap.size:=fun b o hb=>iD (h1 b o hb)
 have hmD:m w.heap.size=none:=by
  cases hx:m w.heap.size with
  |none=>rfl
  |some o=>have:=hmlt _ _ hx;omega
 have hmL:m (w.heap.size+1)=none:=by
  cases hx:m (w.heap.size+1)with
  |none=>rfl
  |some o=>have:=hmlt _ _ hx;omega
 have hm1:aU m w1:=⟨fun b o hb=>by rw [hold b (hmlt b o hb)];exact h1 b o hb,h1.base⟩
 have hr1:Rel [] m w m w1:=⟨Mem.le_refl m,fun _ _ _=>rfl,by rw [←hw1];rfl,by rw [←hw1];rfl,⟨by rw [←hw1];rfl,by rw [←hw1];exact Nat.le_refl _⟩,om,fun b hb _=>hold b hb⟩
 have hH1:HOk m w1 (Rs++G 0):=h2p.rel hr1 fun _ _=>by simp
 have hG1:HOk m w1 (G 0):=hH1.sub' (List.sublist_append_right _ _);have hklt:∀e∈Rs++G 0,e.1<w.heap.size:=fun e he=>(h2p.2 e he).2.lt
 have hlk:w.heap.size+1∉keys (G 0):=fun hk=>by
  obtain⟨e,he,hk⟩:=List.mem_map.1 hk;have:=hklt e (List.mem_append_right _ he);omega
 refine⟨w.heap.size+1,[{target := .collected w.heap.size,args := #[]}],w1,{target := .fn (.func gf) ca,args := #[.func (.yield (w.heap.size+1)) #[] #[]]},w1,gf,(Value.func (.yield (w.heap.size+1)) #[] #[]::ca.toList).toArray,w1,?_,?_,fun _ _=>trivial,?_,(fun e=>by cases e),?_⟩
 ·rw [←hw1,hrec];exact run_enterLoop_outer _ _ _ _ _
 ·simp only [resolve,hev];simp [go_sem]
 ·simp only [invoke,dX hit.1];congr 2
  apply Array.ext';simp
 ·refine sD (Calls.mono (hit.2 (w.heap.size+1) rec G m w1 ca.toList hkG (by rw [hrec]) (by rw [hrec]) hm1 hG1 hmL hlk hL1 hca fun i hi=>?_) ?_)
  ·refine J5.of (n:=n) (F:=F) (ps:=ps) (by rw [hrec]) (by rw [hrec]) (by rw [hrec]) (hpl i hi) hpn (by rw [hrec];exact hn) (by rw [hrec];exact h5) fun C e1 e2 e3=>?_
   have:=hbody i (w.heap.size+1) C hi e1 e2 e3;rw [hrec];exact this
  ·have hRs:∀e∈Rs,e.1∉keys (G 0):=fun e he hk=>by
    have:=h2p.1;rw [List.map_append,List.nodup_append]at this;exact this.2.2 _ (List.mem_map.2 ⟨e,he,rfl⟩) _ hk rfl
   have hks:∀b,b<C.w.heap.size→b∈keys (G 0)→b∈C.ks:=fun b hb hk=>by
    obtain⟨e,he,rfl⟩:=List.mem_map.1 hk;rcases h4 e (hp.mem_iff.2 (List.mem_append_right _ he))with h|h
    ·exact h
    ·omega
   have hCw:=h3.size;rintro e w2 ⟨⟨v,rfl⟩,hl2,m2,q1,q2,q3⟩;have q6:=q2.ne_loop hl2;have q4:m2 (w.heap.size+1)=none:=(q3.old _ om hlk).trans hmL;have q5:∀e∈G N,e.1∈keys (G 0)∨w1.heap.size≤e.1:=fun e he => .inl (by rw [←hkG N];exact gJ he)
   have hHn:HOk m2 w2 (Rs++G N):=hH1.frame q2 q3 hRs q5
   have hall:∀e∈Rs++G N,e.1≠w.heap.size+1:=fun e he=>by
    rcases List.mem_append.1 he with g|g
    ·have:=hklt e (List.mem_append_left _ g);omega
    ·exact q6 e g
   have hDk:w.heap.size∉keys (G 0):=fun hk=>by
    obtain⟨e,he,hk⟩:=List.mem_map.1 hk;have:=hklt e (List.mem_append_right _ he);omega
   have hDne:w.heap.size≠w.heap.size+1:=by omega
   obtain⟨o,ho⟩:∃o:Obj,o = .loop {rec with state := .exhausted}:=⟨_,rfl⟩
   have hDat:(w2.putObj (w.heap.size+1) o).heap[w.heap.size]? = some (.deferred (some [])):=by
    rw [World.putObj_heap_other hDne,q3.block _ om hDk];exact hD1
   have hD2:m2 w.heap.size=none:=(q3.old _ om hDk).trans hmD;have hMn:aU m2 (w2.putObj (w.heap.size+1) o):=q1.putObj q4;have hHf:=hHn.putObj (o:=o) hall
   have rb:RB C {ks:=keys (Rs++G N),m:=m2,w:=w2.putObj (w.heap.size+1) o,pan:=C.pan,dfs:=⟨.collected w.heap.size,#[]⟩::C.dfs} w.heap.size:=by
    refine⟨rfl,rfl,?_,fun b hb=>?_,hDat,fun hk=>?_,hD2,hCw⟩
    ·refine((h3.trans hr1 fun b _ h=>by cases h).trans q3 fun b hb hk=>hks b hb hk).trans Rel.putL fun b hb hk=>?_
     rw [List.mem_singleton.1 hk]at hb;omega
    ·obtain⟨e,he,rfl⟩:=List.mem_map.1 hb;rcases List.mem_append.1 he with g|g
     ·exact h4 e (hp.mem_iff.2 (List.mem_append_left _ g))
     ·rcases q5 e g with g|g
      ·obtain⟨e',he',g⟩:=List.mem_map.1 g;have:=h4 e' (hp.mem_iff.2 (List.mem_append_right _ he'));rw [g]at this;exact this
      ·exact .inr om
    ·obtain⟨e,he,hk⟩:=List.mem_map.1 hk;obtain⟨_,arr,hb,_⟩:=hHf.2 e he;rw [hk,hDat]at hb;cases hb
   have st:St {ks:=keys (Rs++G N),m:=m2,w:=w2.putObj (w.heap.size+1) o,pan:=C.pan,dfs:=⟨.collected w.heap.size,#[]⟩::C.dfs} n F (Rs++G N) {a with defers:=[{target := .collected w.heap.size,args := #[]}]++a.defers} (w2.putObj (w.heap.size+1) o) :=
    ⟨by show _::a.defers=_::C.dfs;rw [hdef],hn,m2,hMn,hHf,Rel.refl _ _ _,fun e he => .inl (gJ he),fun t=>(F t).mono q3.le (h5 t)⟩
   subst ho;exact⟨none,_,(run_endLoop (P:=P) hl2 (by rw [hrec];simp)).trans (congrArg (fun x=>Result.ok x (w2.putObj (w.heap.size+1) (.loop {rec with state := .exhausted}))) (show rec.pending=none by rw [hrec])),k1 _ _ _ _ rb st⟩
end
theorem tM (l:List PC):Pu Tryz.prog 97 [css l] (fnv 154 [] [pt [css l]]):=by
 refine Pi Tryz.func97 fun C=>?_
 repeat(refine AS ⟨?_⟩;intros)
 (refine O1 ⟨?_⟩;intros)
 refine Gw 1 rfl (ak.here _) ?_;repeat(refine A1 ⟨?_⟩;intros)
 exact aS (aJ (RV.tmp rfl) Lr)
section
variable {P:Program}{C:Ctx}{n:Nat}{F:Fr}{H:LH}{Post:Exit→Act→World→Prop}
attribute [local semireducible] WP WPL dW iM Dk
theorem WPY.loopS {ι:Type}{c:Code}(J:ι→Fr) (I:ι→Prop) (L:ι→LH) (M:ι→Nat) (k:ι) (hI:I k) (h0:LeF F (J k)) (hH:(L k).Sublist H) (hs:∀k,I k→WPY P C n c (Exit.then (fun a w=>∃j,M j<M k∧I j∧St C n (J j) (L j) a w) Post) (J k) (L k)):WPY P C n (.loop c) Post F H:=by
 intro a w hst d
 have mono:∀(q q':Nat) (a:Act) (w:World),q≤q'→Code.roundsIn (fe none) d P c Post q a w→Code.roundsIn (fe none) d P c Post q' a w:=by
  intro q;induction q with
  |zero=>intro q' a w _ h;exact h.elim
  |succ q ihq =>
   intro q' a w hle h;obtain⟨q'',rfl⟩:∃q'',q'=q''+1:=⟨q'-1,om⟩
   refine wpIn_mono h ?_;intro e a w hq;cases e with
   |normal=>exact ihq q'' a w om hq
   |_=>exact hq
 have key:∀r k,M k=r→∀a w,I k→St C n (J k) (L k) a w→Code.roundsIn (fe none) d P c Post (r+1) a w:=by
  intro r;induction r using Nat.strongRecOn with
  |ind r ih =>
   intro k hr a w hIk hst;refine wpIn_mono (hs k hIk a w hst d) ?_;intro e a' w' hq;cases e with
   |normal =>
    obtain⟨j,hj,hIj,hst'⟩:=hq;exact mono (M j+1) r a' w' om (ih (M j) om j rfl a' w' hIj hst')
   |_=>exact hq
 exact wpIn_loop_rounds (M k+1) (key (M k) k rfl a w hI ((hst.sub hH).le h0))
end
theorem CU {v:List Pq}{i:Nat}(h:i<v.length):(fV v)[i]? = some (v.getD i (0,0),v.getD ((i+1)%v.length) (0,0)):=by
 unfold fV;rw [List.getElem?_map,List.getElem?_range h];rfl
theorem mU (v:List Pq):(fV v).length=v.length:=by unfold fV;rw [List.length_map,List.length_range]
theorem j7 (c:PC) (l:List PC):aj (c::l)=fV (dq c)++aj l:=rfl
theorem mW:∀a b:List PC,aj (a++b)=aj a++aj b
 | [],_=>rfl
 |c::a,b=>by rw [List.cons_append,j7,j7,mW a b,List.append_assoc]
theorem ui {l:List PC}{j:Nat}{c:PC}(h:l[j]? = some c):aj l=aj (l.take j)++(fV (dq c)++aj (l.drop (j+1))):=by
 have e:l=l.take j++c::l.drop (j+1):=by
  rw [←i9 h,List.take_append_drop]
 conv=>lhs;rw [e]
 rw [mW,j7]
theorem zL {l:List PC}{j i:Nat}{c:PC}(h:l[j]? = some c) (hi:i<(dq c).length):(aj l)[(aj (l.take j)).length+i]? = some ((dq c).getD i (0,0),(dq c).getD ((i+1)%(dq c).length) (0,0)):=by
 rw [ui h,List.getElem?_append_right om,Nat.add_sub_cancel_left,List.getElem?_append_left (by rw [mU];exact hi),CU hi]
theorem xR {l:List PC}{j:Nat}{c:PC}(h:l[j]? = some c):(aj (l.take (j+1))).length=(aj (l.take j)).length+(dq c).length:=by
 rw [dM h,mW,List.length_append,j7,List.length_append,mU];show _+(_+0)=_
 omega
abbrev zM (l:List PC) (i:Nat):List SV:=[ag (ppx ((aj l).getD i ((0,0),(0,0))).1++ppx ((aj l).getD i ((0,0),(0,0))).2),fr (a9 ((aj l).getD i ((0,0),(0,0))).1 ((aj l).getD i ((0,0),(0,0))).2)]
abbrev Km (y:Nat) (l:List PC) (j:Nat):Fr:=fm [(0,lit (.func (.yield y) #[] #[])),(1,pt [css l]),(9,css l),(10,lit (.int .i64 (l.length:Nat))),(11,lit (.int .i64 (j:Nat)))]
abbrev zl (y:Nat) (l:List PC) (v:List Pq) (j i:Nat):Fr:=fm [(0,lit (.func (.yield y) #[] #[])),(1,pt [css l]),(9,css l),(10,lit (.int .i64 (l.length:Nat))),(11,lit (.int .i64 (j:Nat))),(5,pps v),(17,pps v),(18,lit (.int .i64 (v.length:Nat))),(19,lit (.int .i64 (i:Nat)))]
theorem zk (l:List PC){L:Nat}(hc:∀c∈l,∀s∈c,s.1.le L) (h1:1≤L) (hU:L≤10000) (hn:∀c∈l,c.length≤100000) (hl:l.length≤100000):yf Tryz.prog 154 [pt [css l]] (zM l) (aj l).length:=by
 refine⟨kr,?_⟩;intro y rec G m w lb hkG hs hpd hm hH hmn hlk hL hargs hY;have hLt:=iD hL;refine(callsIn_wide (n:=5)).1 (callsIn_of_wp Tryz.func154 rfl trivial ?_ rfl);obtain⟨C,hC⟩:∃C:Ctx,C=⟨keys (G 0),m,w,noX,[]⟩:=⟨_,rfl⟩
 have hpan:∀pv H,¬C.pan pv H:=by rw [hC];exact fun _ _ h=>h
 have hst:St C 43 (ini [lit (.func (.yield y) #[] #[]),pt [css l]]) (G 0) {tmps:=(Value.func (.yield y) #[] #[]::lb).toArray++Array.replicate (43-(Value.func (.yield y) #[] #[]::lb).toArray.size) undef,defers:=[]} w:=by
  rw [hC];refine⟨rfl,by simp only [Array.size_append,Array.size_replicate];omega,m,hm,hH,Rel.refl _ _ _,fun e he => .inl (gJ he),fun t=>?_⟩;have:=pl (us:=List.replicate (43-(Value.func (.yield y) #[] #[]::lb).toArray.size) undef) (show bn m [lit (.func (.yield y) #[] #[]),pt [css l]] (Value.func (.yield y) #[] #[]::lb)from⟨aq.2 rfl,hargs⟩) t;rw [show(Value.func (.yield y) #[] #[]::lb).toArray++Array.replicate (43-(Value.func (.yield y) #[] #[]::lb).toArray.size) undef=((Value.func (.yield y) #[] #[]::lb)++List.replicate (43-(Value.func (.yield y) #[] #[]::lb).toArray.size) undef).toArray from by simp];exact this
 have hfin:∀F a w',St C 43 F (G (aj l).length) a w'→bodyPost Tryz.prog Tryz.f154 (fun e w'=>(∃v,e = .returned v)∧w'.heap[y]? = some (.loop rec)∧∃m',aU m' w'∧HOk m' w' (G (aj l).length)∧Rel (keys (G 0)) m w m' w') .normal a w':=by
  rintro F a w' ⟨hdef,_,m',h1,h2,h3,h4,_⟩;rw [hC]at hdef h3;exact⟨hdef, .tuple #[],by simp [results],⟨_,rfl⟩,(h3.block y hLt hlk).trans hL,m',h1,h2,h3⟩
 generalize hPost:bodyPost Tryz.prog Tryz.f154 _=Post at hfin⊢;clear hPost;suffices h:WPY Tryz.prog C 43 _ Post (ini [lit (.func (.yield y) #[] #[]),pt [css l]]) (G 0)from h _ _ hst 5
 clear hst;refine WPY.seq hpan ?_;refine WPX.reg ?_;repeat(refine A1 ⟨?_⟩;intros)
 refine fO.i ?_;refine WPY.block ?_;refine WPY.loopS (fun j:Nat=>Km y l j) (fun j=>j≤l.length) (fun j=>G (aj (l.take j)).length) (fun j=>l.length-j) 0 (Nat.zero_le _) lfA Sr fun j hj=>?_
 refine WPY.seq hpan (WPX.reg ?_);by_cases hjl:j<l.length
 case neg =>
  have hje:j=l.length:=by omega
  subst hje;rw [List.take_length];repeat(refine A1 ⟨?_⟩;intros)
  refine fO.i (WPY.exitF rfl fun a w' h=>?_);show(if(0:Nat)=0 then Post .normal a w' else Post (.exit 0) a w')
  rw [if_pos rfl];exact hfin _ a w' h
 obtain⟨c,hget,hmm,hat,hne⟩:=FX hjl;have cv:=wi (hc c hmm) h1 hU (hn c hmm);have hvp:=wh (hc c hmm);have hvl:=sX c;have hcn:=hn c hmm;have hE:=fun i (hi:i<(dq c).length)=>zL hget hi
 have hnx:=xR hget
 have hNl:(aj (l.take (j+1))).length≤(aj l).length:=by
  rw [ui hget,List.length_append,List.length_append,mU];omega
 generalize dq c=v at *;generalize hN:(aj (l.take j)).length=N at *;repeat(refine A1 ⟨?_⟩;intros)
 refine fO.i (WPY.goT rfl (WPY.seqB (WPY.seq hpan (WPX.reg ?_))));refine Wo (aa (cs':=[pcs c]) rfl rfl om om hat hne) ?_;repeat(refine A1 ⟨?_⟩;intros)
 refine fO.i (WPY.seq hpan (WPX.reg ?_));repeat(first|(refine A1 ⟨?_⟩;intros)|refine W4 cv ⟨?_⟩)
 refine fO.i (WPY.seq hpan (WPX.reg ?_));repeat(refine A1 ⟨?_⟩;intros)
 refine fO.i (WPY.block ?_);refine WPY.loopS (fun i:Nat=>zl y l v j i) (fun i=>i≤v.length) (fun i=>G (N+i)) (fun i=>v.length-i) 0 (Nat.zero_le _) lfA Sr fun i hi=>?_
 refine WPY.seq hpan (WPX.reg ?_);by_cases hlt:i<v.length
 case neg =>
  have hie:i=v.length:=by omega
  subst hie;repeat(refine A1 ⟨?_⟩;intros)
  refine fO.i (WPY.exitF rfl fun a w' h=>?_)
  have key:∀(K:Act→World→Prop) (Q:Exit→Act→World→Prop),Q .normal a w'→Exit.then K (Exit.inBlock 2 Q) (.exit 2) a w':=fun K Q hq=>by
   show(if(2:Nat)=2 then Q .normal a w' else Q (.exit 2) a w')
   rw [if_pos rfl];exact hq
  refine key _ _ ?_;intro d4;suffices hreg:WPY Tryz.prog C 43 _ (Exit.then (fun a w=>∃j',l.length-j'<l.length-j∧j'≤l.length∧St C 43 (Km y l j') (G (aj (l.take j')).length) a w) (Exit.inBlock 0 Post)) (zl y l v j v.length) (G (N+v.length))from hreg a w' (h.le lfA) d4
  refine WPY.last (Q:=fO fun F H=>LeF F (Km y l (j+1))∧H=G (N+v.length)) (WPX.reg ?_) ?_
  ·repeat(refine A1 ⟨?_⟩;intros)
   exact⟨lfA,rfl⟩
  ·rintro e a6 w6 (⟨F6,H6,hs6,hq6⟩|⟨ch,rfl,_,_,_,_,_,_,_,_,_,_,_,hx⟩)
   ·cases e with
    |normal =>
     obtain⟨hF6,rfl⟩:=hq6;refine⟨j+1,om,om,?_⟩;rw [hnx];exact hs6.le hF6
    |_=>exact hq6.elim
   ·exact absurd hx (hpan _ _)
 have hgv:=B6 hlt;have hml:(i+1)%v.length<v.length:=Nat.mod_lt _ om;have hgv2:=B6 hml;have htm:((i:Int)+1).tmod (v.length:Int)=(((i+1)%v.length:Nat):Int):=rfl;have htm1:0≤((i:Int)+1).tmod (v.length:Int):=by rw [htm];omega
 have htm2:((i:Int)+1).tmod (v.length:Int)<(v.length:Int):=by rw [htm];exact_mod_cast hml
 have hYi:=hY (N+i) om;have e:(aj l).getD (N+i) ((0,0),(0,0))=(v.getD i (0,0),v.getD ((i+1)%v.length) (0,0)):=by rw [List.getD,hE i hlt];rfl
 simp only [zM,e]at hYi;generalize v.getD i (0,0)=p at hgv hYi;generalize v.getD ((i+1)%v.length) (0,0)=q at hgv2 hYi;have hp1:=hvp p (List.mem_of_getElem? hgv);have hp2:=hvp q (List.mem_of_getElem? hgv2);have cx:=jD p.1 p.2 q.1 q.2 om om om om;have hatv:=dJ (f:=ppx) (n:=6) uU hgv;have hatv2:=dJ (f:=ppx) (n:=6) uU hgv2;have hatv2':(((v.map ppx).flatten).drop ((((i:Int)+1).tmod (v.length:Int)).toNat*6)).take 6=ppx q:=by rw [htm];exact hatv2
 have hnev:(v.map ppx).flatten≠[]:=eI uU om (fun e=>by rw [e]at hlt;simp at hlt);clear hatv2 htm hp1 hp2 e hvp hE cv;repeat(refine A1 ⟨?_⟩;intros)
 refine fO.i (WPY.goT rfl (WPY.seqB (WPY.seq hpan (WPX.reg ?_))));repeat(refine A1 ⟨?_⟩;intros)
 refine Wo (aa (cs':=ppx p) rfl rfl om om hatv hnev) ?_;repeat(refine A1 ⟨?_⟩;intros)
 refine fO.i (WPY.seq hpan (WPX.reg ?_));repeat(refine A1 ⟨?_⟩;intros)
 refine Wo (aa (cs':=ppx q) rfl rfl htm1 htm2 hatv2' hnev) ?_;repeat(refine A1 ⟨?_⟩;intros)
 refine fO.i ?_;intro a2 w2 hst2 d2;refine wpIn_seq (wpIn_mono (Lh (Q':=fun e a w'=>e = .normal∧∃F',St C 43 F' (G (N+i+1)) a w'∧LeF F' (fm [(0,lit (.func (.yield y) #[] #[])),(1,pt [css l]),(9,css l),(10,lit (.int .i64 (l.length:Nat))),(11,lit (.int .i64 (j:Nat))),(5,pps v),(17,pps v),(18,lit (.int .i64 (v.length:Nat))),(19,lit (.int .i64 (i:Nat))),(40,lit (.bool false))])) 7 ?_ (fun _ _ h=>by cases h.1) hst2) ?_)
 ·repeat(refine A1 ⟨?_⟩;intros)
  refine Wdo (Cm (len:=2) (k:=6) (r:=[(0,ppx p),(1,ppx q)]) (cs:=ppx p++ppx q) Tryz.underlying177 (.pt rfl (.pt rfl .nil)) rfl) ?_;repeat(first|(refine A1 ⟨?_⟩;intros)|refine W4 cx ⟨?_⟩)
  refine⟨rfl,?_⟩;intro a4 w4 hst4;obtain⟨hdef,hn4,m4,h1,h2,h3,h4,h5⟩:=hst4;rw [hC]at hdef h3;have v0:=aq.1 (h5 32);have hargs4:bn m4 [ag (ppx p++ppx q),fr (p.1*q.2-p.2*q.1)] [a4.tmps.getD 35 undef,a4.tmps.getD 38 undef]:=⟨h5 35,h5 38,trivial⟩
  have hml4:m4 y=none:=(h3.old y hLt hlk).trans hmn;have hL4:w4.heap[y]? = some (.loop rec):=(h3.block y hLt hlk).trans hL;obtain⟨fn,tmps,asg,bdy,hy,hR⟩:=hYi m4 w4 _ h1 (h2.sub' ((List.sublist_cons_self _ _).trans (List.sublist_cons_self _ _))) h3.le hml4 (by rw [hkG];exact hlk) hL4 hargs4;have hsz:40<a4.tmps.size:=Nat.lt_of_lt_of_le (by decide) hn4
  have n24:∀b:Bool,(a4.put (some 39) (.bool b)).eval (.tmp 39) = .bool b:=fun b=>by
   show(a4.put (some 39) _).tmps.getD 39 undef=_
   rw [dw om,if_pos rfl]
  have n25:∀b c:Bool,((a4.put (some 39) (.bool b)).put (some 40) (.bool c)).tmps.getD 40 undef = .bool c:=fun b c=>by
   rw [dw (by simpa [Act.put] using hsz),if_pos rfl]
  have h5':∀t,(zl y l v j i t).p m4 (a4.tmps.getD t undef):=fun t=>(show LeF _ (zl y l v j i)from by(repeat(first|exact LeF.nil _|refine LeF.cons Lr ?_|refine LeF.cons (Le.int om) ?_))) t _ _ (h5 t)
  refine vz (show a4.eval (.tmp 32)=_ from v0) hy ((hR _).mono ?_);rintro e w5 ⟨rfl,hl5,m5,q1,q2,q3⟩;refine zr rfl rfl (BS (n24 true)) ?_;refine⟨rfl,upd (upd (zl y l v j i) 39 (lit (.bool true))) 40 (lit (.bool false)),?_,by(repeat(first|exact LeF.nil _|refine LeF.cons Lr ?_|refine LeF.cons (Le.int om) ?_))⟩;rw [hC];refine⟨hdef,by simpa [Act.put] using hn4,m5,q1,q2,h3.trans q3 (fun b _ h=>by rw [←hkG (N+i)];exact h),fun e he => .inl (by show e.1∈keys (G 0);rw [←hkG (N+i+1)];exact gJ he),fun t=>?_⟩;by_cases ht:t=40
  ·subst ht;rw [aF];exact aq.2 (n25 true false)
  ·show SV.p _ _ (((a4.put (some 39) (.bool true)).put (some 40) (.bool false)).tmps.getD t undef)
   rw [av ht,dw (by simpa [Act.put] using hsz),if_neg ht,dw om];by_cases ht2:t=39
   ·subst ht2;rw [aF,if_pos rfl];exact aq.2 rfl
   ·rw [av ht2,if_neg ht2];exact SV.mono _ q3.le (h5' t)
 ·rintro e a3 w3 ⟨rfl,F',hst3,hF'⟩;have hst5:=hst3.le hF';obtain⟨m3,_,hp3⟩:=hst5.evp;have hv:=aq.1 (hp3 (.tmp 40));refine wpIn_cond_false hv (wpIn_skip ?_);intro d4;suffices hreg:WPY Tryz.prog C 43 _ (Exit.then (fun a w=>∃i',v.length-i'<v.length-i∧i'≤v.length∧St C 43 (zl y l v j i') (G (N+i')) a w) (Exit.inBlock 2 (Exit.inBlock 1 (Exit.then (fun a w=>∀d,Code.wpIn (fe none) d Tryz.prog _ _ a w) _)))) (fm [(0,lit (.func (.yield y) #[] #[])),(1,pt [css l]),(9,css l),(10,lit (.int .i64 (l.length:Nat))),(11,lit (.int .i64 (j:Nat))),(5,pps v),(17,pps v),(18,lit (.int .i64 (v.length:Nat))),(19,lit (.int .i64 (i:Nat))),(40,lit (.bool false))]) (G (N+i+1))from hreg a3 w3 hst5 d4
  refine WPY.last (Q:=fO fun F H=>LeF F (zl y l v j (i+1))∧H=G (N+i+1)) (WPX.reg ?_) ?_
  ·repeat(refine A1 ⟨?_⟩;intros)
   exact⟨lfA,rfl⟩
  ·rintro e a6 w6 (⟨F6,H6,hs6,hq6⟩|⟨ch,rfl,_,_,_,_,_,_,_,_,_,_,_,hx⟩)
   ·cases e with
    |normal =>
     obtain⟨hF6,rfl⟩:=hq6;exact⟨i+1,om,om,hs6.le hF6⟩
    |_=>exact hq6.elim
   ·exact absurd hx (hpan _ _)
theorem KT {ro:Option Nat}{dd:Nat}{P:Program}{ops:Array Oper}{Q:Exit→Act→World→Prop}(hq:∀a w,¬Q .outgrown a w) (hd:∀(i:Nat) o,ops[i]? = some o→(!fu o.op)=true):∀(fuel:Nat) (listed:Array Bool) (a:Act) (w:World),wpAny P .any ops Q fuel listed a w→wpAnyIn (fe ro) dd P .any ops Q fuel listed a w:=by
 intro fuel;induction fuel with
 |zero=>exact fun _ _ _ h=>h
 |succ fuel ih =>
  intro listed a w h;exact⟨h.1,fun i hi=>wpOpIn_mono (fun a w=>ih _ a w) (Jz hq (fun o ho=>hd i o ho) (h.2 i hi))⟩
section
variable {ro:Option Nat}{P:Program}{C:Ctx}{n:Nat}{F:Fr}{H:LH}{Q:Exit→Fr→LH→Prop}
attribute [local semireducible] WP WPL dW iM Dk
end
section
variable {ro:Option Nat}{P:Program}{C:Ctx}{n:Nat}{F F':Fr}{H:LH}{Q:Exit→Fr→LH→Prop}
attribute [local semireducible] WP WPL Dk dW iM
theorem WPX.drawL {id:Nat}{l:List Oper}(k q:Nat){N:List NW}(hm:P.follows .mixedOrders=true) (hchk:kP l.toArray k q=true)
  (hdr:Dr P l.toArray n H (iz 0 k l) N F F') (hlone:∀e∈N,gK l.toArray k e.idx=true∧er l.toArray k q e.idx=false)
  (h:∀nm:Nat→Nat,Stg P C n l.toArray k q (iz 0 k l) (fun F H=>WPL P C n l.toArray (l.drop (k+q)) (fun F H=>Q .normal F H) F H) k ((l.drop k).take q) (cO N nm F') (fU N nm++H)) (hd:(l.all fun o => !fu o.op)=true) :
  WPX ro P C n (.region id l.toArray true) Q F H:=by
 rw [jY]at hdr;intro a w hs d;obtain⟨hk,hback,hpre,_⟩:=iX hchk
 have hmem:∀e∈N,∃o,l.toArray[e.idx]? = some o∧e.idx<k∧o.dst=some e.d∧gK l.toArray k e.idx=true∧er l.toArray k q e.idx=false:=fun e he=>by
  obtain⟨o,h1,h2⟩:=hdr.nw e he;have:=(fQ (ops:=l.toArray)).1 (by simpa using h1);exact⟨o,this.2,this.1,h2,hlone e he⟩
 have hsort:(((l.zipIdx.map fun p=>(p.2,p.1)).take k).map (·.1)).Pairwise (· < ·):=by
  rw [List.pairwise_map];refine List.Pairwise.sublist (List.take_sublist _ _) ?_;rw [List.pairwise_iff_getElem];intro i j hi hj hij;simpa using hij
 have hidx:N.Pairwise fun a b=>a.idx<b.idx:=by
  have:=List.Pairwise.sublist hdr.sub hsort;rwa [List.pairwise_map]at this
 have hdd:∀(i:Nat) o,l.toArray[i]? = some o→(!fu o.op)=true:=fun i o ho=>List.all_eq_true.1 hd o (by
  have:l[i]? = some o:=by simpa using ho
  exact List.mem_of_getElem? this)
 refine wpIn_mono (wpIn_region_any (Q:=fun e a w=>e≠ .outgrown∧g8 C n (fun e F H=>e = .normal∧Q .normal F H) e a w) hm (KT (fun a w h=>h.1 rfl) hdd _ _ _ _ ?_)) (fun e a w h=>h.2.imp (fun⟨F,H,hs,he,hq⟩=>⟨F,H,hs,he▸hq⟩) fun h=>h);refine uk (C:=C) (n:=n) (H:=H) (F':=F') (N0:=N) (k:=k) (q:=q) (late:=iz 0 k l) (K:=fun F H=>WPL P C n l.toArray (l.drop (k+q)) (fun F H=>Q .normal F H) F H) hchk ?_ ?_ hmem ?_ h l.toArray.size (Array.replicate l.toArray.size false) a {w with drawn:=w.drawn+1} N [] (fun _=>0) F ?_ (by simp) (fun m j hm=>by by_cases hlt:m<l.length <;> simp [hlt]at hm) ?_ ?_ (by simp) (fun e he=>by cases he) ?_
 ·intro x hx ho _;rw [jY];have:=(fQ (ops:=l.toArray) (o:=x.2) (i:=x.1) (k:=k)).2 ⟨hx,ho⟩;simpa using this
 ·intro a' w' F1 H1 hK hst;exact hK a' w' hst _ ⟨fun a2 w2 F2 H2 hs2 hq=>⟨(by intro e;cases e), .mk hs2 ⟨rfl,hq⟩⟩,fun ch _ _ hp=>⟨(by intro e;cases e), .inr ⟨ch,rfl,hp⟩⟩⟩
 ·refine List.Pairwise.imp_of_mem (R:=fun a b=>a.idx<b.idx) ?_ hidx;intro x y hx hy hlt hxy;obtain⟨ox,x1,x2,x3,x4,_⟩:=hmem x hx;obtain⟨oy,y1,y2,y3,y4,_⟩:=hmem y hy;exact(gm y4 y1 y3 x1 x2 om).2 (by rw [x3,hxy])
 ·have:(left l.toArray k (Array.replicate l.toArray.size false)).length≤k:=by
   unfold left;refine Nat.le_trans (List.length_filter_le _ _) ?_;simp;omega
  omega
 ·intro j _ hj;have hj':j<l.length:=by simpa using hj
  simp [hj']
 ·have:left l.toArray k (Array.replicate l.toArray.size false)=(l.zipIdx.map fun p=>(p.2,p.1)).take k:=by
   unfold left;rw [List.filter_eq_self.2];intro x hx;obtain⟨h1,h2⟩:=(fQ (ops:=l.toArray)).1 hx;have:=(Array.getElem?_eq_some_iff.1 h2).1;have hj':x.1<l.length:=by simpa using this
   simp [hj']
  rw [this];exact hdr
 ·obtain⟨hdef,hn,m,h1,h2,h3,h4,h5⟩:=hs;exact⟨hdef,hn,m,⟨h1.at',h1.base⟩,⟨h2.1,h2.2⟩,h3.drw,h4,h5⟩
theorem WPX.late {id:Nat}{l:List Oper}(k q:Nat) (h:Dk P l.toArray n H (iz 0 k l) (dL P C n k q l Q H) F) (hm:P.follows .mixedOrders=true:=by kernel_rfl) (hchk:kP l.toArray k q=true:=by decide +kernel) (hd:(l.all fun o => !fu o.op)=true:=by exact rfl):WPX ro P C n (.region id l.toArray true) Q F H:=by
 obtain⟨N,F',h1,h2⟩:=h;exact WPX.drawL k q hm hchk h1 h2.1 h2.2 hd
end
end Go.Ab
