/- Texts laid one behind the other: ArC, ArD, Uf, TcC, ZipC, TcD, TcE, TmA, GwE, GwF. -/
import Derived.Test.YtbcojehfealiaaaGreatDoorB31
set_option linter.all false
set_option maxHeartbeats 16000000
namespace Go.Ab
open Go.Proofs
variable [Base]
def e9:List Rat→Rat
 | []=>0
 |x::l=>x+e9 l
theorem qc:∀(a b:List Rat),e9 (a++b)=e9 a+e9 b
 | [],b=>by show e9 b=0+e9 b;grind
 |x::a,b=>by
  show x+e9 (a++b)=x+e9 a+e9 b
  rw [qc a b];grind
theorem Ak {a b:List Rat}(h:a.Perm b):e9 a=e9 b:=by
 induction h with
 |nil=>rfl
 |cons x _ ih=>show x+_=x+_;rw [ih]
 |swap x y l=>show y+(x+_)=x+(y+_);grind
 |trans _ _ h1 h2=>exact h1.trans h2
theorem mt {α:Type}(f g:α→Rat):∀l:List α,e9 (l.map fun x=>f x+g x)=e9 (l.map f)+e9 (l.map g)
 | []=>by show(0:Rat)=0+0;grind
 |x::l=>by
  show f x+g x+e9 (l.map fun x=>f x+g x)=f x+e9 (l.map f)+(g x+e9 (l.map g))
  rw [mt f g l];grind
theorem mo {α:Type}(k:Rat) (f:α→Rat):∀l:List α,e9 (l.map fun x=>k*f x)=k*e9 (l.map f)
 | []=>by show(0:Rat)=k*0;grind
 |x::l=>by
  show k*f x+e9 (l.map fun x=>k*f x)=k*(f x+e9 (l.map f))
  rw [mo k f l];grind
theorem ET {α β:Type}(d:α) (f:α→β) (l:List α):((List.range l.length).map fun i=>f (l.getD ((i+1)%l.length) d))=(l.map f).drop 1++(l.map f).take 1:=by
 refine List.ext_getElem? fun k=>?_
 rw [List.getElem?_map];by_cases hk:k<l.length
 ·rw [List.getElem?_range hk,Option.map_some];by_cases h1:k+1<l.length
  ·rw [Nat.mod_eq_of_lt h1,List.getElem?_append_left (by rw [List.length_drop,List.length_map];omega),List.getElem?_drop,List.getElem?_map,Nat.add_comm 1 k,List.getElem?_eq_getElem h1,List.getD,List.getElem?_eq_getElem h1];rfl
  ·have e:k+1=l.length:=by omega
   rw [e,Nat.mod_self,List.getElem?_append_right (by rw [List.length_drop,List.length_map];omega),List.length_drop,List.length_map,show k-(l.length-1)=0 by omega,List.getElem?_take,if_pos om,List.getElem?_map,List.getElem?_eq_getElem om,List.getD,List.getElem?_eq_getElem om];rfl
 ·rw [List.getElem?_eq_none (by simpa using hk),List.getElem?_eq_none (by simp;omega)];rfl
theorem vr {α:Type}(d:α) (f:α→Rat) (l:List α):e9 ((List.range l.length).map fun i=>f (l.getD ((i+1)%l.length) d))=e9 (l.map f):=by
 rw [ET,qc];have:e9 (l.map f)=e9 ((l.map f).take 1)+e9 ((l.map f).drop 1):=by rw [←qc,List.take_append_drop]
 rw [this];grind
theorem AH {α β:Type}(d:α) (f:α→β) (l:List α):(List.range l.length).map (fun i=>f (l.getD i d))=l.map f:=by
 refine List.ext_getElem? fun k=>?_
 rw [List.getElem?_map,List.getElem?_map];by_cases hk:k<l.length
 ·rw [List.getElem?_range hk,List.getElem?_eq_getElem hk,Option.map_some,List.getD,List.getElem?_eq_getElem hk];rfl
 ·rw [List.getElem?_eq_none (by simpa using hk),List.getElem?_eq_none om];rfl
abbrev zSd:Fg:=(⟨0,0,0⟩,Spn.none)
abbrev loP (s:Fg):Pq:=atL s.1 s.2.lo
abbrev hiP (s:Fg):Pq:=atL s.1 s.2.hi
def Bdd (c:PC):Prop:=∀s∈c,s.2.nl=false∧s.2.nh=false
theorem Gz {c:PC}(h:dH c) (ho:km c) (hb:Bdd c) (F:Pq→Pq→Rat):e9 ((List.range c.length).map fun i=>F (hiP (c.getD i zSd)) (hiP (c.getD ((i+1)%c.length) zSd)))=e9 (c.map fun s=>F (loP s) (hiP s)):=by
 rw [←vr zSd (fun s=>F (loP s) (hiP s)) c];congr 1
 refine List.map_congr_left fun i hi=>?_
 have hi:=List.mem_range.1 hi;have hs:=List.getElem?_eq_getElem hi;obtain⟨s',n1,_,_,_,n4⟩:=B2 h ho hs (hb _ (List.getElem_mem hi)).2;have e1:c.getD i zSd=c[i]:=by rw [List.getD,hs];rfl
 have e2:c.getD ((i+1)%c.length) zSd=s':=by rw [List.getD,n1];rfl
 rw [e1,e2];exact congrArg (fun p=>F p (hiP s')) n4.symm
theorem wM {c:PC}(h:dH c) (ho:km c) (hb:Bdd c) (g:Pq→Rat):e9 (c.map fun s=>g (hiP s) + -1*g (loP s))=0:=by
 have e:=Gz h ho hb fun p q=>g q + -1*g p
 rw [←e,mt (fun i=>g (hiP (c.getD ((i+1)%c.length) zSd))) (fun i => -1*g (hiP (c.getD i zSd))),mo,vr zSd (fun s=>g (hiP s)) c,AH zSd (fun s=>g (hiP s)) c];grind
theorem fV {m:M6 Rat}(h:m.det≠0) (p:Pq):m.inv.app (m.app p)=p:=by
 obtain⟨x1,x2⟩:=M6.inv_apply h p.1 p.2;exact Prod.ext x1 x2
structure ImP (m:M6 Rat) (c c':PC):Prop where
 d:m.det≠0
 x:dH c
 y:dH c'
 e:∀q,Inn (aa c') q↔Inn (aa c) (m.inv.app q)
theorem Du {m:M6 Rat}{l k:Li}(h:m.det≠0) (hl:l.ok) (hk:k.ok) (e:l.im m=k.im m):l=k:=by
 rw [←Li.im_inv h hl,←Li.im_inv h hk,e]
theorem ImP.sides {m:M6 Rat}{c c':PC}(h:ImP m c c') (k:Li):k∈aa c'↔k∈(aa c).map (Li.im m):=by
 have hok:∀l∈(aa c).map (Li.im m),l.ok:=fun l hl=>by
  obtain⟨j,hj,rfl⟩:=List.mem_map.1 hl;exact Li.im_ok h.d (h.x.lok j hj)
 refine qi h.y hok (fun l hl=>?_) (fun q=>?_) k
 ·obtain⟨j,hj,rfl⟩:=List.mem_map.1 hl;obtain⟨r,r0,r1⟩:=h.x.edg hj;refine⟨m.app r,?_,fun i hi hne=>?_⟩
  ·obtain⟨w,hw,e,_⟩:=gW h.d (h.x.lok j hj);rw [e,fV h.d,r0];grind
  ·obtain⟨x,hx,rfl⟩:=List.mem_map.1 hi;obtain⟨w,hw,e,_⟩:=gW h.d (h.x.lok x hx);rw [e,fV h.d];exact Rat.mul_pos hw (r1 x hx fun z=>hne (by rw [z]))
 ·rw [h.e];constructor
  ·intro g l hl;obtain⟨j,hj,rfl⟩:=List.mem_map.1 hl;obtain⟨w,hw,e,_⟩:=gW h.d (h.x.lok j hj);rw [e];exact Rat.mul_pos hw (g j hj)
  ·intro g j hj;obtain⟨w,hw,e,_⟩:=gW h.d (h.x.lok j hj);have:=g _ (List.mem_map.2 ⟨j,hj,rfl⟩);rw [e,kE hw]at this;exact this
def OnS (c:PC) (l:Li) (p:Pq):Prop:=a6 l p=0∧∀j∈aa c,j≠l→0<a6 j p
theorem ImP.on {m:M6 Rat}{c c':PC}(h:ImP m c c'){l:Li}(hl:l∈aa c) (p:Pq):OnS c' (l.im m) (m.app p)↔OnS c l p:=by
 have hv:∀j∈aa c,∃w:Rat,0<w∧a6 (j.im m) (m.app p)=w*a6 j p:=fun j hj=>by
  obtain⟨w,hw,e,_⟩:=gW h.d (h.x.lok j hj);exact⟨w,hw,by rw [e,fV h.d]⟩
 unfold OnS;constructor
 ·rintro ⟨a,b⟩;obtain⟨w,hw,e⟩:=hv l hl;rw [e,zero_mul hw]at a;refine⟨a,fun j hj hne=>?_⟩;obtain⟨w2,hw2,e2⟩:=hv j hj;have:=b (j.im m) ((h.sides _).2 (List.mem_map.2 ⟨j,hj,rfl⟩)) fun z=>hne (Du h.d (h.x.lok j hj) (h.x.lok l hl) z)
  rwa [e2,kE hw2]at this
 ·rintro ⟨a,b⟩;obtain⟨w,hw,e⟩:=hv l hl;refine⟨by rw [e,a];grind,fun k hk hne=>?_⟩;obtain⟨j,hj,rfl⟩:=List.mem_map.1 ((h.sides k).1 hk);obtain⟨w2,hw2,e2⟩:=hv j hj;rw [e2];exact Rat.mul_pos hw2 (b j hj fun z=>hne (by rw [z]))
theorem Aq {c:PC}(h:dH c){s x:Fg}(hs:s∈c) (hx:x∈c) (e:s.1=x.1):s=x:=by
 have nd:=h.nd;obtain⟨a,ha,ea⟩:=List.mem_iff_getElem.1 hs;obtain⟨b,hb,eb⟩:=List.mem_iff_getElem.1 hx
 have:(aa c)[a]'(by unfold aa;simpa using ha)=(aa c)[b]'(by unfold aa;simpa using hb):=by
  unfold aa;rw [List.getElem_map,List.getElem_map,ea,eb,e]
 have:=(List.getElem_inj nd).1 this;subst this;rw [←ea,←eb]
open Classical in
noncomputable def yL (c:PC) (f:Fg→Rat) (k:Li):Rat:=if h:∃s,s∈c∧s.1=k then f (Classical.choose h)else 0
theorem vw {c:PC}(h:dH c) (f:Fg→Rat){s:Fg}(hs:s∈c):yL c f s.1=f s:=by
 have hx:∃x,x∈c∧x.1=s.1:=⟨s,hs,rfl⟩
 unfold yL;rw [dif_pos hx];have k:=Classical.choose_spec hx;rw [Aq h k.1 hs k.2]
theorem ImP.sum {m:M6 Rat}{c c':PC}(h:ImP m c c') (f g:Fg→Rat) (H:∀s∈c,∀s'∈c',s'.1=s.1.im m→f s'=g s):e9 (c'.map f)=e9 (c.map g):=by
 have e1:c'.map f=(aa c').map (yL c' f):=by
  unfold aa;rw [List.map_map];exact List.map_congr_left fun s hs=>(vw h.y f hs).symm
 have hnd:((aa c).map (Li.im m)).Nodup:=by
  refine List.pairwise_map.2 (h.x.nd.imp_of_mem fun {a b} ha hb hne e=>hne (Du h.d (h.x.lok a ha) (h.x.lok b hb) e))
 have hp:(aa c').Perm ((aa c).map (Li.im m)):=(List.perm_ext_iff_of_nodup h.y.nd hnd).2 h.sides;rw [e1,Ak (hp.map _),List.map_map];unfold aa;rw [List.map_map];congr 1
 refine List.map_congr_left fun s hs=>?_
 have hm:s.1.im m∈aa c':=(h.sides _).2 (List.mem_map.2 ⟨s.1,List.mem_map.2 ⟨s,hs,rfl⟩,rfl⟩);obtain⟨s',hs',e⟩:=List.mem_map.1 hm;show yL c' f (s.1.im m)=g s
 rw [←e,vw h.y f hs'];exact H s hs s' hs' e
def ar2 (c:PC):Rat:=e9 (c.map fun s=>a7 (loP s) (hiP s))
end Go.Ab
namespace Go.Ab
open Go.Proofs
variable [Base]
def H0 (p:Nat→Nat):Nat→Nat→Nat
 |0,i=>i
 |f+1,i=>if p i=i then i else H0 p f (p i)
def rep (p:Nat→Nat) (i:Nat):Nat:=H0 p (i+1) i
structure Jy where
 i:Nat
 p:Nat→Nat
section
variable {P:Program}{C:Ctx}{n:Nat}{F:Fr}{H:LH}{ops:Array Oper}{rs:List Nat}{Hc:LH}{K:Fr→LH→Prop}{s i d:Nat}{r:List NO'}{E:LH}{ty:TypeId}{pos:String}{aft:Array Edge}
end
instance tyFi:TY Tryz.prog 77 1 8 [lit .nilFunc] false:=⟨⟨[.nilFunc],kr,rfl,rfl,rfl⟩,kr⟩
instance tyFt:TY Tryz.prog 99 1 8 [lit .nilFunc] false:=⟨⟨[.nilFunc],kr,rfl,rfl,rfl⟩,kr⟩
abbrev Pts:=List (PC×Bool)
theorem xw (s:Spn){n:Nat}(h:s.le n) (hn:n≤10000):Pu Tryz.prog 195 [ag (spx s)] (rq (bK s)):=by
 obtain⟨lo,hi,nl,nh⟩:=s;obtain⟨h1,h2⟩:=h;simp only at h1 h2;have:=fv;have c1:=dP hi 1 om om;have c2:=ee lo 1 om om;have c3:=yO lo hi om om;unfold bK;cases nl <;> cases nh;rotate_left 3
 ·simp only [Bool.and_self,if_true];refine Pi Tryz.func195 fun C=>?_
  repeat(first|(refine A1 ⟨?_⟩;intros)|refine W4 jT ⟨?_⟩|refine W4 c1 ⟨?_⟩|refine W4 c2 ⟨?_⟩|refine W4 c3 ⟨?_⟩)
  ((first|refine aM ?_|refine eF ?_);refine ax RVa ?_)
  exact Le.ag ⟨Le.refl _,kW,kX,trivial⟩
 all_goals
  simp only [Bool.and_true,Bool.and_false,Bool.true_and,Bool.false_and,Bool.and_self,Bool.false_eq_true,if_true,if_false];refine Pi Tryz.func195 fun C=>?_
  repeat(first|(refine A1 ⟨?_⟩;intros)|refine W4 jT ⟨?_⟩|refine W4 c1 ⟨?_⟩|refine W4 c2 ⟨?_⟩|refine W4 c3 ⟨?_⟩)
  exact G1
theorem kb {l m:Li}{s:Spn}(hl:l.sm) (hm:m.sm) (h:s.le 46):(ej l m s).le 46:=by
 have h1:=iT hl hm;have h2:=jo hl h1;obtain⟨h3,h4⟩:=h;unfold ej;split
 ·split
  ·exact⟨by simp only;omega,h4⟩
  ·exact⟨h3,h4⟩
 ·split
  ·exact⟨h3,by simp only;omega⟩
  ·exact⟨h3,h4⟩
theorem kO {l:Li}(hl:l.sm) (i:Nat):∀(c:List Li) (k:Nat) (s:Spn),(∀m∈c,m.sm)→s.le 46→(eG l i k c s).1.le 46
 | [],_,_,_,h=>h
 |m::c,k,s,hc,h=>by
  have hm:=hc m Ms;have hr:∀m∈c,m.sm:=fun x hx=>hc x (Mc hx)
  unfold eG;split
  ·exact kO hl i c _ _ hr h
  ·split
   ·split
    ·exact kO hl i c _ _ hr h
    ·exact h
   ·split
    ·exact kb hl hm h
    ·exact kO hl i c _ _ hr (kb hl hm h)
theorem t8:Spn.full.le 46:=⟨by have:=ez;show ht 0≤46;omega,by have:=ez;show ht 0≤46;omega⟩
theorem wH {c:List Li}{i:Nat}{l:Li}(hc:∀m∈c,m.sm) (hi:c[i]? = some l):(bF c i).1.le 46:=by
 unfold bF;rw [List.getD,hi];exact kO (hc l (List.mem_of_getElem? hi)) i c 0 _ hc t8
abbrev It:List SV:=[lit (.bool false),lit (.slice none 0 0),lit (.slice none 0 0),lit (.bool false),lit (.slice none 0 0),lit (.slice none 0 0),lit (.bool false),lit (.bool false)]
theorem vM {c:List Li}{i:Nat}{l:Li}(hc:∀m∈c,m.sm) (hn:c.length≤100000) (hi:c[i]? = some l):Pu Tryz.prog 193 [lqs c,lit (.int .i64 i)] (Ab.tup [ag (spx (bF c i).1),lit (.bool (bF c i).2)]):=by
 have hl:=hc l (List.mem_of_getElem? hi);have hil:=(List.getElem?_eq_some_iff.1 hi).1;have hat0:=cX (f:=lqx) (n:=6) dz hi;have hne0:(c.map lqx).flatten≠[]:=e7 dz om (fun e=>by rw [e]at hil;simp at hil);have hR:bF c i=eG l i 0 c Spn.full:=by unfold bF;rw [List.getD,hi];rfl
 generalize bF c i=R at *;refine Pi Tryz.func193 fun C=>?_
 repeat(refine A1 ⟨?_⟩;intros)
 rename_i b4;refine Wo (a8 (cs':=lqx l) rfl rfl om om hat0 hne0) ?_;repeat(first|(refine A1 ⟨?_⟩;intros)|refine W4 vK ⟨?_⟩)
 rename_i b6 b7
 refine WP.loopS (ι:=Nat×Spn) (fun y=>y.1≤c.length∧y.2.le 46∧eG l i y.1 (c.drop y.1) y.2=R) (fun y=>c.length-y.1)
  (fun y=>fm [(1,lit (.int .i64 i)),(4,lit (.pointer (some ⟨b4,0,none⟩))),(6,lit (.pointer (some ⟨b6,0,none⟩))),(7,lit (.pointer (some ⟨b7,0,none⟩))),(18,lqs c),(19,lit (.int .i64 c.length)),(20,lit (.int .i64 y.1))])
  (fun y=>[(b7,225,spx y.2),(b6,123,lqx l),(b4,225,It)]) (0,Spn.full) ⟨Nat.zero_le _,t8,by rw [List.drop_zero];exact hR.symm⟩ lfA Sr ?_
 rintro ⟨k,s⟩ ⟨hk,hs,hgo⟩ K hK;simp only at hk hs hgo⊢;by_cases hkl:k<c.length
 ·obtain⟨m,hget,hmm,hat,hne⟩:=elt dz om hkl;have hm:=hc m hmm;rw [pG hget]at hgo;have hnext:=fun s' (h1:s'.le 46) (h2:eG l i (k+1) (c.drop (k+1)) s'=R) F' H'=>hK F' H' (k+1,s') ⟨by simp only;omega,h1,h2⟩ (by simp only;omega)
  unfold eG at hgo;have d1:=qw (l:=l) (m:=m) hl.ile hm.ile;have d2:=qo hl hm;have hsl:=kb hl hm hs;have hmt:=iT hl hm;have hpt:=jo hl hmt;clear hK hc hi hat0 hne0 hget hmm;by_cases h1:k=i
  ·subst h1;rw [if_pos (.inl rfl)]at hgo;replace hnext:=hnext s hs hgo;clear hgo hsl hmt hpt d2;repeat(refine A1 ⟨?_⟩;intros)
   refine Wo (a8 (cs':=lqx m) rfl rfl om om hat hne) ?_;repeat(first|(refine A1 ⟨?_⟩;intros)|refine W4 d1 ⟨?_⟩)
   exact hnext _ _ lfA (by repeat(first|exact Sr|refine Sc ?_))
  by_cases h2:lN l m=0
  ·rw [if_pos (.inr h2)]at hgo;replace hnext:=hnext s hs hgo;rw [h2]at d1;clear hgo hsl hmt hpt d2;repeat(refine A1 ⟨?_⟩;intros)
   refine Wo (a8 (cs':=lqx m) rfl rfl om om hat hne) ?_;repeat(first|(refine A1 ⟨?_⟩;intros)|refine W4 d1 ⟨?_⟩)
   exact hnext _ _ lfA (by repeat(first|exact Sr|refine Sc ?_))
  rw [if_neg (fun h=>h.elim h1 h2)]at hgo;generalize lN l m=z0 at *;by_cases h3:cO l m=0
  ·rw [if_pos h3]at hgo;unfold ie at d2;rw [if_pos h3]at d2;obtain⟨q1,q2⟩:=nJ hl;have d3:=qx hl.1 hl.2;have d4:=mA (l:=m) (p:=aV l) hm ⟨om,om⟩;simp only [Option.getD_none,Option.isSome_none]at d2;clear hsl hmt hpt q1 q2;have e4:ag (rpx (aV l))=rp (l.bf*l.a) (l.bf*l.b):=rfl;rw [e4]at d4;clear e4;generalize cM m (aV l)=z1 at *;by_cases h4:0<z1
   ·rw [if_pos h4]at hgo;replace hnext:=hnext s hs hgo;clear hgo;repeat(refine A1 ⟨?_⟩;intros)
    refine Wo (a8 (cs':=lqx m) rfl rfl om om hat hne) ?_;repeat(first|(refine A1 ⟨?_⟩;intros)|refine W4 d1 ⟨?_⟩|refine W4 d2 ⟨?_⟩|refine W4 d3 ⟨?_⟩|refine W4 d4 ⟨?_⟩)
    exact hnext _ _ lfA (by repeat(first|exact Sr|refine Sc ?_))
   ·rw [if_neg h4]at hgo;subst hgo;clear hnext;repeat(refine A1 ⟨?_⟩;intros)
    refine Wo (a8 (cs':=lqx m) rfl rfl om om hat hne) ?_;repeat(first|(refine A1 ⟨?_⟩;intros)|refine W4 d1 ⟨?_⟩|refine W4 d2 ⟨?_⟩|refine W4 d3 ⟨?_⟩|refine W4 d4 ⟨?_⟩)
    exact G3
  rw [if_neg h3]at hgo;unfold ie at d2;rw [if_neg h3]at d2;simp only [Option.getD_some,Option.isSome_some]at d2;have d3:=kB (l:=l) (p:=be l m) hl ⟨by have:=hmt.1;omega,by have:=hmt.2;omega⟩;have d4:=i9 m hm.ile;have d5:=i9 l hl.ile;obtain⟨x1,x2⟩:=cZ hm;obtain⟨y1,y2⟩:=cZ hl;have d6:=kC (dirL m).1 (dirL m).2 (dirL l).1 (dirL l).2 om om om om;have hx:=kQ (cZ hm) (cZ hl);have d7:=jI (a7 (dirL m) (dirL l)) om;rw [show(dirL m).1*(dirL l).2-(dirL m).2*(dirL l).1=a7 (dirL m) (dirL l)from rfl]at d6;obtain⟨hs1,hs2⟩:=hs;have d8:=gN (bO l (be l m)) s.lo om om;have d9:=gN (bO l (be l m)) s.hi om om;have hbad:∀u:Spn,fG u=(!u.nl && !u.nh&&decide (0≤(u.lo-u.hi).num.sign)):=fun _=>rfl
  have hst:(if 0<(a7 (dirL m) (dirL l)).num.sign then(if s.nl=true∨0<(bO l (be l m)-s.lo).num.sign then⟨bO l (be l m),s.hi,false,s.nh⟩else s)
   else if s.nh=true∨(bO l (be l m)-s.hi).num.sign<0 then⟨s.lo,bO l (be l m),s.nl,false⟩else s)=ej l m s:=rfl
  generalize ej l m s=S at *;obtain⟨hS1,hS2⟩:=hsl;have e1:=gN S.lo S.hi om om;generalize be l m=mp at *;generalize bO l mp=t at *;generalize(a7 (dirL m) (dirL l)).num.sign=zc at *;generalize a7 (dirL m) (dirL l)=cx at *;simp only [dirL]at d6;generalize(t-s.lo).num.sign=z5 at *;generalize(t-s.hi).num.sign=z6 at *;obtain⟨lo,hi',nl,nh⟩:=s;obtain⟨lo2,hi2,nl2,nh2⟩:=S;simp only at d8 d9 hst e1 hs1 hs2 hS1 hS2;rw [hbad]at hgo;simp only at hgo;clear hbad;generalize(lo2-hi2).num.sign=z7 at *;replace hnext:=hnext ⟨lo2,hi2,nl2,nh2⟩ ⟨hS1,hS2⟩;clear x1 x2 y1 y2 hx hmt hpt h3 hs1 hs2 hS1 hS2;repeat(refine A1 ⟨?_⟩;intros)
  refine Wo (a8 (cs':=lqx m) rfl rfl om om hat hne) ?_;repeat(first|(refine A1 ⟨?_⟩;intros)|refine W4 d1 ⟨?_⟩|refine W4 d2 ⟨?_⟩|refine W4 d3 ⟨?_⟩|refine W4 d4 ⟨?_⟩|refine W4 d5 ⟨?_⟩|refine W4 d6 ⟨?_⟩|refine W4 d7 ⟨?_⟩)
  refine WP.via (fun F' H'=>LeF F' (fm [(1,lit (.int .i64 i)),(4,lit (.pointer (some ⟨b4,0,none⟩))),(6,lit (.pointer (some ⟨b6,0,none⟩))),(7,lit (.pointer (some ⟨b7,0,none⟩))),(18,lqs c),(19,lit (.int .i64 c.length)),(20,lit (.int .i64 k))])∧[(b7,225,spx ⟨lo2,hi2,nl2,nh2⟩),(b6,123,lqx l),(b4,225,It)].Sublist H') ?_ ?_
  ·clear hgo hnext e1 d1 d2 d3 d4 d5 d6 d7;refine WPd (fun h4=>?_) (fun h4=>?_)
   ·rw [if_pos h4]at hst;by_cases h5:nl=true
    ·subst h5;rw [if_pos (.inl rfl)]at hst;cases hst;repeat(first|(refine A1 ⟨?_⟩;intros)|refine W4 d8 ⟨?_⟩)
     exact⟨lfA,by repeat(first|exact Sr|refine Sc ?_)⟩
    ·have h5:nl=false:=by cases nl;rfl;exact absurd rfl h5
     subst h5;by_cases h6:0<z5
     ·rw [if_pos (.inr h6)]at hst;cases hst;repeat(first|(refine A1 ⟨?_⟩;intros)|refine W4 d8 ⟨?_⟩)
      exact⟨lfA,by repeat(first|exact Sr|refine Sc ?_)⟩
     ·rw [if_neg (fun h=>h.elim (fun h=>by cases h) h6)]at hst;cases hst;repeat(first|(refine A1 ⟨?_⟩;intros)|refine W4 d8 ⟨?_⟩)
      exact⟨lfA,by repeat(first|exact Sr|refine Sc ?_)⟩
   ·rw [if_neg h4]at hst;by_cases h5:nh=true
    ·subst h5;rw [if_pos (.inl rfl)]at hst;cases hst;repeat(first|(refine A1 ⟨?_⟩;intros)|refine W4 d9 ⟨?_⟩)
     exact⟨lfA,by repeat(first|exact Sr|refine Sc ?_)⟩
    ·have h5:nh=false:=by cases nh;rfl;exact absurd rfl h5
     subst h5;by_cases h6:z6<0
     ·rw [if_pos (.inr h6)]at hst;cases hst;repeat(first|(refine A1 ⟨?_⟩;intros)|refine W4 d9 ⟨?_⟩)
      exact⟨lfA,by repeat(first|exact Sr|refine Sc ?_)⟩
     ·rw [if_neg (fun h=>h.elim (fun h=>by cases h) h6)]at hst;cases hst;repeat(first|(refine A1 ⟨?_⟩;intros)|refine W4 d9 ⟨?_⟩)
      exact⟨lfA,by repeat(first|exact Sr|refine Sc ?_)⟩
  ·rintro F' H' ⟨hF,hH⟩;refine WP.sub hH (WP.le hF ?_);clear hF hH hst d1 d2 d3 d4 d5 d6 d7 d8 d9;cases nl2
   ·cases nh2
    ·by_cases h8:0≤z7
     ·rw [if_pos (by simp [h8])]at hgo;subst hgo;clear hnext;repeat(first|(refine A1 ⟨?_⟩;intros)|refine W4 e1 ⟨?_⟩)
      exact G3
     ·rw [if_neg (by simp [h8])]at hgo;replace hnext:=hnext hgo;clear hgo;repeat(first|(refine A1 ⟨?_⟩;intros)|refine W4 e1 ⟨?_⟩)
      exact hnext _ _ lfA (by repeat(first|exact Sr|refine Sc ?_))
    ·rw [if_neg (by simp)]at hgo;replace hnext:=hnext hgo;clear hgo;repeat(first|(refine A1 ⟨?_⟩;intros)|refine W4 e1 ⟨?_⟩)
     exact hnext _ _ lfA (by repeat(first|exact Sr|refine Sc ?_))
   ·rw [if_neg (by simp)]at hgo;replace hnext:=hnext hgo;clear hgo;repeat(first|(refine A1 ⟨?_⟩;intros)|refine W4 e1 ⟨?_⟩)
    exact hnext _ _ lfA (by repeat(first|exact Sr|refine Sc ?_))
 ·have hke:k=c.length:=by omega
  subst hke;rw [List.drop_length]at hgo;have hR2:R=(s,true):=hgo.symm;subst hR2;clear hK hc;repeat(refine A1 ⟨?_⟩;intros)
  exact G3
theorem oV {c:List Li}{i:Nat}{l:Li}(hc:∀m∈c,m.sm) (hi:c[i]? = some l):hp (atL l (bK (bF c i).1)) 120∧ht (bK (bF c i).1)≤96:=by
 obtain⟨h1,h2⟩:=wH hc hi;have h0:=ez;have h3:=fv;have h4:=zz (bF c i).1.lo (bF c i).1.hi h1 h2;have h5:=dG (bF c i).1.hi 1;have h6:=aO (bF c i).1.lo 1
 have hs:ht (bK (bF c i).1)≤96:=by
  unfold bK;split
  ·omega
  ·split
   ·omega
   ·split <;> omega
 have:=yw (hc l (List.mem_of_getElem? hi)) hs;exact⟨⟨by have:=this.1;omega,by have:=this.2;omega⟩,hs⟩
theorem yd {c:List Li}{i:Nat}{l:Li}(hc:∀m∈c,m.sm) (hi:c[i]? = some l):hp (nj c i l) 883:=by
 have hd:=cZ (hc l (List.mem_of_getElem? hi));exact D8 hc (oV hc hi).1 ⟨by show ht (-(dirL l).2)≤1;rw [cN];exact hd.2,hd.1⟩
theorem qV {c:List Li}(hc:∀m∈c,m.sm):∀(r:List Li) (i:Nat) (p:Pq),(∀k l,r[k]? = some l→c[i+k]? = some l)→eQ c i r=some p→hp p 883
 | [],_,_,_,h=>by cases h
 |l::r,i,p,hr,h=>by
  unfold eQ at h;split at h
  ·cases h;exact yd hc (hr 0 l rfl)
  ·refine qV hc r (i+1) p (fun k m hk=>?_) h;rw [show i+1+k=i+(k+1) by omega];exact hr (k+1) m (by simpa using hk)
theorem Bb {c:List Li}(hc:∀m∈c,m.sm):hp ((bX c).getD (0,0)) 883:=by
 have h0:=ez;cases h:bX c with
 |none=>exact⟨by show ht 0≤_;omega,by show ht 0≤_;omega⟩
 |some p =>
  unfold bX at h;split at h
  ·cases h;exact⟨by show ht 0≤_;omega,by show ht 0≤_;omega⟩
  ·exact qV hc c 0 p (fun k l hk=>by rw [Nat.zero_add];exact hk) h
theorem nZ {c:List Li}(hc:∀m∈c,m.sm) (hn:c.length≤100000):Pu Tryz.prog 135 [lqs c] (Ab.tup [ag (rpx ((bX c).getD (0,0))),lit (.bool (bX c).isSome)]):=by
 by_cases h0:c=[]
 ·subst h0;have e:bX []=some (0,0):=rfl;rw [e];refine Pi Tryz.func135 fun C=>?_
  repeat(refine A1 ⟨?_⟩;intros)
  ((first|refine aM ?_|refine eF ?_);exact fD (s1:=ag ve) RVa (RV.tmp rfl) (Le.tup2 (Le.ag xc) Lr))
 have hR:bX c=eQ c 0 c:=by unfold bX;rw [if_neg h0]
 have hpos:=List.length_pos_iff.2 h0;rw [hR];generalize hRR:eQ c 0 c=R;refine Pi Tryz.func135 fun C=>?_
 repeat(refine A1 ⟨?_⟩;intros)
 rename_i b2
 refine WP.loopS (ι:=Nat) (fun k=>k≤c.length∧eQ c k (c.drop k)=R) (fun k=>c.length-k)
  (fun k=>fm [(0,lqs c),(2,lit (.pointer (some ⟨b2,0,none⟩))),(13,lqs c),(14,lit (.int .i64 c.length)),(15,lit (.int .i64 k))])
  (fun _=>[(b2,70,ve)]) 0 ⟨Nat.zero_le _,hRR⟩ lfA Sr ?_
 rintro k ⟨hk,hgo⟩ K hK;by_cases hkl:k<c.length
 ·obtain⟨l,hget,hmm,hat,hne⟩:=elt dz om hkl;have hl:=hc l hmm;rw [pG hget]at hgo;have hnext:=fun(h2:eQ c (k+1) (c.drop (k+1))=R) F' H'=>hK F' H' (k+1) ⟨om,h2⟩ om
  unfold eQ at hgo;have d1:=vM hc hn hget;obtain⟨a1,a2⟩:=oV hc hget;have hle:=wH hc hget;have d2:=i9 l hl.ile;have d3:=xw (bF c k).1 hle om;have d4:=xF (l:=l) (t:=bK (bF c k).1) hl om;obtain⟨x1,x2⟩:=cZ hl;have d5:=jh (dirL l).2 om;have d6:=Cl c (atL l (bK (bF c k).1)) (-(dirL l).2,(dirL l).1) om hc a1 ⟨by show ht (-(dirL l).2)≤1;rw [cN];exact x2,x1⟩;clear hK hc hRR hmm hget a1 a2 hle x1 x2;cases hb:(bF c k).2 with
  |true =>
   rw [hb,if_pos rfl]at hgo;rw [hb]at d1;subst hgo;unfold nj;simp only [Option.getD_some,Option.isSome_some];simp only [dirL]at d5 d6⊢;generalize atL l (bK (bF c k).1)=q at *;generalize bK (bF c k).1=t at *;generalize(bF c k).1=s at *;clear hnext hb;repeat(refine A1 ⟨?_⟩;intros)
   refine Wo (a8 (cs':=lqx l) rfl rfl om om hat hne) ?_;repeat(first|(refine A1 ⟨?_⟩;intros)|refine W4 d1 ⟨?_⟩|refine W4 d2 ⟨?_⟩|refine W4 d3 ⟨?_⟩|refine W4 d4 ⟨?_⟩|refine W4 d5 ⟨?_⟩|refine W4 d6 ⟨?_⟩)
   exact G3
  |false =>
   rw [hb,if_neg (by decide)]at hgo;rw [hb]at d1;replace hnext:=hnext hgo;generalize(bF c k).1=s at *;clear d2 d3 d4 d5 d6 hb hgo;repeat(refine A1 ⟨?_⟩;intros)
   refine Wo (a8 (cs':=lqx l) rfl rfl om om hat hne) ?_;repeat(first|(refine A1 ⟨?_⟩;intros)|refine W4 d1 ⟨?_⟩)
   exact hnext _ _ lfA (by repeat(first|exact Sr|refine Sc ?_))
 ·have hke:k=c.length:=by omega
  subst hke;rw [List.drop_length]at hgo;have hR2:R=none:=hgo.symm;subst hR2;simp only [Option.getD_none,Option.isSome_none];clear hK hc hgo;repeat(refine A1 ⟨?_⟩;intros)
  ((first|refine aM ?_|refine eF ?_);exact fD (s1:=ag ve) RVa (RV.tmp rfl) (Le.tup2 (Le.ag xc) Lr))
theorem p7 {c:List Li}{k:Nat}:(List.range (k+1)).foldl (cw c) []=cw c ((List.range k).foldl (cw c) []) k:=by
 rw [List.range_succ,List.foldl_append];rfl
theorem nG (c:List Li) (out:List Li) (k:Nat):cw c out k=if(bF c k).2=true then fP alt out (c.getD k ⟨0,0,0⟩)else out:=rfl
theorem rC {c:List Li}{k:Nat}(hk:k≤c.length):∀y∈(List.range k).foldl (cw c) [],y∈c:=fun y hy=>by
 rcases(lO c (List.range k) [] y).1 hy with⟨i,hi,_,rfl⟩|h
 ·rw [List.mem_range]at hi;rw [List.getD,List.getElem?_eq_getElem (show i<c.length by omega)];exact List.getElem_mem _
 ·cases h
theorem lP {c:List Li}:∀k:Nat,((List.range k).foldl (cw c) []).length≤k
 |0=>Nat.le_refl _
 |k+1=>by
  have:=lP (c:=c) k;rw [p7,nG];split
  ·have:=iZ alt ((List.range k).foldl (cw c) []) (c.getD k ⟨0,0,0⟩);omega
  ·omega
theorem xE {c:List Li}(hc:∀m∈c,m.sm) (hn:c.length≤100000):Pu Tryz.prog 136 [lqs c] (Ab.tup [lqs (dr c),lit (.bool (decide (c=[]∨dr c≠[])))]):=by
 unfold dr;refine Pi Tryz.func136 fun C=>?_
 repeat(refine A1 ⟨?_⟩;intros)
 refine WP.loopS (ι:=Nat) (fun k=>k≤c.length) (fun k=>c.length-k)
  (fun k=>fm [(0,lqs c),(4,lqs ((List.range k).foldl (cw c) [])),(10,lqs c),(11,lit (.int .i64 c.length)),(12,lit (.int .i64 k))])
  (fun _=>[]) 0 (Nat.zero_le _) (LeF.cons Lr (LeF.cons ew lfA)) (List.nil_sublist _) ?_
 rintro k hk K hK;by_cases hkl:k<c.length
 ·obtain⟨l,hget,hmm,hat,hne⟩:=elt dz om hkl;have hl:=hc l hmm;have hgo:=fun F' H' h1 h2=>hK F' H' (k+1) om om h1 h2
  rw [p7]at hgo;have hsm:∀q∈(List.range k).foldl (cw c) [],q.sm:=fun q hq=>hc q (rC om q hq)
  have hsl:=lP (c:=c) k;have d1:=vM hc hn hget;rw [nG]at hgo;rw [show c.getD k ⟨0,0,0⟩=l by rw [List.getD,hget];rfl]at hgo;generalize(List.range k).foldl (cw c) []=out at *;have dl:=i9 l hl.ile;clear hK hmm hget hc;cases hb:(bF c k).2 with
  |false =>
   rw [hb,if_neg (by decide)]at hgo;rw [hb]at d1;generalize(bF c k).1=s at *;clear hb dl hsm;repeat(refine A1 ⟨?_⟩;intros)
   refine Wo (a8 (cs':=lqx l) rfl rfl om om hat hne) ?_;repeat(first|(refine A1 ⟨?_⟩;intros)|refine W4 d1 ⟨?_⟩)
   exact hgo _ _ lfA (by repeat(first|exact Sr|refine Sc ?_))
  |true =>
   rw [hb,if_pos rfl]at hgo;rw [hb]at d1;generalize(bF c k).1=s at *;clear hb;obtain⟨x,hx⟩:∃x,x=l:=⟨l,rfl⟩
   rw [←hx]at hgo;repeat(refine A1 ⟨?_⟩;intros)
   refine Wo (a8 (cs':=lqx l) rfl rfl om om hat hne) ?_;repeat(first|(refine A1 ⟨?_⟩;intros)|refine W4 d1 ⟨?_⟩)
   rename_i b6 b7;subst hx;refine WP.loopS (ι:=Nat) (fun j=>j≤fN alt out x) (fun j=>out.length-j) (fun j=>fm [(4,sl (out.map lqx).flatten out.length),(9,lit (.int .i64 j)),(0,lqs c),(5,lit (.int .i64 k)),(6,lit (.pointer (some ⟨b6,0,none⟩))),(7,lit (.pointer (some ⟨b7,0,none⟩))),(10,lqs c),(11,lit (.int .i64 c.length)),(12,lit (.int .i64 k))]) (fun _=>[(b7,225,spx s),(b6,123,lqx x)]) 0 (Nat.zero_le _) lfA Sr ?_;rintro j hj K2 hK2;have hpl:=kG alt out x;obtain⟨hfl,hdl,htl,hpl2,hins,hln⟩:=Gk dz out x j om;by_cases hjl:j<out.length
   ·obtain⟨o,hget2,hom,hat2,hne2⟩:=elt dz om hjl;have ho:=hsm o hom;obtain⟨z,hzz⟩:∃z,z=fE (dirL o) (dirL x):=⟨_,rfl⟩
    have do':=i9 o ho.ile;have hdo:=cZ ho;have hdx:=cZ hl;have ca:=AG (dirL o) (dirL x) ⟨by have:=hdo.1;omega,by have:=hdo.2;omega⟩ ⟨by have:=hdx.1;omega,by have:=hdx.2;omega⟩;have cc:=qw (l:=o) (m:=x) ho.ile hl.ile;have hlt:alt o x=decide (z<0):=by rw [hzz]
    have heq:lN o x=0↔o=x:=eB;generalize lN o x=y at *;rw [←hzz]at ca;simp only [dirL]at do' dl ca;obtain⟨s1,s2⟩:=kF (lt:=alt) (x:=x) hj hget2;rw [hlt]at s1 s2;by_cases hneg:z<0
    ·have hj1:=s1 (decide_eq_true hneg);clear hgo s1 s2
     as_aux_lemma =>
      repeat(refine A1 ⟨?_⟩;intros)
      refine cL (a8 (cs':=lqx o) rfl rfl om om hat2 hne2) ?_;repeat(first|(refine A1 ⟨?_⟩;intros)|refine W4 do' ⟨?_⟩|refine W4 dl ⟨?_⟩|refine W4 ca ⟨?_⟩|refine W4 cc ⟨?_⟩)
      exact hK2 _ _ (j+1) hj1 om lfA Sr
    ·have hje:=s2 (decide_eq_false hneg);clear hK2 s1 s2;by_cases hz:o=x
     ·rw [pC hje hget2 hz]at hgo;have hz0:=heq.2 hz;clear heq
      as_aux_lemma =>
       repeat(refine A1 ⟨?_⟩;intros)
       refine cL (a8 (cs':=lqx o) rfl rfl om om hat2 hne2) ?_;repeat(first|(refine A1 ⟨?_⟩;intros)|refine W4 do' ⟨?_⟩|refine W4 dl ⟨?_⟩|refine W4 ca ⟨?_⟩|refine W4 cc ⟨?_⟩)
       refine cL (a8 (cs':=lqx o) rfl rfl om om hat2 hne2) ?_;repeat(first|(refine A1 ⟨?_⟩;intros)|refine W4 do' ⟨?_⟩|refine W4 dl ⟨?_⟩|refine W4 ca ⟨?_⟩|refine W4 cc ⟨?_⟩)
       exact hgo _ _ lfA (by repeat(first|exact Sr|refine Sc ?_))
     ·rw [pD hje hget2 hz]at hgo;have hz0:¬y=0:=fun e=>hz (heq.1 e)
      clear heq
      as_aux_lemma =>
       repeat(refine A1 ⟨?_⟩;intros)
       refine cL (a8 (cs':=lqx o) rfl rfl om om hat2 hne2) ?_;repeat(first|(refine A1 ⟨?_⟩;intros)|refine W4 do' ⟨?_⟩|refine W4 dl ⟨?_⟩|refine W4 ca ⟨?_⟩|refine W4 cc ⟨?_⟩)
       refine cL (a8 (cs':=lqx o) rfl rfl om om hat2 hne2) ?_;repeat(first|(refine A1 ⟨?_⟩;intros)|refine W4 do' ⟨?_⟩|refine W4 dl ⟨?_⟩|refine W4 ca ⟨?_⟩|refine W4 cc ⟨?_⟩)
       refine Wdo (fS j rfl rfl rfl rfl rfl hfl om) ?_;repeat(first|(refine Wdo (gO (s:=ag (lqx x)) (ds:=lqx x) rfl inferInstance) ?_)|(refine Wdo (fR j rfl rfl rfl hfl om) ?_)|(refine A1 ⟨?_⟩;intros))
       refine Wdo (ay (k:=1) (k0:=out.length-j) rfl rfl rfl hdl om) ?_;refine Wdo (ay (k:=j) (k0:=1+(out.length-j)) rfl rfl htl hpl2 om) ?_;rw [hins,hln];repeat(refine A1 ⟨?_⟩;intros)
       exact hgo _ _ lfA (by repeat(first|exact Sr|refine Sc ?_))
   ·have hje:j=out.length:=by omega
    rw [n9 hje hj]at hgo;clear hK2
    as_aux_lemma =>
     repeat(refine A1 ⟨?_⟩;intros)
     refine Wdo (fS j rfl rfl rfl rfl rfl hfl om) ?_;repeat(first|(refine Wdo (gO (s:=ag (lqx x)) (ds:=lqx x) rfl inferInstance) ?_)|(refine Wdo (fR j rfl rfl rfl hfl om) ?_)|(refine A1 ⟨?_⟩;intros))
     refine Wdo (ay (k:=1) (k0:=out.length-j) rfl rfl rfl hdl om) ?_;refine Wdo (ay (k:=j) (k0:=1+(out.length-j)) rfl rfl htl hpl2 om) ?_;rw [hins,hln];repeat(refine A1 ⟨?_⟩;intros)
     exact hgo _ _ lfA (by repeat(first|exact Sr|refine Sc ?_))
 ·have hke:k=c.length:=by omega
  subst hke;clear hK;generalize(List.range c.length).foldl (cw c) []=out at *;cases c with
  |nil =>
   simp only [true_or,decide_true];repeat(refine A1 ⟨?_⟩;intros)
   exact G2
  |cons a c =>
   simp only [List.cons_ne_nil,false_or];cases out with
   |nil =>
    simp only [ne_eq,not_true_eq_false,decide_false];repeat(refine A1 ⟨?_⟩;intros)
    exact G2
   |cons b out =>
    have hbl:(b::out).length=out.length+1:=rfl;simp only [ne_eq,List.cons_ne_nil,not_false_eq_true,decide_true];repeat(refine A1 ⟨?_⟩;intros)
    exact G2
end Go.Ab
