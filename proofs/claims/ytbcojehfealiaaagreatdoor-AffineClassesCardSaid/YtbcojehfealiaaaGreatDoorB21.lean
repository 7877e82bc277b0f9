/- Texts laid one behind the other: CvxC, PLn, WdS, PIv, PCut, Elt, GmC, PPart, PAng, Cpy, PIns, PBs. -/
import Derived.Test.YtbcojehfealiaaaGreatDoorB20
import Derived.Laws.CopyRow
import Derived.Lib.Overlaps
import Derived.Laws.MakeOwn
set_option linter.all false
namespace Go.Ab
open Go.Proofs
variable [Base]
def bE (c:PC) (l:Li):PC:=c.filterMap fun s=>(eN s.1 s.2 l).map fun w=>(s.1,w)
def fA (pos:PC→Nat) (c:PC) (l:Li):PC×Bool:=match mO c l with
 |some v=>((bE c l).take (pos (bE c l))++(l,v)::(bE c l).drop (pos (bE c l)),true)
 |none=>(c,decide (0<ll c l))
theorem ov {c:PC}{l:Li}{s:Fg}:s∈bE c l↔∃s0∈c,s0.1=s.1∧eN s0.1 s0.2 l=some s.2:=by
 unfold bE;rw [List.mem_filterMap];constructor
 ·rintro ⟨s0,h1,h2⟩;obtain⟨w,h3,h4⟩:=Option.map_eq_some_iff.1 h2;exact⟨s0,h1,by rw [←h4],by rw [←h4];exact h3⟩
 ·rintro ⟨s0,h1,h2,h3⟩;exact⟨s0,h1,by rw [h3];exact congrArg some (Prod.ext h2 rfl)⟩
theorem ou (c:PC) (l:Li):(aa (bE c l)).Sublist (aa c):=by
 induction c with
 |nil=>exact List.Sublist.slnil
 |cons s c ih =>
  unfold bE;rw [List.filterMap_cons];cases h:eN s.1 s.2 l with
  |none=>exact ih.cons _
  |some w=>exact ih.cons_cons _
theorem iX {α:Type}(a:List α) (x:α) (n:Nat):(a.take n++x::a.drop n).Perm (x::a):=by
 have:=(List.perm_middle (a:=x) (l₁:=a.take n) (l₂:=a.drop n))
 rw [List.take_append_drop]at this;exact this
theorem yr {c:PC}{l:Li}{v:Spn}(pos:Nat):∀m,m∈aa ((bE c l).take pos++(l,v)::(bE c l).drop pos)↔m=l∨m∈aa (bE c l):=fun m=>by
 have:=((iX (bE c l) (l,v) pos).map Prod.fst).mem_iff (a:=m);rw [aa,this,List.map_cons,List.mem_cons]
theorem DP {C d:List Li}(hok:∀l∈C,l.ok) (hq:∃q,Inn C q) (hC:∀m∈d,m∈C) (hin:∀q,Inn d q→Inn C q){m:Li}(hm:m∈C) (t:Rat) (ht:∀j∈d,j≠m→0<a6 j (atL m t)):∀j∈C,j≠m→0<a6 j (atL m t):=fun j hj hne=>by
 have hmo:=hok m hm
 have hge:∀u,(∀i∈d,i≠m→0<a6 i (atL m u))→0≤a6 j (atL m u):=fun u hu=>by
  refine Rat.not_lt.1 fun hn=>?_
  obtain⟨e,he,hs⟩:=fo (fun i:Option Li=>match i with|none => - a6 j (atL m u)|some i=>a6 i (atL m u)) (fun i=>match i with|none => -((j.a:Rat)*m.a+j.b*m.b)|some i=>(i.a:Rat)*m.a+i.b*m.b)
   (none::(d.filter fun i=>decide (i≠m)).map some) (fun i hi=>by
    rcases List.mem_cons.1 hi with rfl|hi
    ·simp only;grind
    ·obtain⟨i',hi',rfl⟩:=List.mem_map.1 hi;rw [List.mem_filter,decide_eq_true_eq]at hi';exact hu i' hi'.1 hi'.2)
  have hI:Inn d ((atL m u).1+e*m.a,(atL m u).2+e*m.b):=fun i hi=>by
   rw [bS];by_cases him:i=m
   ·rw [him,fH hmo,Rat.zero_add];exact Rat.mul_pos he (cW hmo)
   ·exact hs (some i) (Mc (List.mem_map.2 ⟨i,List.mem_filter.2 ⟨hi,decide_eq_true him⟩,rfl⟩)) e he Rat.le_refl
  have h1:=hin _ hI j hj;have h2:=hs none List.mem_cons_self e he Rat.le_refl;rw [bS]at h1;simp only at h2;grind
 have h0:=hge t ht;by_cases hz:a6 j (atL m t)=0
 ·exfalso
  obtain⟨e,he,hs⟩:=fo (fun i:Li×Bool=>a6 i.1 (atL m t)) (fun i=>if i.2 then slp m i.1 else-slp m i.1)
   (((d.filter fun i=>decide (i≠m)).map fun i=>(i,true))++((d.filter fun i=>decide (i≠m)).map fun i=>(i,false))) (fun i hi=>by
    rcases List.mem_append.1 hi with hi|hi <;> (obtain⟨i',hi',rfl⟩:=List.mem_map.1 hi;rw [List.mem_filter,decide_eq_true_eq]at hi';exact ht i' hi'.1 hi'.2))
  have g1:=hge (t+e) fun i hi him=>by
   have:=hs (i,true) (List.mem_append_left _ (List.mem_map.2 ⟨i,List.mem_filter.2 ⟨hi,decide_eq_true him⟩,rfl⟩)) e he Rat.le_refl;simp only [if_true]at this;rw [aR]at this⊢;grind
  have g2:=hge (t-e) fun i hi him=>by
   have:=hs (i,false) (List.mem_append_right _ (List.mem_map.2 ⟨i,List.mem_filter.2 ⟨hi,decide_eq_true him⟩,rfl⟩)) e he Rat.le_refl;simp only [Bool.false_eq_true,if_false]at this;rw [aR]at this⊢;grind
  have v1:a6 j (atL m (t+e))=e*slp m j:=by rw [aR]at hz⊢;grind
  have v2:a6 j (atL m (t-e)) = -(e*slp m j):=by rw [aR]at hz⊢;grind
  rw [v1]at g1;rw [v2]at g2;have hz2:a6 j (atL m (t+e))=0:=by rw [v1];grind
  obtain⟨q,hq⟩:=hq;have p1:=hq j hj;have p2:=hq m hm;rcases ql hmo (hok j hj) (show t≠t+e by grind) hz hz2 with k|k
  ·exact hne k
  ·rw [k,fU]at p1;grind
 ·grind
theorem nF {c:PC}(h:dH c){l:Li}(hl:l.ok) (pos:PC→Nat){d:PC}(hd:fA pos c l=(d,true)):dH d∧Inn (aa d)=fun q=>Inn (aa c) q∧0<a6 l q:=by
 unfold fA at hd;cases hp:mO c l with
 |none =>
  rw [hp]at hd;simp only [Prod.mk.injEq,decide_eq_true_eq]at hd;obtain⟨rfl,h0⟩:=hd
  have hpl:ll c l=1∧¬Rgt (Inn (aa c)) l:=by
   rcases sE h hl with⟨r,_,_⟩|⟨r,_,b⟩|⟨r,_,_⟩
   ·omega
   ·exact⟨r,b⟩
   ·omega
  refine⟨h,funext fun q=>propext ⟨fun hq=>⟨hq,?_⟩,And.left⟩⟩;have hm:=lm hl hp;by_cases h1:a6 l q<0
  ·exact absurd ⟨q,hq,h1⟩ hpl.2
  ·by_cases h2:a6 l q=0
   ·exact absurd hq (hm q h2)
   ·grind
 |some v =>
  rw [hp]at hd;simp only [Prod.mk.injEq,and_true]at hd;obtain⟨hv,t,ht⟩:=qE hp;have hin:=(hv t).1 ht
  have hlc:l∉aa c:=fun hm=>by
   have:=hin l hm;rw [fH hl]at this;exact absurd this (by decide)
  have hlin:∀m,m∈aa d↔m=l∨m∈aa (bE c l):=fun m=>by rw [←hd];exact yr _ m
  have hck:∀m∈aa (bE c l),m∈aa c:=fun m hm=>(ou c l).subset hm
  have hok:∀m∈aa c++[l],m.ok:=gz h.lok hl
  have hq:∃q,Inn (aa c++[l]) q:=by
   have:Edg (aa c++[l]) l:=⟨atL l t,fH hl t,fun j hj hne=>by
    rcases List.mem_append.1 hj with hj|hj
    ·exact hin j hj
    ·exact absurd (List.mem_singleton.1 hj) hne⟩
   obtain⟨q,hq,_⟩:=this.inn hl;exact⟨q,hq⟩
  have hkept:∀m∈aa c++[l],Edg (aa c++[l]) m→m∈aa d:=fun m hm he=>by
   rw [hlin];rcases List.mem_append.1 hm with hm|hm
   ·right;obtain⟨s,hs,rfl⟩:=List.mem_map.1 hm;obtain⟨r,hr,hj⟩:=he;have hml:s.1≠l:=fun e=>hlc (e▸List.mem_map.2 ⟨s,hs,rfl⟩)
    cases hc:eN s.1 s.2 l with
    |some w=>exact List.mem_map.2 ⟨(s.1,w),ov.2 ⟨s,hs,rfl,hc⟩,rfl⟩
    |none =>
     refine absurd ⟨((h.span s hs).1 (bO s.1 r)).2 fun j hj' hne=>?_,?_⟩ (tn hc (bO s.1 r))
     ·rw [lR (h.ok s hs) hr];exact hj j (List.mem_append_left _ hj') hne
     ·rw [lR (h.ok s hs) hr];exact hj l (List.mem_append_right _ Ms) (fun e=>hml e.symm)
   ·exact .inl (List.mem_singleton.1 hm)
  have hinn:Inn (aa d)=fun q=>Inn (aa c) q∧0<a6 l q:=by
   funext p
   refine propext ?_;rw [←ed];obtain⟨q,hq⟩:=hq;constructor
   ·intro hp;exact Inn.kept hok hq hkept hp
   ·intro hp m hm;rcases(hlin m).1 hm with e|e
    ·rw [e];exact hp l (List.mem_append_right _ Ms)
    ·exact hp m (List.mem_append_left _ (hck m e))
  have hmem:∀s,s∈d↔s=(l,v)∨s∈bE c l:=fun s=>by
   rw [←hd];rw [(iX (bE c l) (l,v) _).mem_iff,List.mem_cons]
  refine⟨⟨fun s hs=>?_,?_,?_,fun s hs=>?_⟩,hinn⟩
  ·rcases(hmem s).1 hs with e|e
   ·rw [e];exact hl
   ·obtain⟨s0,h1,h2,_⟩:=ov.1 e;rw [←h2];exact h.ok s0 h1
  ·obtain⟨q,hq⟩:=hq;exact⟨q,by rw [hinn];exact ed.1 hq⟩
  ·rw [aa,←hd];rw [((iX (bE c l) (l,v) (pos (bE c l))).map Prod.fst).nodup_iff,List.map_cons,List.nodup_cons];exact⟨fun hm=>hlc (hck l hm),h.nd.sublist (ou c l)⟩
  ·have hC:∀m∈aa d,m∈aa c++[l]:=fun m hm=>by
    rcases(hlin m).1 hm with e|e
    ·rw [e];exact List.mem_append_right _ Ms
    ·exact List.mem_append_left _ (hck m e)
   have hinC:∀q,Inn (aa d) q→Inn (aa c++[l]) q:=fun q hq=>by rw [hinn]at hq;exact ed.2 hq
   have key:=DP hok hq hC hinC (m:=s.1) (hC _ (List.mem_map.2 ⟨s,hs,rfl⟩));have hall:∀t,(∀j∈aa c++[l],j≠s.1→0<a6 j (atL s.1 t))↔∀j∈aa d,j≠s.1→0<a6 j (atL s.1 t):=fun t=>⟨fun k j hj=>k j (hC j hj),fun k=>key t k⟩
   rcases(hmem s).1 hs with e|e
   ·refine⟨fun t=>?_,by rw [e];exact⟨t,ht⟩⟩;rw [←hall];have:=hv t;rw [e];simp only;rw [this];constructor
    ·intro k j hj hne;rcases List.mem_append.1 hj with hj|hj
     ·exact k j hj
     ·exact absurd (List.mem_singleton.1 hj) hne
    ·intro k j hj;exact k j (List.mem_append_left _ hj) (fun e=>hlc (e▸hj))
   ·obtain⟨s0,h1,h2,h3⟩:=ov.1 e;obtain⟨g1,g2⟩:=h.span s0 h1;refine⟨fun t=>?_,j8 g2 h3⟩;rw [←hall,←h2,dV h3,g1];have hsl:s0.1≠l:=fun e=>hlc (e▸List.mem_map.2 ⟨s0,h1,rfl⟩)
    constructor
    ·rintro ⟨k1,k2⟩ j hj hne;rcases List.mem_append.1 hj with hj|hj
     ·exact k1 j hj hne
     ·rw [List.mem_singleton.1 hj];exact k2
    ·intro k;exact⟨fun j hj hne=>k j (List.mem_append_left _ hj) hne,k l (List.mem_append_right _ Ms) (fun e=>hsl e.symm)⟩
theorem tr {c:PC}(h:dH c){l:Li}(hl:l.ok) (pos:PC→Nat):(fA pos c l).2=true↔Lft (Inn (aa c)) l:=by
 unfold fA;have hpl:=sE h hl;unfold ll at *;cases hp:mO c l with
 |some v =>
  rw [hp]at hpl;rcases hpl with⟨_,a,_⟩|⟨r,_⟩|⟨r,_⟩
  ·exact⟨fun _=>a,fun _=>rfl⟩
  ·cases r
  ·cases r
 |none =>
  rw [hp]at hpl;simp only [decide_eq_true_eq];rcases hpl with⟨r,a,_⟩|⟨r,a,_⟩|⟨r,a,_⟩
  ·rw [r];have hm:=lm hl hp;rename_i b;exact absurd ⟨a,b⟩ (qK hm)
  ·rw [r];exact⟨fun _=>a,fun _=>by decide⟩
  ·rw [r];exact⟨fun k=>absurd k (by decide),fun k=>absurd k a⟩
abbrev lfl (l:Li):SV:=lf l.a l.b l.c
abbrev ppq (p:Pq):SV:=pp p.1 p.2
theorem Li.le.hts {l:Li}{L:Nat}(h:l.le L) (hL:1≤L):ht (l.a:Rat)≤L∧ht (l.b:Rat)≤L∧ht (l.c:Rat)≤L:=by
 have ha:=eA l.a h.a;have hb:=eA l.b h.b;have hc:=eA l.c h.c;omega
theorem Gh (l:Li) (h:l.le 1000000):Pu Tryz.prog 187 [lfl l] (ppq (dirL l)):=by
 have ha:=eA l.a h.a;have c1:=ji (l.a:Rat) om;refine Pi Tryz.func187 fun C=>?_
 exact X1 c1
theorem BM {l:Li}{L:Nat}(h:l.le L) (hL:1≤L){p:Pq}{n:Nat}(k:hp p n):ht (a6 l p)≤2*n+7*L:=by
 obtain⟨h1,h2,h3⟩:=h.hts hL;obtain⟨k1,k2⟩:=k;have:=af (l.a:Rat) p.1;have:=af (l.b:Rat) p.2;have:=aO ((l.a:Rat)*p.1) ((l.b:Rat)*p.2);have:=aO ((l.a:Rat)*p.1+(l.b:Rat)*p.2) (l.c:Rat);unfold a6;omega
theorem wn {l:Li}{L:Nat}(h:l.le L) (hL:1≤L) (hU:L≤10000){p:Pq}(k:hp p 100000):Pu Tryz.prog 186 [lfl l,ppq p] (lit (.int .i64 (cM l p))):=by
 obtain⟨ha,hb,hc⟩:=h.hts hL;have hv:=BM h hL k;have c1:=sR (l.a:Rat) l.b l.c p.1 p.2 om om om k.1 k.2;have c2:=gX (a6 l p) om;clear ha hb hc hv;refine Pi Tryz.func186 fun C=>?_
 exact Y2 c1 c2
section
variable {P:Program}{C:Ctx}{n:Nat}{F:Fr}{H:LH}{Q:Exit→Fr→LH→Prop}
end
theorem Dx:ht (0:Rat)≤1:=by have:=ez;omega
theorem elt {α:Type}{f:α→List SV}{n:Nat}(hf:∀a,(f a).length=n) (hn:0<n){l:List α}{k:Nat}(hk:k<l.length):∃a,l[k]? = some a∧a∈l∧(((l.map f).flatten).drop (k*n)).take n=f a∧(l.map f).flatten≠[] :=
 have h:=List.getElem?_eq_getElem hk
 ⟨l[k],h,List.mem_of_getElem? h,cX hf h,e7 hf om (fun e=>by rw [e]at hk;simp at hk)⟩
theorem Gk {α:Type}{f:α→List SV}{n:Nat}(hf:∀a,(f a).length=n) (out:List α) (x:α) (j:Nat) (hj:j≤out.length):((out.map f).flatten).length=out.length*n∧(((out.map f).flatten).drop (j*n)).length=(out.length-j)*n∧(((out.map f).flatten).take (j*n)).length=j*n∧
  (f x++((out.map f).flatten).drop (j*n)).length=(1+(out.length-j))*n∧((out.map f).flatten).take (j*n)++(f x++((out.map f).flatten).drop (j*n))=((out.take j++x::out.drop j).map f).flatten∧j+(1+(out.length-j))=(out.take j++x::out.drop j).length:=by
 have hfl:=bk hf out;have hdl:(((out.map f).flatten).drop (j*n)).length=(out.length-j)*n:=by rw [List.length_drop,hfl,Nat.sub_mul]
 refine⟨hfl,hdl,?_,?_,sX hf out x j,?_⟩
 ·have:=Nat.mul_le_mul_right n hj;rw [List.length_take,hfl];omega
 ·rw [List.length_append,hdl,hf,Nat.add_mul,Nat.one_mul]
 ·rw [List.length_append,List.length_cons,List.length_take,List.length_drop];omega
section
variable {α:Type}{lt:α→α→Bool}{out:List α}{x o:α}{j:Nat}
theorem zI (hj:j=fN lt out x):ws lt out x=out.take j++x::out.drop j:=by unfold ws;rw [←hj]
theorem pC [DecidableEq α] (hj:j=fN lt out x) (ho:out[j]? = some o) (e:o=x):fP lt out x=out:=by unfold fP;rw [←hj,if_pos (by rw [ho,e])]
theorem pD [DecidableEq α] (hj:j=fN lt out x) (ho:out[j]? = some o) (e:¬o=x):fP lt out x=out.take j++x::out.drop j:=by
 unfold fP;rw [←hj,if_neg (by rw [ho];exact fun h=>e (Option.some.inj h))];exact zI hj
theorem n9 [DecidableEq α] (hj:j=out.length) (h:j≤fN lt out x):fP lt out x=out.take j++x::out.drop j:=by
 have hp:=kG lt out x;have he:j=fN lt out x:=by omega
 unfold fP;rw [←he,if_neg (by rw [List.getElem?_eq_none om];intro h;cases h)];exact zI he
end
theorem pG {α:Type}{l:List α}{k:Nat}{a:α}(h:l[k]? = some a):l.drop k=a::l.drop (k+1):=by
 obtain⟨h1,h2⟩:=List.getElem?_eq_some_iff.1 h;rw [List.drop_eq_getElem_cons h1,h2]
theorem Bg {out:List Rat}{s:Spn}{y:Rat}(h:y∈gt out s):y∈out∨(s.nl=false∧y=s.lo)∨(s.nh=false∧y=s.hi):=by
 unfold gt at h
 have h1:∀{y},y∈(if s.nl then out else fP rlt out s.lo)→y∈out∨(s.nl=false∧y=s.lo):=fun {y} hy=>by
  split at hy
  ·exact .inl hy
  ·rename_i hn;rcases iY.1 hy with e|e
   ·exact .inr ⟨by simpa using hn,e⟩
   ·exact .inl e
 simp only at h;split at h
 ·rcases h1 h with e|e
  ·exact .inl e
  ·exact .inr (.inl e)
 ·rename_i hn;rcases iY.1 h with e|e
  ·exact .inr (.inr ⟨by simpa using hn,e⟩)
  ·rcases h1 e with e|e
   ·exact .inl e
   ·exact .inr (.inl e)
theorem th:∀(l:List Spn) (out:List Rat) (y:Rat),y∈l.foldl gt out→y∈out∨∃s∈l,(s.nl=false∧y=s.lo)∨(s.nh=false∧y=s.hi)
 | [],out,y,h => .inl h
 |s::l,out,y,h=>by
  rcases th l _ y h with h|⟨s',h1,h2⟩
  ·rcases Bg h with h|h
   ·exact .inl h
   ·exact .inr ⟨s,Ms,h⟩
  ·exact .inr ⟨s',Mc h1,h2⟩
theorem DN {l:List Spn}{y:Rat}(h:y∈cq l):∃s∈l,(s.nl=false∧y=s.lo)∨(s.nh=false∧y=s.hi):=by
 rcases th l [] y h with h|h
 ·cases h
 ·exact h
theorem Bh (out:List Rat) (s:Spn):(gt out s).length≤out.length+2:=by
 have h1:=iZ rlt out s.lo;unfold gt;simp only;split
 ·split <;> omega
 ·split
  ·have:=iZ rlt out s.hi;omega
  ·have:=iZ rlt (fP rlt out s.lo) s.hi;omega
theorem ti:∀(l:List Spn) (out:List Rat),(l.foldl gt out).length≤out.length+2*l.length
 | [],out=>by simp
 |s::l,out=>by
  have:=ti l (gt out s);have:=Bh out s;rw [List.foldl_cons,List.length_cons];omega
theorem wE (l:List Spn):(cq l).length≤2*l.length:=by
 have:=ti l [];unfold cq;simpa using this
theorem zS {l:List Spn}{n:Nat}(h:∀s∈l,s.le n):∀y∈cq l,ht y≤n:=fun y hy=>by
 obtain⟨s,hs,⟨_,rfl⟩|⟨_,rfl⟩⟩:=DN hy
 ·exact(h s hs).1
 ·exact(h s hs).2
theorem jl (c:List Rat):(dC c).length=c.length+1:=by
 cases c with
 |nil=>rfl
 |cons a c=>unfold dC;simp
theorem zz (x y:Rat){n:Nat}(h:ht x≤n) (k:ht y≤n):ht (gP x y)≤2*n+4:=by
 have h1:=aO x y;have h2:ht (2:Rat)≤1:=j5 2 om;have h3:=lz (x+y) 2;unfold gP;omega
theorem BC {α β γ:Type}{f:α→β→γ}:∀{a:List α}{b:List β}{y:γ},y∈List.zipWith f a b→∃p∈a,∃q∈b,y=f p q
 | [],b,y,h=>by simp at h
 |_::_,[],y,h=>by simp at h
 |p::a,q::b,y,h=>by
  rw [List.zipWith_cons_cons,List.mem_cons]at h;rcases h with h|h
  ·exact⟨p,Ms,q,Ms,h⟩
  ·obtain⟨p',h1,q',h2,h3⟩:=BC h;exact⟨p',Mc h1,q',Mc h2,h3⟩
theorem AJ {c:List Rat}{n:Nat}(h:∀y∈c,ht y≤n):∀y∈dC c,ht y≤2*n+4:=by
 have h1:=fv;have h0:=ez;cases c with
 |nil=>intro y hy;simp only [dC,List.mem_singleton]at hy;rw [hy];omega
 |cons a c =>
  intro y hy;unfold dC at hy;simp only [List.mem_cons,List.mem_append,List.mem_singleton,List.not_mem_nil,or_false]at hy;rcases hy with hy|hy|hy
  ·have:=h a Ms;have:=dG a 1;rw [hy];omega
  ·obtain⟨p,hp,q,hq,rfl⟩:=BC hy;exact zz p q (h p hp) (h q (Mc hq))
  ·have hg:(a::c).getLast (by simp)∈a::c:=List.getLast_mem _;have:=h _ hg;have:=aO ((a::c).getLast (by simp)) 1;rw [hy];omega
def J9 (c:List Rat) (s:Spn):Prop:=(s.lo=0∨s.lo∈c)∧(s.hi=0∨s.hi∈c)
theorem uK (c:List Rat) (marks:List Bool) (out:List Spn) (i:Nat):(cK c marks out i).length≤out.length+1:=by
 unfold cK;split
 ·omega
 ·split
  ·rw [List.length_set];omega
  ·rw [List.length_append,List.length_singleton];omega
theorem J9.le {c:List Rat}{s:Spn}{n:Nat}(h:J9 c s) (hn:1≤n) (hc:∀y∈c,ht y≤n):s.le n:=by
 have h0:=ez;constructor
 ·rcases h.1 with e|e
  ·rw [e];omega
  ·exact hc _ e
 ·rcases h.2 with e|e
  ·rw [e];omega
  ·exact hc _ e
abbrev Spn.none:Spn:=⟨0,0,false,false⟩
theorem vU (v:Pq) (h:hp v 1000000):Pu Tryz.prog 227 [ppq v] (lit (.int .i64 (iu v))):=by
 obtain⟨h1,h2⟩:=h;have c1:=gX v.1 om;have c2:=gX v.2 om;rw [t7];generalize v.1.num.sign=x at *;generalize v.2.num.sign=y at *;clear h1 h2;by_cases a2:0<y
 ·rw [if_neg om,if_pos (.inl a2)];refine Pi Tryz.func227 fun C=>?_
  exact Y2 c1 c2
 ·by_cases a3:y=0
  ·subst a3;by_cases a4:0<x
   ·rw [if_neg om,if_pos (.inr ⟨rfl,a4⟩)];refine Pi Tryz.func227 fun C=>?_
    exact Y2 c1 c2
   ·by_cases a5:x=0
    ·subst a5;rw [if_pos ⟨rfl,rfl⟩];refine Pi Tryz.func227 fun C=>?_
     exact Y2 c1 c2
    ·rw [if_neg om,if_neg om];refine Pi Tryz.func227 fun C=>?_
     exact Y2 c1 c2
  ·rw [if_neg om,if_neg om];refine Pi Tryz.func227 fun C=>?_
   exact Y2 c1 c2
theorem sH (u v:Pq) (h:hp u 400000) (k:hp v 400000):Pu Tryz.prog 183 [ppq u,ppq v] (lit (.int .i64 (fE u v))):=by
 have hx:=kQ h k;obtain⟨h1,h2⟩:=h;obtain⟨k1,k2⟩:=k;have c1:=vU u ⟨om,om⟩;have c2:=vU v ⟨om,om⟩;have c3:=o6 u.1 u.2 v.1 v.2 om om om om;have c4:=gX (a7 u v) om;have hs : -1≤(a7 u v).num.sign∧(a7 u v).num.sign≤1:=by have:=Int.sign_trichotomy (a7 u v).num;omega
 unfold fE;rw [show u.1*v.2-u.2*v.1=a7 u v from rfl]at c3;generalize iu u=a at *;generalize iu v=b at *;clear h1 h2 k1 k2 hx;by_cases e:a=b
 ·rw [if_neg (fun k=>k e)];generalize(a7 u v).num.sign=z at *;refine Pi Tryz.func183 fun C=>?_
  repeat(first|(refine A1 ⟨?_⟩;intros)|refine W4 c1 ⟨?_⟩|refine W4 c2 ⟨?_⟩|refine W4 c3 ⟨?_⟩|refine W4 c4 ⟨?_⟩)
  exact E1
 ·rw [if_pos e];clear hs;by_cases f:a<b
  ·rw [if_pos f];refine Pi Tryz.func183 fun C=>?_
   exact Y2 c1 c2
  ·rw [if_neg f];refine Pi Tryz.func183 fun C=>?_
   exact Y2 c1 c2
section
variable {P:Program}{C:Ctx}{n:Nat}{F:Fr}{H:LH}{ops:Array Oper}{K:Fr→LH→Prop}{rest:List Oper}{ty:TypeId}{pos:String}{aft:Array Edge}
theorem zj {T e:TypeId}{sz by_:Nat}{z:List SV}{g:Bool} [hS:TSl P T e] [hT:TY P e sz by_ z g]{x y:Operand}{b k c:Nat}{v:Int}(j:Nat) (hx:ev F x=lit (.slice (some ⟨b,0,none⟩) k c)) (hy:ev F y=lit (.int .i64 v)) (hv:v=(j:Int)) (hj:j≤k) (hc:j<c) :
  OpV P (.slice T x (some y) none none) ty F H (lit (.slice (some ⟨b,j*sz,none⟩) (k-j) (c-j))) :=
 OpV.pure fun m w o a ho _ _ _ h=>by
  have e0:=h x (by simp [Op.operands]);rw [hx,aj]at e0;have e1:=h y (by simp [Op.operands]);rw [hy,aj]at e1;subst hv
  have hb:(Instr.sliceBounds true k c (some (a.eval y)) none none).run P w = .ok (j,k,c) w:=by
   simp [Instr.sliceBounds,gH j k _ e1 hj]
  refine⟨.slice (some ⟨b,j*sz,none⟩) (k-j) (c-j),?_,aj.2 rfl⟩;have hne:¬c=j:=by omega
  simp [execOp,ho,Instr.sliceAt,Instr.slice,underlying,hS.h,e0,hb,hT.run_size,aK,hne]
end
section
variable {P:Program}{C:Ctx}{n:Nat}{F:Fr}{H:LH}{ops:Array Oper}{K:Fr→LH→Prop}{rest:List Oper}{ty:TypeId}{pos:String}{aft:Array Edge}
end
section
variable {F:Fr}{H:LH}{ty:TypeId}
end
section
variable {P:Program}{F:Fr}{H:LH}{ty:TypeId}
theorem cC {x:Operand}{f:FuncId}{l:List Operand}{tys:Array TypeId}{svs:List SV}{res:SV}(hx:ev F x=lit (.func (.func f) #[] #[])) (hc:Pu P f svs res) (ha:l.map (ev F)=svs) :
  OpV P (.call ⟨.value x,l.toArray,tys⟩) ty F H res:=by
 unfold Pu at hc;refine OpV.of0 ?_;intro m w o a ho hty h1 h2 h3 K Q hK;have hargs:=ka (m:=m) (a:=a) l fun x hx=>evA h3 (by simp [Op.operands,Call.operands,hx])
 rw [ha]at hargs;have hxv:=evA (x:=x) h3 (by simp [Op.operands,Call.operands]);rw [hx,aj]at hxv;have hcall:=hc.2 m w _ h1 hargs;unfold Oper.wp
 have hrun:(execOp a.eval o).run P w = .ok (.enter f (l.map a.eval).toArray) w:=by
  simp [execOp,ho,resolve,hxv,Deferred.ofValue,invoke,cV hc.1]
 rw [hrun];refine Calls.mono hcall ?_;rintro e w' ⟨v,m',rfl,hp,hm',hr⟩;exact hK v m' w' hp hm' hr
end
def jF (p:Nat→Bool):Nat→Nat→Nat→Nat
 |0,i,_=>i
 |f+1,i,j=>if i<j then(if p ((i+j)/2)then jF p f ((i+j)/2+1) j else jF p f i ((i+j)/2))else i
def eE (l:Li) (c:PC):Nat:=jF (fun k=>decide (fE (dirL ((c.getD k (⟨0,0,0⟩,Spn.none)).1)) (dirL l)<0)) (c.length+1) 0 c.length
end Go.Ab
