/- Texts laid one behind the other: Txt, TxtB, Nrm, RgW, RgP, RgC, RgO, Maps, ImgA, ImT, Inverts, Tow, ArC, ArD, Uf, TcC, ZipC, TcD, TcE. -/
import Derived.Laws.IdiomStrings
import Derived.Test.YtbcojehfealiaaaGreatDoorB28
set_option linter.all false
set_option maxHeartbeats 16000000
namespace Go.Ab
open Go.Proofs
variable [Base]
section
variable {P:Program}{F:Fr}{H:LH}{ty:TypeId}
end
abbrev apx (p:Pq):List SV:=[lit (.bool (decide (p.1.num<0))),nat p.1.num.natAbs,nat p.1.den,lit (.bool (decide (p.2.num<0))),nat p.2.num.natAbs,nat p.2.den]
abbrev aps (l:List Pq):SV:=sl (l.map apx).flatten l.length
structure LC where
 k:Nat
 s:SV
 Hs:LH
theorem eA {α β:Type}{f:α→List β}{l:List α}{k:Nat}{a:α}(h:l[k]? = some a):((l.take (k+1)).map f).flatten=((l.take k).map f).flatten++f a:=by
 rw [dM h,List.map_append,List.flatten_append];simp
theorem GJ (l:List Pq) (hl:l.length≤100000) (hh:∀p∈l,ht p.1≤100000000∧ht p.2≤100000000):Pu Tryz.prog 143 [rps l] (aps l):=by
 refine Pi Tryz.func143 fun C=>?_
 repeat(refine A1 ⟨?_⟩;intros)
 refine WP.loopS (ι:=LC) (fun y=>y.k≤l.length∧Own 62 6 y.k ((l.take y.k).map apx).flatten y.s y.Hs) (fun y=>l.length-y.k) (fun y=>fm [(3,y.s),(6,rps l),(7,lit (.int .i64 l.length)),(8,lit (.int .i64 y.k))]) (fun y=>y.Hs) ⟨0,lit (.slice none 0 0),[]⟩
  ⟨Nat.zero_le _,Own.nil _ _⟩ lfA (List.nil_sublist _) ?_
 rintro ⟨k,s,Hs⟩ ⟨hk,hown⟩ K hK;simp only at hk hown⊢;have hco:=hown.co;by_cases hkl:k<l.length
 ·have hget:=List.getElem?_eq_getElem hkl;generalize l[k]=p at hget;obtain⟨h1,h2⟩:=hh p (List.mem_of_getElem? hget);have hat:=dJ (f:=rpx) (n:=6) ct hget;have hne:(l.map rpx).flatten≠[]:=eI ct om (fun e=>by rw [e]at hkl;simp at hkl);have c:=uD p.1 p.2 h1 h2;have hgo:=fun s' Hs' h F' H'=>hK F' H' ⟨k+1,s',Hs'⟩ ⟨by simp only;omega,h⟩ (by simp only;omega)
  simp only [eA hget]at hgo;clear hK hh;repeat(refine A1 ⟨?_⟩;intros)
  refine Wo (aa (cs':=rpx p) rfl rfl om om hat hne) ?_;repeat(first|(refine A1 ⟨?_⟩;intros)|refine W4 c ⟨?_⟩)
  refine Dj hown om (fun s2 H2 hown'=>?_);have hco2:=hown'.co;replace hgo:=hgo s2 H2 hown';simp only [List.cons_append,List.nil_append];clear hown hown';repeat(refine A1 ⟨?_⟩;intros)
  exact hgo _ _ lfA (by repeat(first|exact Sr|refine Sc ?_))
 ·have hke:k=l.length:=by omega
  subst hke;rw [List.take_length]at hown;refine WP.rowS 3 hown rfl (by rw [List.append_nil]) ?_;clear hK hown;repeat(refine A1 ⟨?_⟩;intros)
  exact aS (aJ (RV.tmp rfl) Lr)
abbrev JM (ps:List (RQ×RQ)):SV:=sl (ps.map p8).flatten ps.length
abbrev rvl (p:RQ×RQ):Pq:=(p.1.v,p.2.v)
theorem JR (ps:List (RQ×RQ)){L:Nat}(hl:ps.length≤100000) (hh:∀p∈ps,p.1.ok L∧p.2.ok L) (hL:L≤1000000):Pu Tryz.prog 142 [JM ps] (rps (ps.map rvl)):=by
 refine Pi Tryz.func142 fun C=>?_
 repeat(refine A1 ⟨?_⟩;intros)
 refine WP.loopS (ι:=LC) (fun y=>y.k≤ps.length∧Own 70 6 y.k ((ps.take y.k).map fun p=>rpx (rvl p)).flatten y.s y.Hs) (fun y=>ps.length-y.k) (fun y=>fm [(3,y.s),(6,JM ps),(7,lit (.int .i64 ps.length)),(8,lit (.int .i64 y.k))]) (fun y=>y.Hs) ⟨0,lit (.slice none 0 0),[]⟩
  ⟨Nat.zero_le _,Own.nil _ _⟩ lfA (List.nil_sublist _) ?_
 rintro ⟨k,s,Hs⟩ ⟨hk,hown⟩ K hK;simp only at hk hown⊢;have hco:=hown.co;by_cases hkl:k<ps.length
 ·have hget:=List.getElem?_eq_getElem hkl;generalize ps[k]=p at hget;obtain⟨h1,h2⟩:=hh p (List.mem_of_getElem? hget);have hat:=dJ (f:=p8) (n:=6) rh hget;have hne:(ps.map p8).flatten≠[]:=eI rh om (fun e=>by rw [e]at hkl;simp at hkl);have c:=L5 h1 h2 hL;have hgo:=fun s' Hs' h F' H'=>hK F' H' ⟨k+1,s',Hs'⟩ ⟨by simp only;omega,h⟩ (by simp only;omega)
  simp only [eA hget]at hgo;clear hK hh;repeat(refine A1 ⟨?_⟩;intros)
  refine Wo (aa (cs':=p8 p) rfl rfl om om hat hne) ?_;repeat(first|(refine A1 ⟨?_⟩;intros)|refine W4 c ⟨?_⟩)
  refine Dj hown om (fun s2 H2 hown'=>?_);have hco2:=hown'.co;replace hgo:=hgo s2 H2 hown';simp only [List.cons_append,List.nil_append];clear hown hown';repeat(refine A1 ⟨?_⟩;intros)
  exact hgo _ _ lfA (by repeat(first|exact Sr|refine Sc ?_))
 ·have hke:k=ps.length:=by omega
  subst hke;rw [List.take_length]at hown
  have e:rps (ps.map rvl)=sl ((ps.map fun p=>rpx (rvl p)).flatten) ps.length:=by
   show sl ((ps.map rvl).map rpx).flatten (ps.map rvl).length=_
   rw [List.map_map,List.length_map];rfl
  rw [e];refine WP.rowS 3 hown rfl (by rw [List.append_nil]) ?_;clear hK hown;repeat(refine A1 ⟨?_⟩;intros)
  exact aS (aJ (RV.tmp rfl) Lr)
abbrev ppe (p q:Pq):List SV:=[lit (.int .i64 (r0 p.1)),lit (.int .i64 (r1 p.1)),r2 p.1,lit (.int .i64 (r0 p.2)),lit (.int .i64 (r1 p.2)),r2 p.2,lit (.int .i64 (r0 q.1)),lit (.int .i64 (r1 q.1)),r2 q.1,lit (.int .i64 (r0 q.2)),lit (.int .i64 (r1 q.2)),r2 q.2]
theorem M6.le.le_mono {m:M6 Rat}{L L':Nat}(h:m.le L) (k:L≤L'):m.le L':=⟨Nat.le_trans h.a k,Nat.le_trans h.b k,Nat.le_trans h.c k,Nat.le_trans h.d k,Nat.le_trans h.e k,Nat.le_trans h.f k⟩
abbrev M6.app (m:M6 Rat) (p:Pq):Pq:=(m.a*p.1+m.b*p.2+m.c,m.d*p.1+m.e*p.2+m.f)
theorem eE {k v:Rat}(hk:0<k):0<k*v↔0<v:=by
 constructor
 ·intro h;by_cases c:0<v
  ·exact c
  ·have:=Rat.mul_nonneg (Rat.le_of_lt hk) (show 0≤-v by grind);grind
 ·exact Rat.mul_pos hk
theorem zz {m:M6 Rat}:∀t:Tr,fj (t.im m)=fj t
 | .leaf _=>rfl
 | .node l a b=>by simp only [Tr.im,fj,zz a,zz b]
theorem M6.inv_apply {m:M6 Rat}(h:m.det≠0) (x y:Rat):m.inv.a*(m.a*x+m.b*y+m.c)+m.inv.b*(m.d*x+m.e*y+m.f)+m.inv.c=x∧m.inv.d*(m.a*x+m.b*y+m.c)+m.inv.e*(m.d*x+m.e*y+m.f)+m.inv.f=y:=by
 have h1:m.det*m.det⁻¹=1:=Rat.mul_inv_cancel _ h;have hd:m.det=m.a*m.e-m.d*m.b:=rfl;unfold M6.inv;simp only [];generalize m.det⁻¹=k at *;generalize m.det=D at *;constructor <;> grind
def oB (l:Li) (d:Pq):Rat:=(l.a:Rat)*d.1+(l.b:Rat)*d.2
def rS (m:M6 Rat) (d:Pq):Pq:=(m.inv.a*d.1+m.inv.b*d.2,m.inv.d*d.1+m.inv.e*d.2)
def kf (m:M6 Rat) (d:Pq):Pq:=(m.a*d.1+m.b*d.2,m.d*d.1+m.e*d.2)
theorem iI {m:M6 Rat}{l:Li}(h:m.det≠0) (hl:l.ok):∃k:Rat,0<k∧(∀q,a8 (l.im m) q=k*a8 l (m.inv.app q))∧∀d,oB (l.im m) d=k*oB l (rS m d):=by
 have hne:=Li.im_ne h hl;obtain⟨e1,e2,e3⟩:=iS (c:=l.a*m.inv.c+l.b*m.inv.f+l.c) hne;have hg:=kT (c:=l.a*m.inv.c+l.b*m.inv.f+l.c) hne;refine⟨_,Rat.inv_pos.2 hg,fun q=>?_,fun d=>?_⟩
 ·unfold Li.im a8;rw [←e1,←e2,←e3];generalize(g3 _ _ _)⁻¹=g;unfold M6.app;simp only;grind
 ·unfold Li.im oB;rw [←e1,←e2];generalize(g3 _ _ _)⁻¹=g;unfold rS;simp only;grind
theorem zero_mul {k v:Rat}(hk:0<k):k*v=0↔v=0:=by
 constructor
 ·intro h;exact(Rat.mul_eq_zero.1 h).resolve_left (by grind)
 ·intro h;rw [h];grind
theorem o8 {m:M6 Rat}(h:m.det≠0) (d:Pq):rS m (kf m d)=d:=by
 obtain⟨x1,x2⟩:=M6.inv_apply h d.1 d.2;obtain⟨y1,y2⟩:=M6.inv_apply h 0 0;unfold rS kf;ext
 ·simp only;grind
 ·simp only;grind
theorem Kp {m:M6 Rat}(h:m.det≠0){d:Pq}(hd:nz d):nz (kf m d):=by
 have e:=o8 h d;unfold nz at *;apply Classical.byContradiction;intro c;have h1:(kf m d).1=0:=Classical.byContradiction fun e=>c (.inl e)
 have h2:(kf m d).2=0:=Classical.byContradiction fun e=>c (.inr e)
 unfold rS at e;rw [h1,h2]at e;have a1:=congrArg Prod.fst e;have a2:=congrArg Prod.snd e;simp only at a1 a2;grind
def bF:List Rat→Rat
 | []=>0
 |x::l=>x+bF l
theorem nK:∀(a b:List Rat),bF (a++b)=bF a+bF b
 | [],b=>by show bF b=0+bF b;grind
 |x::a,b=>by
  show x+bF (a++b)=x+bF a+bF b
  rw [nK a b];grind
theorem BG {a b:List Rat}(h:a.Perm b):bF a=bF b:=by
 induction h with
 |nil=>rfl
 |cons x _ ih=>show x+_=x+_;rw [ih]
 |swap x y l=>show y+(x+_)=x+(y+_);grind
 |trans _ _ h1 h2=>exact h1.trans h2
theorem cV {α:Type}(f g:α→Rat):∀l:List α,bF (l.map fun x=>f x+g x)=bF (l.map f)+bF (l.map g)
 | []=>by show(0:Rat)=0+0;grind
 |x::l=>by
  show f x+g x+bF (l.map fun x=>f x+g x)=f x+bF (l.map f)+(g x+bF (l.map g))
  rw [cV f g l];grind
theorem bK {α:Type}(k:Rat) (f:α→Rat):∀l:List α,bF (l.map fun x=>k*f x)=k*bF (l.map f)
 | []=>by show(0:Rat)=k*0;grind
 |x::l=>by
  show k*f x+bF (l.map fun x=>k*f x)=k*(f x+bF (l.map f))
  rw [bK k f l];grind
theorem li:∀(l:List Rat) (s:Rat),l.foldl (· + ·) s=s+bF l
 | [],s=>by show s=s+0;grind
 |x::l,s=>by
  show l.foldl (· + ·) (s+x)=s+(x+bF l)
  rw [li l];grind
theorem GY {α β:Type}(d:α) (f:α→β) (l:List α):((List.range l.length).map fun i=>f (l.getD ((i+1)%l.length) d))=(l.map f).drop 1++(l.map f).take 1:=by
 refine List.ext_getElem? fun k=>?_
 rw [List.getElem?_map];by_cases hk:k<l.length
 ·rw [List.getElem?_range hk,Option.map_some];by_cases h1:k+1<l.length
  ·rw [Nat.mod_eq_of_lt h1,List.getElem?_append_left (by rw [List.length_drop,List.length_map];omega),List.getElem?_drop,List.getElem?_map,Nat.add_comm 1 k,List.getElem?_eq_getElem h1,List.getD,List.getElem?_eq_getElem h1];rfl
  ·have e:k+1=l.length:=by omega
   rw [e,Nat.mod_self,List.getElem?_append_right (by rw [List.length_drop,List.length_map];omega),List.length_drop,List.length_map,show k-(l.length-1)=0 by omega,List.getElem?_take,if_pos om,List.getElem?_map,List.getElem?_eq_getElem om,List.getD,List.getElem?_eq_getElem om];rfl
 ·rw [List.getElem?_eq_none (by simpa using hk),List.getElem?_eq_none (by simp;omega)];rfl
theorem qL {α:Type}(d:α) (f:α→Rat) (l:List α):bF ((List.range l.length).map fun i=>f (l.getD ((i+1)%l.length) d))=bF (l.map f):=by
 rw [GY,nK];have:bF (l.map f)=bF ((l.map f).take 1)+bF ((l.map f).drop 1):=by rw [←nK,List.take_append_drop]
 rw [this];grind
theorem oZ {α β:Type}(d:α) (f:α→β) (l:List α):(List.range l.length).map (fun i=>f (l.getD i d))=l.map f:=by
 refine List.ext_getElem? fun k=>?_
 rw [List.getElem?_map,List.getElem?_map];by_cases hk:k<l.length
 ·rw [List.getElem?_range hk,List.getElem?_eq_getElem hk,Option.map_some,List.getD,List.getElem?_eq_getElem hk];rfl
 ·rw [List.getElem?_eq_none (by simpa using hk),List.getElem?_eq_none om];rfl
abbrev zSd:Fg:=(⟨0,0,0⟩,Spn.none)
abbrev loP (s:Fg):Pq:=atL s.1 s.2.lo
abbrev hiP (s:Fg):Pq:=atL s.1 s.2.hi
def Bdd (c:PC):Prop:=∀s∈c,s.2.nl=false∧s.2.nh=false
theorem Bm {c:PC}(h:bZ c) (ho:fI c) (hb:Bdd c) (F:Pq→Pq→Rat):bF ((List.range c.length).map fun i=>F (hiP (c.getD i zSd)) (hiP (c.getD ((i+1)%c.length) zSd)))=bF (c.map fun s=>F (loP s) (hiP s)):=by
 rw [←qL zSd (fun s=>F (loP s) (hiP s)) c];congr 1
 refine List.map_congr_left fun i hi=>?_
 have hi:=List.mem_range.1 hi;have hs:=List.getElem?_eq_getElem hi;obtain⟨s',n1,_,_,_,n4⟩:=tG h ho hs (hb _ (List.getElem_mem hi)).2;have e1:c.getD i zSd=c[i]:=by rw [List.getD,hs];rfl
 have e2:c.getD ((i+1)%c.length) zSd=s':=by rw [List.getD,n1];rfl
 rw [e1,e2];exact congrArg (fun p=>F p (hiP s')) n4.symm
theorem fW {c:PC}(h:bZ c) (ho:fI c) (hb:Bdd c) (g:Pq→Rat):bF (c.map fun s=>g (hiP s) + -1*g (loP s))=0:=by
 have e:=Bm h ho hb fun p q=>g q + -1*g p
 rw [←e,cV (fun i=>g (hiP (c.getD ((i+1)%c.length) zSd))) (fun i => -1*g (hiP (c.getD i zSd))),bK,qL zSd (fun s=>g (hiP s)) c,oZ zSd (fun s=>g (hiP s)) c];grind
theorem j5 {m:M6 Rat}(h:m.det≠0) (p:Pq):m.inv.app (m.app p)=p:=by
 obtain⟨x1,x2⟩:=M6.inv_apply h p.1 p.2;exact Prod.ext x1 x2
structure ImP (m:M6 Rat) (c c':PC):Prop where
 d:m.det≠0
 x:bZ c
 y:bZ c'
 e:∀q,Inn (ac c') q↔Inn (ac c) (m.inv.app q)
theorem Fx {m:M6 Rat}{l k:Li}(h:m.det≠0) (hl:l.ok) (hk:k.ok) (e:l.im m=k.im m):l=k:=by
 rw [←Li.im_inv h hl,←Li.im_inv h hk,e]
theorem ImP.sides {m:M6 Rat}{c c':PC}(h:ImP m c c') (k:Li):k∈ac c'↔k∈(ac c).map (Li.im m):=by
 have hok:∀l∈(ac c).map (Li.im m),l.ok:=fun l hl=>by
  obtain⟨j,hj,rfl⟩:=List.mem_map.1 hl;exact Li.im_ok h.d (h.x.lok j hj)
 refine qS h.y hok (fun l hl=>?_) (fun q=>?_) k
 ·obtain⟨j,hj,rfl⟩:=List.mem_map.1 hl;obtain⟨r,r0,r1⟩:=h.x.edg hj;refine⟨m.app r,?_,fun i hi hne=>?_⟩
  ·obtain⟨w,hw,e,_⟩:=iI h.d (h.x.lok j hj);rw [e,j5 h.d,r0];grind
  ·obtain⟨x,hx,rfl⟩:=List.mem_map.1 hi;obtain⟨w,hw,e,_⟩:=iI h.d (h.x.lok x hx);rw [e,j5 h.d];exact Rat.mul_pos hw (r1 x hx fun z=>hne (by rw [z]))
 ·rw [h.e];constructor
  ·intro g l hl;obtain⟨j,hj,rfl⟩:=List.mem_map.1 hl;obtain⟨w,hw,e,_⟩:=iI h.d (h.x.lok j hj);rw [e];exact Rat.mul_pos hw (g j hj)
  ·intro g j hj;obtain⟨w,hw,e,_⟩:=iI h.d (h.x.lok j hj);have:=g _ (List.mem_map.2 ⟨j,hj,rfl⟩);rw [e,eE hw]at this;exact this
def OnS (c:PC) (l:Li) (p:Pq):Prop:=a8 l p=0∧∀j∈ac c,j≠l→0<a8 j p
theorem EL {c:PC}(h:bZ c){s:Fg}(hs:s∈c) (hb:s.2.nl=false∧s.2.nh=false) (t:Rat):OnS c s.1 (atL s.1 t)↔s.2.lo<t∧t<s.2.hi:=by
 obtain⟨sp,_⟩:=h.span s hs
 have:InS s.2 t↔s.2.lo<t∧t<s.2.hi:=by
  unfold InS;rw [hb.1,hb.2];simp
 rw [←this,sp];unfold OnS;rw [fk (h.ok s hs)];simp
theorem ImP.on {m:M6 Rat}{c c':PC}(h:ImP m c c'){l:Li}(hl:l∈ac c) (p:Pq):OnS c' (l.im m) (m.app p)↔OnS c l p:=by
 have hv:∀j∈ac c,∃w:Rat,0<w∧a8 (j.im m) (m.app p)=w*a8 j p:=fun j hj=>by
  obtain⟨w,hw,e,_⟩:=iI h.d (h.x.lok j hj);exact⟨w,hw,by rw [e,j5 h.d]⟩
 unfold OnS;constructor
 ·rintro ⟨a,b⟩;obtain⟨w,hw,e⟩:=hv l hl;rw [e,zero_mul hw]at a;refine⟨a,fun j hj hne=>?_⟩;obtain⟨w2,hw2,e2⟩:=hv j hj;have:=b (j.im m) ((h.sides _).2 (List.mem_map.2 ⟨j,hj,rfl⟩)) fun z=>hne (Fx h.d (h.x.lok j hj) (h.x.lok l hl) z)
  rwa [e2,eE hw2]at this
 ·rintro ⟨a,b⟩;obtain⟨w,hw,e⟩:=hv l hl;refine⟨by rw [e,a];grind,fun k hk hne=>?_⟩;obtain⟨j,hj,rfl⟩:=List.mem_map.1 ((h.sides k).1 hk);obtain⟨w2,hw2,e2⟩:=hv j hj;rw [e2];exact Rat.mul_pos hw2 (b j hj fun z=>hne (by rw [z]))
theorem KG (m:M6 Rat) (l:Li) (t:Rat):m.app (atL l t)=bO (m.app (aD l)) t (kf m (dirL l)):=by
 unfold atL bO M6.app kf;ext <;> simp only <;> grind
theorem In {m:M6 Rat}{l:Li}(h:m.det≠0) (hl:l.ok):∃a:Rat,a≠0∧(0<a↔0<m.det)∧kf m (dirL l)=(a*(dirL (l.im m)).1,a*(dirL (l.im m)).2):=by
 obtain⟨k,hk,_,e⟩:=iI h hl;have hl':=Li.im_ok h hl;have N:=cC hl;have N':=cC hl'
 have d0:oB (l.im m) (kf m (dirL l))=0:=by
  rw [e,o8 h];unfold oB dirL;simp only;grind
 have dn:0<oB (l.im m) (kf m ((l.a:Rat),(l.b:Rat))):=by
  rw [e,o8 h];exact Rat.mul_pos hk (by unfold oB;exact N)
 have cr:a9 (kf m (dirL l)) (kf m ((l.a:Rat),(l.b:Rat)))=m.det*((l.a:Rat)*l.a+l.b*l.b):=by
  unfold a9 kf dirL M6.det;simp only;grind
 generalize kf m ((l.a:Rat),(l.b:Rat))=n at *;generalize kf m (dirL l)=v at *;generalize(l.a:Rat)*l.a+l.b*l.b=Q at *;generalize m.det=D at *;generalize l.im m=l' at *;clear e hl hl';have ea:(v.1*l'.b-v.2*l'.a)/((l'.a:Rat)*l'.a+l'.b*l'.b)*((l'.a:Rat)*l'.a+l'.b*l'.b)=v.1*l'.b-v.2*l'.a:=Rat.div_mul_cancel (by grind);generalize(v.1*l'.b-v.2*l'.a)/((l'.a:Rat)*l'.a+l'.b*l'.b)=a at ea
 have h1:v.1=a*l'.b:=by
  unfold oB at d0;have:((l'.a:Rat)*l'.a+l'.b*l'.b)*(v.1-a*l'.b)=0:=by grind
  have:=(Rat.mul_eq_zero.1 this).resolve_left (by grind);grind
 have h2:v.2=a * -(l'.a:Rat):=by
  unfold oB at d0;have:((l'.a:Rat)*l'.a+l'.b*l'.b)*(v.2+a*l'.a)=0:=by grind
  have:=(Rat.mul_eq_zero.1 this).resolve_left (by grind);grind
 have hc:a*oB l' n=D*Q:=by
  rw [←cr];unfold a9 oB;rw [h1,h2];grind
 refine⟨a,fun z=>?_,⟨fun z=>?_,fun z=>?_⟩,?_⟩
 ·rw [z]at hc;rcases Rat.mul_eq_zero.1 (show D*Q=0 by grind)with y|y
  ·exact h y
  ·grind
 ·have:=Rat.mul_pos z dn;exact fP (a:=Q) (by grind) (by grind)
 ·have:=Rat.mul_pos z N;exact fP (a:=oB l' n) (by grind) (by grind)
 ·unfold dirL;exact Prod.ext h1 h2
theorem BL {c:PC}(h:bZ c){s x:Fg}(hs:s∈c) (hx:x∈c) (e:s.1=x.1):s=x:=by
 have nd:=h.nd;obtain⟨a,ha,ea⟩:=List.mem_iff_getElem.1 hs;obtain⟨b,hb,eb⟩:=List.mem_iff_getElem.1 hx
 have:(ac c)[a]'(by unfold ac;simpa using ha)=(ac c)[b]'(by unfold ac;simpa using hb):=by
  unfold ac;rw [List.getElem_map,List.getElem_map,ea,eb,e]
 have:=(List.getElem_inj nd).1 this;subst this;rw [←ea,←eb]
theorem Fs {L H lo hi:Rat}(hl:lo<hi) (h:∀t,(L<t∧t<H)↔(lo<t∧t<hi)):L=lo∧H=hi:=by
 have hm:=(h ((lo+hi)/2)).2 ⟨by grind,by grind⟩;constructor
 ·rcases(by grind:L<lo∨lo<L∨L=lo)with c|c|c
  ·have:=(h lo).1 ⟨c,by grind⟩;grind
  ·by_cases k:L<hi
   ·have:=(h L).2 ⟨c,k⟩;grind
   ·grind
  ·exact c
 ·rcases(by grind:H<hi∨hi<H∨H=hi)with c|c|c
  ·by_cases k:lo<H
   ·have:=(h H).2 ⟨k,c⟩;grind
   ·grind
  ·have:=(h hi).1 ⟨by grind,c⟩;grind
  ·exact c
theorem ka {a x y:Rat}(ha:0<a):a*x<a*y↔x<y:=by
 have:0<a*(y-x)↔0<y-x:=eE ha;constructor
 ·intro h;have:=this.1 (by grind);grind
 ·intro h;have:=this.2 (by grind);grind
theorem ImP.ends {m:M6 Rat}{c c':PC}(h:ImP m c c') (hb:Bdd c) (hb':Bdd c'){s s':Fg}(hs:s∈c) (hs':s'∈c') (e:s'.1=s.1.im m):(0<m.det→loP s'=m.app (loP s)∧hiP s'=m.app (hiP s))∧(m.det<0→loP s'=m.app (hiP s)∧hiP s'=m.app (loP s)):=by
 have hso:=h.x.ok s hs;have ml:s.1∈ac c:=List.mem_map.2 ⟨s,hs,rfl⟩;obtain⟨a,a0,asg,ad⟩:=In h.d hso
 have hv0:a8 s'.1 (m.app (aD s.1))=0:=by
  obtain⟨w,hw,ew,_⟩:=iI h.d hso;rw [e,ew,j5 h.d];have b0:=fk hso 0;rw [aV]at b0
  have:a8 s.1 (aD s.1)=0:=by
   have:(0:Rat)*slp s.1 s.1=0:=by grind
   grind
  rw [this];grind
 have hat:=kB (h.y.ok s' hs') hv0;generalize bo s'.1 (m.app (aD s.1))=t1 at hat
 have hmt:∀t,m.app (atL s.1 t)=atL s'.1 (t1+a*t):=fun t=>by
  rw [KG,ad,←e,←hat];unfold atL bO;ext <;> simp only <;> grind
 have key:∀t,(s'.2.lo<t1+a*t∧t1+a*t<s'.2.hi)↔(s.2.lo<t∧t<s.2.hi):=fun t=>by
  rw [←EL h.y hs' (hb' s' hs'),←EL h.x hs (hb s hs),←hmt,e,h.on ml]
 have hne:s.2.lo<s.2.hi:=by
  obtain⟨_,t,ht⟩:=h.x.span s hs;rcases ht.1 with r|r
  ·rw [(hb s hs).1]at r;cases r
  ·rcases ht.2 with q|q
   ·rw [(hb s hs).2]at q;cases q
   ·grind
 have eL:(s'.2.lo-t1)/a*a=s'.2.lo-t1:=Rat.div_mul_cancel a0;have eH:(s'.2.hi-t1)/a*a=s'.2.hi-t1:=Rat.div_mul_cancel a0;generalize(s'.2.lo-t1)/a=L at eL;generalize(s'.2.hi-t1)/a=H at eH;constructor
 ·intro hd;have ha:=asg.2 hd
  obtain⟨r1,r2⟩:=Fs (L:=L) (H:=H) hne fun t=>by
   rw [←key t,←ka ha,←ka (x:=t) ha];constructor
   ·rintro ⟨x,y⟩;exact⟨by grind,by grind⟩
   ·rintro ⟨x,y⟩;exact⟨by grind,by grind⟩
  show atL s'.1 s'.2.lo=m.app (atL s.1 s.2.lo)∧atL s'.1 s'.2.hi=m.app (atL s.1 s.2.hi)
  rw [hmt,hmt];exact⟨by congr 1;grind,by congr 1;grind⟩
 ·intro hd
  have ha:0 < -a:=by
   have:¬0<a:=fun k=>by have:=asg.1 k;grind
   grind
  obtain⟨r1,r2⟩:=Fs (L:=H) (H:=L) hne fun t=>by
   rw [←key t,←ka ha,←ka (x:=t) ha];constructor
   ·rintro ⟨x,y⟩;exact⟨by grind,by grind⟩
   ·rintro ⟨x,y⟩;exact⟨by grind,by grind⟩
  show atL s'.1 s'.2.lo=m.app (atL s.1 s.2.hi)∧atL s'.1 s'.2.hi=m.app (atL s.1 s.2.lo)
  rw [hmt,hmt];exact⟨by congr 1;grind,by congr 1;grind⟩
open Classical in
noncomputable def Ah (c:PC) (f:Fg→Rat) (k:Li):Rat:=if h:∃s,s∈c∧s.1=k then f (Classical.choose h)else 0
theorem wv {c:PC}(h:bZ c) (f:Fg→Rat){s:Fg}(hs:s∈c):Ah c f s.1=f s:=by
 have hx:∃x,x∈c∧x.1=s.1:=⟨s,hs,rfl⟩
 unfold Ah;rw [dif_pos hx];have k:=Classical.choose_spec hx;rw [BL h k.1 hs k.2]
theorem ImP.sum {m:M6 Rat}{c c':PC}(h:ImP m c c') (f g:Fg→Rat) (H:∀s∈c,∀s'∈c',s'.1=s.1.im m→f s'=g s):bF (c'.map f)=bF (c.map g):=by
 have e1:c'.map f=(ac c').map (Ah c' f):=by
  unfold ac;rw [List.map_map];exact List.map_congr_left fun s hs=>(wv h.y f hs).symm
 have hnd:((ac c).map (Li.im m)).Nodup:=by
  refine List.pairwise_map.2 (h.x.nd.imp_of_mem fun {a b} ha hb hne e=>hne (Fx h.d (h.x.lok a ha) (h.x.lok b hb) e))
 have hp:(ac c').Perm ((ac c).map (Li.im m)):=(List.perm_ext_iff_of_nodup h.y.nd hnd).2 h.sides;rw [e1,BG (hp.map _),List.map_map];unfold ac;rw [List.map_map];congr 1
 refine List.map_congr_left fun s hs=>?_
 have hm:s.1.im m∈ac c':=(h.sides _).2 (List.mem_map.2 ⟨s.1,List.mem_map.2 ⟨s,hs,rfl⟩,rfl⟩);obtain⟨s',hs',e⟩:=List.mem_map.1 hm;show Ah c' f (s.1.im m)=g s
 rw [←e,wv h.y f hs'];exact H s hs s' hs' e
def ar2 (c:PC):Rat:=bF (c.map fun s=>a9 (loP s) (hiP s))
def mx6 (c:PC):Rat:=bF (c.map fun s=>((loP s).1+(hiP s).1)*a9 (loP s) (hiP s))
def my6 (c:PC):Rat:=bF (c.map fun s=>((loP s).2+(hiP s).2)*a9 (loP s) (hiP s))
def ic (m:M6 Rat):Rat:=if m.det<0 then -m.det else m.det
theorem Gk (m:M6 Rat){c:PC}(h:bZ c) (ho:fI c) (hb:Bdd c):bF (c.map fun s=>a9 (m.app (loP s)) (m.app (hiP s)))=m.det*ar2 c:=by
 have z1:=fW h ho hb fun p=>p.1
 have z2:=fW h ho hb fun p=>p.2
 have e:(fun s:Fg=>a9 (m.app (loP s)) (m.app (hiP s)))=fun s=>m.det*a9 (loP s) (hiP s)+((m.c*m.d-m.f*m.a)*((hiP s).1 + -1*(loP s).1)+(m.c*m.e-m.f*m.b)*((hiP s).2 + -1*(loP s).2)):=by
  funext s
  generalize loP s=p;generalize hiP s=q;unfold a9 M6.app M6.det;simp only;grind
 unfold ar2;rw [e,cV (fun s=>m.det*a9 (loP s) (hiP s)),cV (fun s=>(m.c*m.d-m.f*m.a)*((hiP s).1 + -1*(loP s).1)),bK,bK,bK,z1,z2];grind
theorem ImP.area {m:M6 Rat}{c c':PC}(h:ImP m c c') (ho:fI c) (hb:Bdd c) (hb':Bdd c'):ar2 c'=ic m*ar2 c:=by
 unfold ic;by_cases hd:m.det<0
 ·rw [if_pos hd]
  have e:=h.sum (fun s=>a9 (loP s) (hiP s)) (fun s => -1*a9 (m.app (loP s)) (m.app (hiP s))) fun s hs s' hs' es=>by
   obtain⟨e1,e2⟩:=(h.ends hb hb' hs hs' es).2 hd;show a9 (loP s') (hiP s') = -1*a9 (m.app (loP s)) (m.app (hiP s))
   rw [e1,e2,f7];grind
  rw [bK,Gk m h.x ho hb]at e;unfold ar2 at e⊢;rw [e];grind
 ·rw [if_neg hd];have hp:0<m.det:=by have:=h.d;grind
  have e:=h.sum (fun s=>a9 (loP s) (hiP s)) (fun s=>a9 (m.app (loP s)) (m.app (hiP s))) fun s hs s' hs' es=>by
   obtain⟨e1,e2⟩:=(h.ends hb hb' hs hs' es).1 hp;show a9 (loP s') (hiP s')=a9 (m.app (loP s)) (m.app (hiP s))
   rw [e1,e2]
  rw [Gk m h.x ho hb]at e;unfold ar2 at e⊢;exact e
theorem AP {c:PC}(h:bZ c) (ho:fI c) (hb:Bdd c) (a b k al be D:Rat) (hk:a*be-b*al=k*D) :
  bF (c.map fun s=>(a*((loP s).1+(hiP s).1)+b*((loP s).2+(hiP s).2)+2*k)*(D*a9 (loP s) (hiP s)+(al*((hiP s).1 + -1*(loP s).1)+be*((hiP s).2 + -1*(loP s).2))))=D*(a*mx6 c+b*my6 c+3*k*ar2 c):=by
 have z1:=fW h ho hb fun p=>p.1
 have z2:=fW h ho hb fun p=>p.2
 have z3:=fW h ho hb fun p=>p.1*p.1
 have z4:=fW h ho hb fun p=>p.2*p.2
 have z5:=fW h ho hb fun p=>p.1*p.2
 have e:(fun s:Fg=>(a*((loP s).1+(hiP s).1)+b*((loP s).2+(hiP s).2)+2*k)*(D*a9 (loP s) (hiP s)+(al*((hiP s).1 + -1*(loP s).1)+be*((hiP s).2 + -1*(loP s).2))))
   = fun s=>D*a*(((loP s).1+(hiP s).1)*a9 (loP s) (hiP s))+(D*b*(((loP s).2+(hiP s).2)*a9 (loP s) (hiP s))+(3*k*D*a9 (loP s) (hiP s)+(2*k*al*((hiP s).1 + -1*(loP s).1)+(2*k*be*((hiP s).2 + -1*(loP s).2)+(a*al*((hiP s).1*(hiP s).1 + -1*((loP s).1*(loP s).1))+(b*be*((hiP s).2*(hiP s).2 + -1*((loP s).2*(loP s).2))+(a*be+b*al)*((hiP s).1*(hiP s).2 + -1*((loP s).1*(loP s).2)))))))):=by
  funext s
  have hk3:3*k*D=2*(k*D)+(a*be-b*al):=by grind
  rw [hk3];generalize loP s=p;generalize hiP s=q;obtain⟨p1,p2⟩:=p;obtain⟨q1,q2⟩:=q;unfold a9;simp only;grind
 rw [e,cV (fun s:Fg=>D*a*(((loP s).1+(hiP s).1)*a9 (loP s) (hiP s))),cV (fun s:Fg=>D*b*(((loP s).2+(hiP s).2)*a9 (loP s) (hiP s))),cV (fun s:Fg=>3*k*D*a9 (loP s) (hiP s)),cV (fun s:Fg=>2*k*al*((hiP s).1 + -1*(loP s).1)),cV (fun s:Fg=>2*k*be*((hiP s).2 + -1*(loP s).2)),cV (fun s:Fg=>a*al*((hiP s).1*(hiP s).1 + -1*((loP s).1*(loP s).1))),cV (fun s:Fg=>b*be*((hiP s).2*(hiP s).2 + -1*((loP s).2*(loP s).2))),bK,bK,bK,bK,bK,bK,bK,bK,z1,z2,z3,z4,z5];unfold mx6 my6 ar2;grind
theorem Bv (m:M6 Rat) (p q:Pq):a9 (m.app p) (m.app q)=m.det*a9 p q+((m.c*m.d-m.f*m.a)*(q.1 + -1*p.1)+(m.c*m.e-m.f*m.b)*(q.2 + -1*p.2)):=by
 unfold a9 M6.app M6.det;simp only;grind
theorem Kj (m:M6 Rat){c:PC}(h:bZ c) (ho:fI c) (hb:Bdd c):bF (c.map fun s=>((m.app (loP s)).1+(m.app (hiP s)).1)*a9 (m.app (loP s)) (m.app (hiP s)))=m.det*(m.a*mx6 c+m.b*my6 c+3*m.c*ar2 c):=by
 rw [←AP h ho hb m.a m.b m.c (m.c*m.d-m.f*m.a) (m.c*m.e-m.f*m.b) m.det (by unfold M6.det;grind)];congr 1
 refine List.map_congr_left fun s _=>?_
 rw [Bv];congr 1
 show m.a*(loP s).1+m.b*(loP s).2+m.c+(m.a*(hiP s).1+m.b*(hiP s).2+m.c)=_
 grind
theorem Ki (m:M6 Rat){c:PC}(h:bZ c) (ho:fI c) (hb:Bdd c):bF (c.map fun s=>((m.app (loP s)).2+(m.app (hiP s)).2)*a9 (m.app (loP s)) (m.app (hiP s)))=m.det*(m.d*mx6 c+m.e*my6 c+3*m.f*ar2 c):=by
 rw [←AP h ho hb m.d m.e m.f (m.c*m.d-m.f*m.a) (m.c*m.e-m.f*m.b) m.det (by unfold M6.det;grind)];congr 1
 refine List.map_congr_left fun s _=>?_
 rw [Bv];congr 1
 show m.d*(loP s).1+m.e*(loP s).2+m.f+(m.d*(hiP s).1+m.e*(hiP s).2+m.f)=_
 grind
theorem ImP.moments {m:M6 Rat}{c c':PC}(h:ImP m c c') (ho:fI c) (hb:Bdd c) (hb':Bdd c'):mx6 c'=ic m*(m.a*mx6 c+m.b*my6 c+3*m.c*ar2 c)∧my6 c'=ic m*(m.d*mx6 c+m.e*my6 c+3*m.f*ar2 c):=by
 have X:=Kj m h.x ho hb;have Y:=Ki m h.x ho hb;unfold ic;by_cases hd:m.det<0
 ·rw [if_pos hd];constructor
  ·have e:=h.sum (fun s=>((loP s).1+(hiP s).1)*a9 (loP s) (hiP s)) (fun s => -1*(((m.app (loP s)).1+(m.app (hiP s)).1)*a9 (m.app (loP s)) (m.app (hiP s)))) fun s hs s' hs' es=>by
    obtain⟨e1,e2⟩:=(h.ends hb hb' hs hs' es).2 hd;show((loP s').1+(hiP s').1)*a9 (loP s') (hiP s') = -1*(((m.app (loP s)).1+(m.app (hiP s)).1)*a9 (m.app (loP s)) (m.app (hiP s)))
    rw [e1,e2,f7];grind
   rw [bK,X]at e;show bF _=_
   rw [e];grind
  ·have e:=h.sum (fun s=>((loP s).2+(hiP s).2)*a9 (loP s) (hiP s)) (fun s => -1*(((m.app (loP s)).2+(m.app (hiP s)).2)*a9 (m.app (loP s)) (m.app (hiP s)))) fun s hs s' hs' es=>by
    obtain⟨e1,e2⟩:=(h.ends hb hb' hs hs' es).2 hd;show((loP s').2+(hiP s').2)*a9 (loP s') (hiP s') = -1*(((m.app (loP s)).2+(m.app (hiP s)).2)*a9 (m.app (loP s)) (m.app (hiP s)))
    rw [e1,e2,f7];grind
   rw [bK,Y]at e;show bF _=_
   rw [e];grind
 ·rw [if_neg hd];have hp:0<m.det:=by have:=h.d;grind
  constructor
  ·have e:=h.sum (fun s=>((loP s).1+(hiP s).1)*a9 (loP s) (hiP s)) (fun s=>((m.app (loP s)).1+(m.app (hiP s)).1)*a9 (m.app (loP s)) (m.app (hiP s))) fun s hs s' hs' es=>by
    obtain⟨e1,e2⟩:=(h.ends hb hb' hs hs' es).1 hp;show((loP s').1+(hiP s').1)*a9 (loP s') (hiP s')=_
    rw [e1,e2]
   rw [X]at e;exact e
  ·have e:=h.sum (fun s=>((loP s).2+(hiP s).2)*a9 (loP s) (hiP s)) (fun s=>((m.app (loP s)).2+(m.app (hiP s)).2)*a9 (m.app (loP s)) (m.app (hiP s))) fun s hs s' hs' es=>by
    obtain⟨e1,e2⟩:=(h.ends hb hb' hs hs' es).1 hp;show((loP s').2+(hiP s').2)*a9 (loP s') (hiP s')=_
    rw [e1,e2]
   rw [Y]at e;exact e
end Go.Ab
namespace Go.Ab
open Go.Proofs
variable [Base]
section
variable {P:Program}{C:Ctx}{n:Nat}{F:Fr}{H:LH}{ops:Array Oper}{rs:List Nat}{Hc:LH}{K:Fr→LH→Prop}{s i d:Nat}{r:List NO'}{E:LH}{ty:TypeId}{pos:String}{aft:Array Edge}
end
instance tyFi:TY Tryz.prog 77 1 8 [lit .nilFunc] false:=⟨⟨[.nilFunc],kr,rfl,rfl,rfl⟩,kr⟩
instance tyFt:TY Tryz.prog 99 1 8 [lit .nilFunc] false:=⟨⟨[.nilFunc],kr,rfl,rfl,rfl⟩,kr⟩
def uJ (keep:Nat→Bool):Tr→Nat→Tr
 | .leaf i,k => .leaf (i&&keep k)
 | .node l a b,k => .node l (uJ keep a k) (uJ keep b (k+cD a))
abbrev Pts:=List (PC×Bool)
end Go.Ab
