/- Texts laid one behind the other: Tow, ArA, Dirs. -/
import Derived.Test.YtbcojehfealiaaaGreatDoorB24
set_option linter.all false
namespace Go.Ab
open Go.Proofs
variable [Base]
def gn (l:Li) (d:Pq):Rat:=(l.a:Rat)*d.1+(l.b:Rat)*d.2
def tow:Tr→Pq→Pq→Bool
 | .leaf i,_,_=>i
 | .node l a b,p,d=>if 0<a6 l p∨(a6 l p=0∧0<gn l d)then tow a p d else tow b p d
def fC:Tr→Pq→List Li
 | .leaf _,_=>[]
 | .node l a b,p=>if a6 l p=0 then l::(fC a p++fC b p)else if 0<a6 l p then fC a p else fC b p
theorem gG {p d e:Pq}:∀{t:Tr},(∀l∈fC t p,(0<gn l d↔0<gn l e))→tow t p d=tow t p e
 | .leaf _,_=>rfl
 | .node l a b,h=>by
  unfold fC at h;unfold tow;by_cases z:a6 l p=0
  ·rw [if_pos z]at h;have h0:=h l Ms;have ha:=gG (t:=a) fun m hm=>h m (Mc (List.mem_append_left _ hm))
   have hb:=gG (t:=b) fun m hm=>h m (Mc (List.mem_append_right _ hm))
   rw [ha,hb];by_cases c:0<gn l d
   ·rw [if_pos (.inr ⟨z,c⟩),if_pos (.inr ⟨z,h0.1 c⟩)]
   ·rw [if_neg (by rintro (k|⟨_,k⟩) <;> grind),if_neg (by rintro (k|⟨_,k⟩) <;> grind)]
  ·rw [if_neg z]at h;by_cases c:0<a6 l p
   ·rw [if_pos c]at h;rw [if_pos (.inl c),if_pos (.inl c)];exact gG h
   ·rw [if_neg c]at h;rw [if_neg (by rintro (k|⟨k,_⟩) <;> grind),if_neg (by rintro (k|⟨k,_⟩) <;> grind)];exact gG h
def gen (t:Tr) (p d:Pq):Prop:=nz d∧∀l∈fC t p,gn l d≠0
def ck (v:Pq):Pq:=(v.1*(bP v.1 v.2)⁻¹,v.2*(bP v.1 v.2)⁻¹)
theorem qt {v:Pq}(h:nz v):0<bP v.1 v.2:=by
 rcases Rat.le_iff_lt_or_eq.1 (oO v.1 v.2)with h1|h1
 ·exact h1
 ·obtain⟨a,b⟩:=o4 h1.symm;rcases h with h|h
  ·exact absurd a h
  ·exact absurd b h
theorem rg {l:Li}(h:l.ok):nz (dirL l):=by
 unfold nz dirL;simp only;rcases h.2 with r|r
 ·exact .inr fun e=>r (Rat.intCast_eq_zero_iff.1 (by grind))
 ·exact .inl fun e=>r (Rat.intCast_eq_zero_iff.1 e)
theorem qz {l:Li}(h:l.ok):∃k:Rat,0<k∧∀d,a7 (ck (dirL l)) d=k*gn l d:=by
 refine⟨_,Rat.inv_pos.2 (qt (rg h)),fun d=>?_⟩;unfold ck;generalize(bP (dirL l).1 (dirL l).2)⁻¹=g;unfold a7 gn dirL;simp only;grind
structure kh (t:Tr) (p:Pq) (D:List Pq):Prop where
 s:D.Pairwise lta
 m:∀e,e∈D↔∃l∈fC t p,e=ck (dirL l)∨e=ngP (ck (dirL l))
theorem gm:∀{t:Tr}{p:Pq},t.lok→∀l∈fC t p,l.ok
 | .leaf _,_,_,l,h=>by unfold fC at h;cases h
 | .node m a b,p,hk,l,h=>by
  unfold fC at h;split at h
  ·rcases List.mem_cons.1 h with rfl|h
   ·exact hk.1
   ·rcases List.mem_append.1 h with h|h
    ·exact gm hk.2.1 l h
    ·exact gm hk.2.2 l h
  ·split at h
   ·exact gm hk.2.1 l h
   ·exact gm hk.2.2 l h
theorem IM (v:Pq):ngP (ngP v)=v:=by unfold ngP;ext <;> simp only <;> grind
theorem tU {v:Pq}(h:nz v):nz (ck v):=by
 have hk:=Rat.inv_pos.2 (qt h);unfold ck nz;generalize(bP v.1 v.2)⁻¹=g at *;simp only;rcases h with h|h
 ·exact .inl fun e=>h ((Rat.mul_eq_zero.1 e).resolve_right (by grind))
 ·exact .inr fun e=>h ((Rat.mul_eq_zero.1 e).resolve_right (by grind))
theorem kh.nz {t:Tr}{p:Pq}{D:List Pq}(h:kh t p D) (hk:t.lok):∀e∈D,Ab.nz e:=fun e he=>by
 obtain⟨l,hl,rfl|rfl⟩:=(h.m e).1 he
 ·exact tU (rg (gm hk l hl))
 ·exact l6 (tU (rg (gm hk l hl)))
theorem kh.ng {t:Tr}{p:Pq}{D:List Pq}(h:kh t p D):∀e∈D,ngP e∈D:=fun e he=>by
 obtain⟨l,hl,rfl|rfl⟩:=(h.m e).1 he
 ·exact(h.m _).2 ⟨l,hl, .inr rfl⟩
 ·exact(h.m _).2 ⟨l,hl, .inl (IM _)⟩
theorem kh.gen {t:Tr}{p:Pq}{D:List Pq}(h:kh t p D) (hk:t.lok){d:Pq}:(∀e∈D,a7 e d≠0)↔∀l∈fC t p,gn l d≠0:=by
 constructor
 ·intro k l hl e;obtain⟨c,hc,hcd⟩:=qz (gm hk l hl);refine k _ ((h.m _).2 ⟨l,hl, .inl rfl⟩) ?_;rw [hcd,e];grind
 ·intro k e he;obtain⟨l,hl,hel⟩:=(h.m e).1 he;obtain⟨c,hc,hcd⟩:=qz (gm hk l hl)
  have n0:c*gn l d≠0:=fun z=>by
   rcases Rat.mul_eq_zero.1 z with z|z
   ·grind
   ·exact k l hl z
  rcases hel with rfl|rfl
  ·rw [hcd];exact n0
  ·rw [aX,hcd];grind
theorem kh.same {t:Tr}{p:Pq}{D:List Pq}(h:kh t p D) (hk:t.lok){d f:Pq}(hs:∀e∈D,(0<a7 e d↔0<a7 e f)):tow t p d=tow t p f:=by
 refine gG fun l hl=>?_
 obtain⟨c,hc,hcd⟩:=qz (gm hk l hl);have:=hs _ ((h.m _).2 ⟨l,hl, .inl rfl⟩);rw [hcd,hcd,kE hc,kE hc]at this;exact this
def kU (D:List Pq):List Pq:=if D=[]then [(1,0)]else(List.range D.length).map fun i=>iL (D.getD i (0,0)) (D.getD ((i+1)%D.length) (0,0))
theorem IL {u d:Pq}(h:0<a7 u d):nz d:=by
 unfold nz;apply Classical.byContradiction;intro c;have h1:d.1=0:=Classical.byContradiction fun e=>c (.inl e)
 have h2:d.2=0:=Classical.byContradiction fun e=>c (.inr e)
 unfold a7 at h;rw [h1,h2]at h;grind
theorem zi {D:List Pq}(hs:D.Pairwise lta) (hz:∀e∈D,nz e) (hg:∀e∈D,ngP e∈D) (hne:D≠[]){i:Nat}(hi:i<D.length):vd D∧Pr D (D.getD i (0,0)) (D.getD ((i+1)%D.length) (0,0)):=by
 have hpos:=List.length_pos_iff.2 hne;have pw:=List.pairwise_iff_getElem.1 hs;have gd:∀{j:Nat}(hj:j<D.length),D.getD j (0,0)=D[j]:=fun hj=>by rw [List.getD,List.getElem?_eq_getElem hj];rfl
 have tri:∀a∈D,∀b∈D,a=b∨lta a b∨lta b a:=fun a ha b hb=>by
  obtain⟨i,hi,rfl⟩:=List.mem_iff_getElem.1 ha;obtain⟨j,hj,rfl⟩:=List.mem_iff_getElem.1 hb;rcases Nat.lt_trichotomy i j with c|c|c
  ·exact .inr (.inl (pw i j hi hj c))
  ·subst c;exact .inl rfl
  ·exact .inr (.inr (pw j i hj hi c))
 have hD:vd D:=⟨hz,hg,tri⟩
 refine⟨hD,?_⟩;rw [gd hi];by_cases hl:i+1<D.length
 ·rw [Nat.mod_eq_of_lt hl,gd hl]
  exact CH hD (List.getElem_mem hi) (List.getElem_mem hl) (pw i (i+1) hi hl om) fun e he ⟨a,b⟩=>by
   obtain⟨j,hj,rfl⟩:=List.mem_iff_getElem.1 he;rcases Nat.lt_trichotomy j i with c|c|c
   ·exact aU a (pw j i hj hi c)
   ·subst c;exact aU a a
   ·by_cases c2:j=i+1
    ·subst c2;exact aU b b
    ·exact aU b (pw (i+1) j hl hj om)
 ·rw [show(i+1)%D.length=0 from by rw [show i+1=D.length by omega,Nat.mod_self],gd hpos];refine CI hD (List.getElem_mem hi) (List.getElem_mem hpos) (fun e he h=>?_) fun e he h=>?_
  ·obtain⟨j,hj,rfl⟩:=List.mem_iff_getElem.1 he;by_cases c:j=i
   ·subst c;exact aU h h
   ·exact aU h (pw j i hj hi om)
  ·obtain⟨j,hj,rfl⟩:=List.mem_iff_getElem.1 he;by_cases c:j=0
   ·subst c;exact aU h h
   ·exact aU h (pw 0 j hpos hj om)
theorem kh.rep {t:Tr}{p:Pq}{D:List Pq}(h:kh t p D) (hk:t.lok):(∀s∈kU D,Ab.gen t p s)∧∀d,Ab.gen t p d→∃s∈kU D,tow t p s=tow t p d:=by
 by_cases hne:D=[]
 ·subst hne
  have hm:∀l∈fC t p,False:=fun l hl=>by
   have:=(h.m (ck (dirL l))).2 ⟨l,hl, .inl rfl⟩;cases this
  unfold kU;rw [if_pos rfl];refine⟨fun s hs=>?_,fun d hd=>⟨(1,0),List.mem_singleton.2 rfl,gG fun l hl=>(hm l hl).elim⟩⟩;rw [List.mem_singleton.1 hs];exact⟨.inl (by decide +kernel),fun l hl=>(hm l hl).elim⟩
 ·have hz:=h.nz hk;have hg:=h.ng;unfold kU;rw [if_neg hne];have gd:∀{j:Nat}{v:Pq},D[j]? = some v→D.getD j (0,0)=v:=fun hj=>by rw [List.getD,hj];rfl
  constructor
  ·intro s hs;obtain⟨i,hi,rfl⟩:=List.mem_map.1 hs;have hi:=List.mem_range.1 hi;obtain⟨hD,pr⟩:=zi h.s hz hg hne hi;have hu:D.getD i (0,0)∈D:=by rw [List.getD,List.getElem?_eq_getElem hi];exact List.getElem_mem hi
   have sc:=pr.sect (hz _ hu);exact⟨IL sc.ud,(h.gen hk).1 fun e he=>(vD hD hu sc he).1⟩
  ·rintro d ⟨d1,d2⟩;obtain⟨i,u,w,hi,hw,sc⟩:=EN h.s hz hg hne d1 ((h.gen hk).2 d2);have hil:=(List.getElem?_eq_some_iff.1 hi).1;obtain⟨hD,_⟩:=zi h.s hz hg hne hil;refine⟨iL u w,List.mem_map.2 ⟨i,List.mem_range.2 hil,by rw [gd hi,gd hw]⟩,?_⟩;exact h.same hk fun e he=>(vD hD (List.mem_of_getElem? hi) sc he).2.2.symm
theorem kh.any {t:Tr}{p:Pq}{D:List Pq}(h:kh t p D) (hk:t.lok):((kU D).any (tow t p))=true↔∃d,Ab.gen t p d∧tow t p d=true:=by
 obtain⟨h1,h2⟩:=h.rep hk;rw [List.any_eq_true];constructor
 ·rintro ⟨s,hs,e⟩;exact⟨s,h1 s hs,e⟩
 ·rintro ⟨d,hd,e⟩;obtain⟨s,hs,es⟩:=h2 d hd;exact⟨s,hs,es.trans e⟩
theorem kh.all {t:Tr}{p:Pq}{D:List Pq}(h:kh t p D) (hk:t.lok):((kU D).all (tow t p))=true↔∀d,Ab.gen t p d→tow t p d=true:=by
 obtain⟨h1,h2⟩:=h.rep hk;rw [List.all_eq_true];constructor
 ·intro k d hd;obtain⟨s,hs,es⟩:=h2 d hd;rw [←es];exact k s hs
 ·intro k s hs;exact k s (h1 s hs)
def iW (m:M6 Rat) (d:Pq):Pq:=(m.inv.a*d.1+m.inv.b*d.2,m.inv.d*d.1+m.inv.e*d.2)
def rQ (m:M6 Rat) (d:Pq):Pq:=(m.a*d.1+m.b*d.2,m.d*d.1+m.e*d.2)
theorem gW {m:M6 Rat}{l:Li}(h:m.det≠0) (hl:l.ok):∃k:Rat,0<k∧(∀q,a6 (l.im m) q=k*a6 l (m.inv.app q))∧∀d,gn (l.im m) d=k*gn l (iW m d):=by
 have hne:=Li.im_ne h hl;obtain⟨e1,e2,e3⟩:=mM (c:=l.a*m.inv.c+l.b*m.inv.f+l.c) hne;have hg:=qW (c:=l.a*m.inv.c+l.b*m.inv.f+l.c) hne;refine⟨_,Rat.inv_pos.2 hg,fun q=>?_,fun d=>?_⟩
 ·unfold Li.im a6;rw [←e1,←e2,←e3];generalize(g3 _ _ _)⁻¹=g;unfold M6.app;simp only;grind
 ·unfold Li.im gn;rw [←e1,←e2];generalize(g3 _ _ _)⁻¹=g;unfold iW;simp only;grind
theorem zero_mul {k v:Rat}(hk:0<k):k*v=0↔v=0:=by
 constructor
 ·intro h;exact(Rat.mul_eq_zero.1 h).resolve_left (by grind)
 ·intro h;rw [h];grind
theorem oz {m:M6 Rat}(h:m.det≠0) (q d:Pq):∀{t:Tr},t.lok→tow (t.im m) q d=tow t (m.inv.app q) (iW m d)
 | .leaf _,_=>rfl
 | .node l a b,hl=>by
  obtain⟨k,hk,e1,e2⟩:=gW h hl.1;show(if 0<a6 (l.im m) q∨(a6 (l.im m) q=0∧0<gn (l.im m) d)then tow (a.im m) q d else tow (b.im m) q d)=if 0<a6 l (m.inv.app q)∨(a6 l (m.inv.app q)=0∧0<gn l (iW m d))then tow a (m.inv.app q) (iW m d)else tow b (m.inv.app q) (iW m d)
  rw [oz h q d hl.2.1,oz h q d hl.2.2,e1,e2];simp only [kE hk,zero_mul hk]
theorem uF {m:M6 Rat}(h:m.det≠0) (q:Pq):∀{t:Tr},t.lok→fC (t.im m) q=(fC t (m.inv.app q)).map (Li.im m)
 | .leaf _,_=>rfl
 | .node l a b,hl=>by
  obtain⟨k,hk,e1,_⟩:=gW h hl.1;show(if a6 (l.im m) q=0 then l.im m::(fC (a.im m) q++fC (b.im m) q)else if 0<a6 (l.im m) q then fC (a.im m) q else fC (b.im m) q)=_
  rw [uF h q hl.2.1,uF h q hl.2.2,e1];simp only [kE hk,zero_mul hk];show _=List.map _ (if a6 l (m.inv.app q)=0 then l::(fC a (m.inv.app q)++fC b (m.inv.app q))else if 0<a6 l (m.inv.app q)then fC a (m.inv.app q)else fC b (m.inv.app q))
  split
  ·rw [List.map_cons,List.map_append]
  ·split <;> rfl
theorem kK {m:M6 Rat}(h:m.det≠0) (d:Pq):iW m (rQ m d)=d:=by
 obtain⟨x1,x2⟩:=M6.inv_apply h d.1 d.2;obtain⟨y1,y2⟩:=M6.inv_apply h 0 0;unfold iW rQ;ext
 ·simp only;grind
 ·simp only;grind
theorem Dp {m:M6 Rat}(h:m.det≠0){d:Pq}(hd:nz d):nz (rQ m d):=by
 have e:=kK h d;unfold nz at *;apply Classical.byContradiction;intro c;have h1:(rQ m d).1=0:=Classical.byContradiction fun e=>c (.inl e)
 have h2:(rQ m d).2=0:=Classical.byContradiction fun e=>c (.inr e)
 unfold iW at e;rw [h1,h2]at e;have a1:=congrArg Prod.fst e;have a2:=congrArg Prod.snd e;simp only at a1 a2;grind
theorem Dv {m:M6 Rat}(h:m.det≠0){t:Tr}(hl:t.lok){q d:Pq}(hd:gen (t.im m) q d):gen t (m.inv.app q) (iW m d):=by
 obtain⟨h1,h2⟩:=hd;rw [uF h q hl]at h2
 have key:∀l∈fC t (m.inv.app q),gn l (iW m d)≠0:=fun l hm e=>by
  obtain⟨k,hk,_,e2⟩:=gW h (gm hl l hm);refine h2 _ (List.mem_map.2 ⟨l,hm,rfl⟩) ?_;rw [e2,e];grind
 refine⟨?_,key⟩
 have hdet:m.inv.det≠0:=by
  rw [M6.inv_det h];intro c;have:=Rat.mul_inv_cancel _ h;rw [c]at this;grind
 unfold nz at *;apply Classical.byContradiction;intro c;have z1:(iW m d).1=0:=Classical.byContradiction fun e=>c (.inl e)
 have z2:(iW m d).2=0:=Classical.byContradiction fun e=>c (.inr e)
 unfold iW at z1 z2;simp only at z1 z2;have i1:m.inv.det*d.1=0:=by unfold M6.det;grind
 have i2:m.inv.det*d.2=0:=by unfold M6.det;grind
 rcases h1 with h1|h1
 ·exact h1 ((Rat.mul_eq_zero.1 i1).resolve_left hdet)
 ·exact h1 ((Rat.mul_eq_zero.1 i2).resolve_left hdet)
theorem DF {m:M6 Rat}(h:m.det≠0){t:Tr}(hl:t.lok){q d:Pq}(hd:gen t (m.inv.app q) d):gen (t.im m) q (rQ m d):=by
 obtain⟨h1,h2⟩:=hd;refine⟨Dp h h1,?_⟩;rw [uF h q hl];intro l' hm';obtain⟨l,hm,rfl⟩:=List.mem_map.1 hm';obtain⟨k,hk,_,e2⟩:=gW h (gm hl l hm);rw [e2,kK h];intro z;rcases Rat.mul_eq_zero.1 z with z|z
 ·grind
 ·exact h2 l hm z
open Classical in
theorem kL {v:Pq}(h:nz v):iu v=if up v then 1 else 2:=by
 unfold iu up;by_cases c:v.1=0∧v.2=0
 ·rcases h with h|h
  ·exact absurd c.1 h
  ·exact absurd c.2 h
 ·rw [if_neg c];by_cases k:0<v.2∨v.2=0∧0<v.1
  ·rw [if_pos k,if_pos k]
  ·rw [if_neg k,if_neg k]
open Classical in
theorem rH {u v:Pq}(hu:nz u) (hv:nz v):fE u v<0↔lta u v:=by
 unfold fE lta;rw [kL hu,kL hv];by_cases a:up u <;> by_cases b:up v
 ·rw [if_pos a,if_pos b,if_neg (by decide)];simp only [a,b,not_true,and_false,false_or,true_and,iff_self];have : -(a7 u v).num.sign<0↔0<(a7 u v).num.sign:=by omega
  rw [this,bd]
 ·rw [if_pos a,if_neg b,if_pos (by decide),if_pos (by decide)];simp [a,b]
 ·rw [if_neg a,if_pos b,if_pos (by decide),if_neg (by decide)];simp [a,b]
 ·rw [if_neg a,if_neg b,if_neg (by decide)];simp only [a,b,false_and,false_or,true_and,iff_self];have : -(a7 u v).num.sign<0↔0<(a7 u v).num.sign:=by omega
  rw [this,bd]
theorem oK (p:Nat→Bool) (n:Nat) (hm:∀i j,i≤j→j<n→p j=true→p i=true):∀(f i j:Nat),i≤j→j≤n→j-i<f→(∀k,k<i→p k=true)→(∀k,j≤k→k<n→p k=false)→jF p f i j≤n∧(∀k,k<jF p f i j→p k=true)∧∀k,jF p f i j≤k→k<n→p k=false
 |0,i,j,_,_,h,_,_=>by omega
 |f+1,i,j,hij,hj,h,h1,h2=>by
  unfold jF;by_cases c:i<j
  ·rw [if_pos c];cases hp:p ((i+j)/2)with
   |true =>
    rw [if_pos rfl];exact oK p n hm f _ _ om hj om (fun k hk=>hm k _ om om hp) h2
   |false =>
    rw [if_neg (by decide)];refine oK p n hm f _ _ om om om h1 fun k hk hkn=>?_
    cases hq:p k with
    |false=>rfl
    |true=>rw [hm _ k hk hkn hq]at hp;cases hp
  ·rw [if_neg c];have:i=j:=by omega
   subst this;exact⟨om,h1,h2⟩
abbrev lK (s:Fg):Pq:=dirL s.1
def km (c:PC):Prop:=(c.map lK).Pairwise lta
theorem sK {l:Li}(h:l.ok):nz (dirL l):=by
 unfold nz dirL;simp only;rcases h.2 with r|r
 ·exact .inr fun e=>r (Rat.intCast_eq_zero_iff.1 (by grind))
 ·exact .inl fun e=>r (Rat.intCast_eq_zero_iff.1 e)
theorem sh {d:PC}(h:dH d){l m:Li}(hl:l∈aa d) (hm:m∈aa d) (hne:l≠m):lta (dirL l) (dirL m)∨lta (dirL m) (dirL l):=by
 have hlo:=h.lok l hl;have hmo:=h.lok m hm;by_cases cz:a7 (dirL l) (dirL m)=0
 ·by_cases uu:(up (dirL l)↔up (dirL m))
  ·exfalso;obtain⟨r,r0,r1⟩:=h.edg hl;obtain⟨q,q0,q1⟩:=h.edg hm;have a1:=r1 m hm fun e=>hne e.symm
   have a2:=q1 l hl hne;have n1:=cW hlo;have n2:=cW hmo;have cz2:(l.b:Rat)*m.a=l.a*m.b:=by unfold a7 dirL at cz;simp only at cz;grind
   have dot:0<(l.a:Rat)*m.a+l.b*m.b:=by
    apply Classical.byContradiction;intro c;have hn:=(dM (sK hlo))
    have key:(l.a:Rat)*m.a+l.b*m.b≠0:=fun z=>by
     have e1:((l.a:Rat)*l.a+l.b*l.b)*m.a=0:=by grind
     have e2:((l.a:Rat)*l.a+l.b*l.b)*m.b=0:=by grind
     have f1:=(Rat.mul_eq_zero.1 e1).resolve_left (by grind);have f2:=(Rat.mul_eq_zero.1 e2).resolve_left (by grind);rw [f1,f2]at n2;grind
    have neg:(l.a:Rat)*m.a+l.b*m.b<0:=by grind
    have e1:((l.a:Rat)*l.a+l.b*l.b)*m.a=((l.a:Rat)*m.a+l.b*m.b)*l.a:=by grind
    have e2:((l.a:Rat)*l.a+l.b*l.b)*m.b=((l.a:Rat)*m.a+l.b*m.b)*l.b:=by grind
    generalize(l.a:Rat)*l.a+l.b*l.b=N at *;generalize(l.a:Rat)*m.a+l.b*m.b=D at *;unfold up dirL at uu;simp only at uu
    have sg:∀x y:Rat,N*y=D*x→(0<x↔y<0)∧(x<0↔0<y)∧(x=0↔y=0):=fun x y e=>by
     have t1:0<x→y<0:=fun hx=>by
      have:=Rat.mul_pos (show 0 < -D by grind) hx;have:=ef (show 0<N*(-y) by grind) (by grind);grind
     have t2:x<0→0<y:=fun hx=>by
      have:=Rat.mul_pos (show 0 < -D by grind) (show 0 < -x by grind);exact ef (show 0<N*y by grind) (by grind)
     have t3:x=0→y=0:=fun hx=>by
      rw [hx]at e;exact(Rat.mul_eq_zero.1 (show N*y=0 by grind)).resolve_left (by grind)
     refine⟨⟨t1,fun hy=>?_⟩,⟨t2,fun hy=>?_⟩,⟨t3,fun hy=>?_⟩⟩
     ·rcases(by grind:0<x∨x<0∨x=0)with c|c|c
      ·exact c
      ·have:=t2 c;grind
      ·have:=t3 c;grind
     ·rcases(by grind:0<x∨x<0∨x=0)with c|c|c
      ·have:=t1 c;grind
      ·exact c
      ·have:=t3 c;grind
     ·rcases(by grind:0<x∨x<0∨x=0)with c|c|c
      ·have:=t1 c;grind
      ·have:=t2 c;grind
      ·exact c
    have sa:=sg _ _ e1;have sb:=sg _ _ e2
    have h0:(l.a:Rat)≠0∨(l.b:Rat)≠0:=by
     rcases hlo.2 with r|r
     ·exact .inl fun e=>r (Rat.intCast_eq_zero_iff.1 e)
     ·exact .inr fun e=>r (Rat.intCast_eq_zero_iff.1 e)
    generalize(l.a:Rat)=x at *;generalize(l.b:Rat)=y at *;generalize(m.a:Rat)=z at *;generalize(m.b:Rat)=w at *;rcases(by grind:x<0∨0<x∨x=0)with c1|c1|c1
    ·have k1:0 < -x∨(-x=0∧0<y) := .inl (by grind);have k2:=uu.1 k1;have:=sa.2.1.1 c1;grind
    ·have:=sa.1.1 c1;have k1:0 < -z∨(-z=0∧0<w) := .inl (by grind);have k2:=uu.2 k1;grind
    ·have z0:=sa.2.2.1 c1;rcases(by grind:y<0∨0<y)with c2|c2
     ·have:=sb.2.1.1 c2;have k1:0 < -z∨(-z=0∧0<w) := .inr ⟨by grind,this⟩;have k2:=uu.2 k1;grind
     ·have:=sb.1.1 c2;have k1:0 < -x∨(-x=0∧0<y) := .inr ⟨by grind,c2⟩;have k2:=uu.1 k1;grind
   have e:∀p,((l.a:Rat)*l.a+l.b*l.b)*(a6 m p-a6 m r)=((l.a:Rat)*m.a+l.b*m.b)*(a6 l p-a6 l r):=fun p=>by
    unfold a6;have e1:((l.a:Rat)*l.a+l.b*l.b)*m.a=((l.a:Rat)*m.a+l.b*m.b)*l.a:=by grind
    have e2:((l.a:Rat)*l.a+l.b*l.b)*m.b=((l.a:Rat)*m.a+l.b*m.b)*l.b:=by grind
    grind
   have ep:=e q;rw [q0,r0]at ep;have p1:=Rat.mul_pos dot a2;have p2:=Rat.mul_pos n1 a1;grind
  ·unfold lta;by_cases c:up (dirL l)
   ·exact .inl (.inl ⟨c,fun k=>uu ⟨fun _=>k,fun _=>c⟩⟩)
   ·refine .inr (.inl ⟨Classical.byContradiction fun k=>uu ⟨fun h=>absurd h c,fun h=>absurd h k⟩,c⟩)
 ·exact uq cz
theorem E4 {c d:PC}(h:dH c) (ho:km c){l:Li}(hl:l.ok) (hd:fA (eE l) c l=(d,true)):km d:=by
 have hk:=(nF h hl (eE l) hd).1;unfold fA at hd;cases hp:mO c l with
 |none =>
  rw [hp]at hd;simp only [Prod.mk.injEq]at hd;rw [←hd.1];exact ho
 |some v =>
  rw [hp]at hd;simp only [Prod.mk.injEq,and_true]at hd
  have hks:km (bE c l):=by
   have e:∀c:PC,c.map lK=(aa c).map dirL:=fun c=>by unfold aa;rw [List.map_map];rfl
   unfold km at ho⊢;rw [e]at ho⊢;exact ho.sublist ((ou c l).map dirL)
  have hmem:∀s∈bE c l,s.1∈aa d∧s∈d:=fun s hs=>by
   have:s∈d:=by rw [←hd];exact(iX _ _ _).mem_iff.2 (Mc hs)
   exact⟨List.mem_map.2 ⟨s,this,rfl⟩,this⟩
  have hlm:l∈aa d:=by rw [←hd];exact List.mem_map.2 ⟨(l,v),(iX _ _ _).mem_iff.2 Ms,rfl⟩
  have hnl:∀s∈bE c l,s.1≠l:=fun s hs e=>by
   have nd:=hk.nd
   have hp:(aa d).Perm (l::aa (bE c l)):=by
    rw [←hd];unfold aa;exact(iX _ _ _).map _
   have:=(hp.nodup_iff.1 nd)
   rw [List.nodup_cons]at this;have m:s.1∈aa (bE c l):=List.mem_map.2 ⟨s,hs,rfl⟩;rw [e]at m;exact this.1 m
  have hdir:∀s∈bE c l,lta (lK s) (dirL l)∨lta (dirL l) (lK s):=fun s hs=>sh hk (hmem s hs).1 hlm (hnl s hs)
  have hnz:∀s∈bE c l,nz (lK s):=fun s hs=>sK (hk.ok s (hmem s hs).2)
  have pw:=List.pairwise_iff_getElem.1 hks;generalize hq:(fun k=>decide (fE (dirL (((bE c l).getD k (⟨0,0,0⟩,Spn.none)).1)) (dirL l)<0))=p at *
  have hpk:∀{k:Nat}(hkl:k<(bE c l).length),p k=true↔lta (lK ((bE c l)[k])) (dirL l):=fun {k} hkl=>by
   rw [←hq];simp only;rw [decide_eq_true_iff,List.getD,List.getElem?_eq_getElem hkl,Option.getD_some,rH (hnz _ (List.getElem_mem hkl)) (sK hl)]
  have hb:=oK p (bE c l).length (fun i j hij hj hpj=>by
   rw [hpk hj]at hpj;rw [hpk om];by_cases e:i=j
   ·subst e;exact hpj
   ·have:=pw i j (by simpa using (by omega:i<(bE c l).length)) (by simpa using hj) om;simp only [List.getElem_map]at this;exact kJ (hnz _ (List.getElem_mem _)) (hnz _ (List.getElem_mem _)) (sK hl) this hpj) ((bE c l).length+1) 0 (bE c l).length (Nat.zero_le _) (Nat.le_refl _) om (fun k hk=>by omega) (fun k h1 h2=>by omega)
  have hpos:eE l (bE c l)=jF p ((bE c l).length+1) 0 (bE c l).length:=by unfold eE;rw [hq]
  rw [hpos]at hd;generalize jF p ((bE c l).length+1) 0 (bE c l).length=r at *;obtain⟨b1,b2,b3⟩:=hb;rw [←hd];unfold km;rw [List.map_append,List.map_cons,List.map_take,List.map_drop]
  have hbef:∀a∈((bE c l).map lK).take r,lta a (dirL l):=fun a ha=>by
   obtain⟨k,hk,rfl⟩:=List.mem_iff_getElem.1 ha;rw [List.length_take,List.length_map]at hk;rw [List.getElem_take,List.getElem_map];exact(hpk om).1 (b2 k om)
  have haft:∀a∈((bE c l).map lK).drop r,lta (dirL l) a:=fun a ha=>by
   obtain⟨k,hk,rfl⟩:=List.mem_iff_getElem.1 ha;rw [List.length_drop,List.length_map]at hk;rw [List.getElem_drop,List.getElem_map];have hr:r+k<(bE c l).length:=by omega
   rcases hdir _ (List.getElem_mem hr)with h|h
   ·have:=b3 (r+k) om hr;rw [(hpk hr).2 h]at this;cases this
   ·exact h
  refine List.pairwise_append.2 ⟨hks.sublist (List.take_sublist _ _),List.pairwise_cons.2 ⟨haft,hks.sublist (List.drop_sublist _ _)⟩,fun a ha b hb=>?_⟩
  have nza:∀a∈(bE c l).map lK,nz a:=fun a ha=>by
   obtain⟨s,hs,rfl⟩:=List.mem_map.1 ha;exact hnz s hs
  rcases List.mem_cons.1 hb with rfl|hb
  ·exact hbef a ha
  ·exact kJ (nza a (List.mem_of_mem_take ha)) (sK hl) (nza b (List.mem_of_mem_drop hb)) (hbef a ha) (haft b hb)
end Go.Ab
namespace Go.Ab
open Go.Proofs
variable [Base]
def dB:Tr→Pq→List Pq
 | .leaf _,_=>[]
 | .node l a b,p=>(if a6 l p=0 then [ck (dirL l),ngP (ck (dirL l))]else [])++((if 0≤a6 l p then dB a p else [])++(if a6 l p≤0 then dB b p else []))
theorem mH:∀(t:Tr) (p e:Pq),e∈dB t p↔∃l∈fC t p,e=ck (dirL l)∨e=ngP (ck (dirL l))
 | .leaf _,p,e=>by
  unfold dB fC;simp
 | .node l a b,p,e=>by
  have ha:=mH a p e;have hb:=mH b p e;unfold dB fC;by_cases z:a6 l p=0
  ·rw [if_pos z,if_pos z,if_pos (by grind),if_pos (by grind),List.mem_append,List.mem_append,ha,hb];constructor
   ·rintro (h|h|h)
    ·refine⟨l,Ms,?_⟩;simpa using h
    ·obtain⟨m,hm,k⟩:=h;exact⟨m,Mc (List.mem_append_left _ hm),k⟩
    ·obtain⟨m,hm,k⟩:=h;exact⟨m,Mc (List.mem_append_right _ hm),k⟩
   ·rintro ⟨m,hm,k⟩;rcases List.mem_cons.1 hm with rfl|hm
    ·exact .inl (by simpa using k)
    ·rcases List.mem_append.1 hm with hm|hm
     ·exact .inr (.inl ⟨m,hm,k⟩)
     ·exact .inr (.inr ⟨m,hm,k⟩)
  ·rw [if_neg z,if_neg z];by_cases c:0<a6 l p
   ·rw [if_pos c,if_pos (by grind),if_neg (by grind),List.nil_append,List.append_nil];exact ha
   ·rw [if_neg c,if_neg (by grind),if_pos (by grind),List.nil_append,List.nil_append];exact hb
theorem vR {v:Pq}{k:Rat}(hk:0<k):ck (k*v.1,k*v.2)=ck v:=by
 unfold ck;simp only;rw [qu k v.1 v.2 hk];have e:(k*bP v.1 v.2)⁻¹=k⁻¹*(bP v.1 v.2)⁻¹:=by rw [Rat.inv_mul_rev,Rat.mul_comm]
 rw [e];have h:k*k⁻¹=1:=Rat.mul_inv_cancel _ (by grind);generalize(bP v.1 v.2)⁻¹=g;generalize k⁻¹=w at *;ext <;> simp only <;> grind
theorem F7 (v:Pq):ck (ngP v)=ngP (ck v):=by
 unfold ck ngP;simp only;rw [Co];ext <;> simp only <;> grind
def pb (v:Pq):Prop:=nz v∧ck v=v
theorem yZ {v:Pq}(h:nz v):pb (ck v):=by
 refine⟨tU h,?_⟩;have:=vR (v:=v) (Rat.inv_pos.2 (qt h));unfold ck at this⊢;simp only at this⊢;have e1:v.1*(bP v.1 v.2)⁻¹=(bP v.1 v.2)⁻¹*v.1:=Rat.mul_comm _ _;have e2:v.2*(bP v.1 v.2)⁻¹=(bP v.1 v.2)⁻¹*v.2:=Rat.mul_comm _ _;rw [e1,e2];rw [e1,e2]at this;exact this
theorem H7 {v:Pq}(h:pb v):pb (ngP v):=⟨l6 h.1,by rw [F7,h.2]⟩
theorem rh {u v:Pq}(hu:pb u) (hv:pb v) (h1:¬lta u v) (h2:¬lta v u):u=v:=by
 have hc:a7 u v=0:=Classical.byContradiction fun k=>by
  rcases uq k with x|x
  ·exact h1 x
  ·exact h2 x
 have hup:up u↔up v:=by
  constructor
  ·intro a;apply Classical.byContradiction;intro b;exact h1 (.inl ⟨a,b⟩)
  ·intro a;apply Classical.byContradiction;intro b;exact h2 (.inl ⟨a,b⟩)
 have sq:=tF hu.1;have e:(u.1*v.1+u.2*v.2)/(u.1*u.1+u.2*u.2)*(u.1*u.1+u.2*u.2)=u.1*v.1+u.2*v.2:=Rat.div_mul_cancel (by grind);generalize(u.1*v.1+u.2*v.2)/(u.1*u.1+u.2*u.2)=k at e;unfold a7 at hc
 have v1:v.1=k*u.1:=by
  have:(u.1*u.1+u.2*u.2)*(v.1-k*u.1)=0:=by grind
  have:=(Rat.mul_eq_zero.1 this).resolve_left (by grind);grind
 have v2:v.2=k*u.2:=by
  have:(u.1*u.1+u.2*u.2)*(v.2-k*u.2)=0:=by grind
  have:=(Rat.mul_eq_zero.1 this).resolve_left (by grind);grind
 have k0:k≠0:=fun z=>by
  rcases hv.1 with g|g
  ·exact g (by rw [v1,z];grind)
  ·exact g (by rw [v2,z];grind)
 have kp:0<k:=by
  apply Classical.byContradiction;intro kn;have kn:0 < -k:=by grind
  unfold up at hup;rw [v1,v2]at hup;rcases(by grind:0<u.2∨u.2<0∨u.2=0)with c|c|c
  ·have:=Rat.mul_pos kn c;rcases hup.1 (.inl c)with x|⟨x,_⟩ <;> grind
  ·have:=Rat.mul_pos kn (show 0 < -u.2 by grind);rcases hup.2 (.inl (by grind))with x|⟨x,_⟩ <;> grind
  ·have u1:u.1≠0:=by
    rcases hu.1 with g|g
    ·exact g
    ·exact absurd c g
   rcases(by grind:0<u.1∨u.1<0)with d|d
   ·have:=Rat.mul_pos kn d;rcases hup.1 (.inr ⟨c,d⟩)with x|⟨_,x⟩
    ·rw [c]at x;grind
    ·grind
   ·have:=Rat.mul_pos kn (show 0 < -u.1 by grind);rcases hup.2 (.inr ⟨by rw [c];grind,by grind⟩)with x|⟨_,x⟩ <;> grind
 have:v=(k*u.1,k*u.2):=Prod.ext v1 v2;rw [←hv.2,this,vR kp,hu.2]
def nC (eq:Pq→Pq→Bool):List Pq→List Pq
 | []=>[]
 | [a]=>[a]
 |a::b::l=>if eq b a then nC eq (a::l)else a::nC eq (b::l)
theorem uU (eq:Pq→Pq→Bool):∀(n:Nat) (l:List Pq),l.length≤n→(∀e∈l,pb e)→(∀a∈l,∀b∈l,eq b a=true↔a=b)→l.Pairwise (fun a b=>¬lta b a)→(nC eq l).Pairwise lta∧∀e,e∈nC eq l↔e∈l
 |_,[],_,_,_,_=>by unfold nC;exact⟨List.Pairwise.nil,fun e=>Iff.rfl⟩
 |_,[a],_,_,_,_=>by unfold nC;exact⟨List.pairwise_singleton _ _,fun e=>Iff.rfl⟩
 |0,_::_::_,h,_,_,_=>by simp at h
 |n+1,a::b::l,h,hp,he,hs=>by
  have sub:(a::l).Sublist (a::b::l):=List.Sublist.cons_cons _ (Sc Sr);have pw:=List.pairwise_cons.1 hs;unfold nC;split
  ·rename_i k;have hab:a=b:=(he a List.mem_cons_self b (Mc Ms)).1 k;obtain⟨i1,i2⟩:=uU eq n (a::l) (by simp at h⊢;omega) (fun e x=>hp e (sub.subset x)) (fun x hx y hy=>he x (sub.subset hx) y (sub.subset hy)) (hs.sublist sub);refine⟨i1,fun e=>?_⟩;rw [i2];constructor
   ·intro x;exact sub.subset x
   ·intro x;rcases List.mem_cons.1 x with rfl|x
    ·exact Ms
    ·rcases List.mem_cons.1 x with rfl|x
     ·rw [hab];exact Ms
     ·exact Mc x
  ·rename_i k;obtain⟨i1,i2⟩:=uU eq n (b::l) (by simp at h⊢;omega) (fun e x=>hp e (Mc x)) (fun x hx y hy=>he x (Mc hx) y (Mc hy)) pw.2
   have ab:lta a b:=by
    have h1:=pw.1 b Ms;apply Classical.byContradiction;intro z;have:=rh (hp a Ms) (hp b (Mc Ms)) z h1;exact k ((he a List.mem_cons_self b (Mc Ms)).2 this)
   refine⟨List.pairwise_cons.2 ⟨fun e x=>?_,i1⟩,fun e=>by rw [List.mem_cons,i2];exact List.mem_cons.symm⟩;have xe:=(i2 e).1 x;rcases List.mem_cons.1 xe with rfl|xe
   ·exact ab
   ·have h1:=pw.1 e (Mc xe);have h2:=(List.pairwise_cons.1 pw.2).1 e xe;apply Classical.byContradiction;intro z;have ae:=rh (hp a Ms) (hp e (Mc (Mc xe))) z h1;rw [←ae]at h2;exact h2 ab
theorem Bn {t:Tr}(hl:t.lok){p:Pq}{l:List Pq}(hm:l.Perm (dB t p)) (hs:l.Pairwise (fun a b=>¬fE b a<0)):kh t p (nC (fun u v=>decide (fE u v=0)) l):=by
 have hpr:∀e∈l,pb e:=fun e he=>by
  obtain⟨m,hm2,k⟩:=(mH t p e).1 (hm.mem_iff.1 he);have:=yZ (rg (gm hl m hm2));rcases k with rfl|rfl
  ·exact this
  ·exact H7 this
 have z:∀a∈l,∀b∈l,(fE b a=0↔a=b):=fun a ha b hb=>by
  have na:=(hpr a ha).1;have nb:=(hpr b hb).1;constructor
  ·intro h;refine rh (hpr a ha) (hpr b hb) (fun k=>?_) fun k=>?_
   ·skip
    unfold fE at h;rw [kL nb,kL na]at h;unfold lta at k;rcases k with⟨k1,k2⟩|⟨k1,k2⟩
    ·rw [if_neg k2,if_pos k1]at h;simp at h
    ·by_cases x:up a
     ·rw [if_pos (k1.1 x),if_pos x]at h;simp only [ne_eq,not_true,if_false]at h;have:=cH (x:=a7 b a);have hc:a7 b a<0:=by rw [bn];grind
      have:=this.2 hc;omega
     ·rw [if_neg (fun y=>x (k1.2 y)),if_neg x]at h;simp only [ne_eq,not_true,if_false]at h;have:=cH (x:=a7 b a);have hc:a7 b a<0:=by rw [bn];grind
      have:=this.2 hc;omega
   ·have:=(rH nb na).2 k;omega
  ·rintro rfl;unfold fE;rw [if_neg (by simp),dR];rfl
 obtain⟨i1,i2⟩:=uU (fun u v=>decide (fE u v=0)) l.length l (Nat.le_refl _) hpr (fun a ha b hb=>by rw [decide_eq_true_iff];exact z a ha b hb) (hs.imp_of_mem fun {a b} ha hb h k=>h ((rH (hpr b hb).1 (hpr a ha).1).2 k));exact⟨i1,fun e=>by rw [i2,hm.mem_iff,mH]⟩
end Go.Ab
