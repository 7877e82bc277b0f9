/- Texts laid one behind the other: Sec, RSrt, Bld, Txt, TxtB, Nrm, RgW, RgP, RgC, RgO, Maps, ImgA, ImT, Inverts. -/
import Derived.Test.YtbcojehfealiaaaGreatDoorB23
import Derived.Lib.AppendStr
import Derived.Lib.UnsafeStr
import Derived.Lib.Builder
import Derived.Laws.IdiomStrings
set_option linter.all false
set_option maxHeartbeats 16000000
namespace Go.Ab
open Go.Proofs
variable [Base]
def up (v:Pq):Prop:=0<v.2∨(v.2=0∧0<v.1)
def ngP (v:Pq):Pq:=(-v.1,-v.2)
abbrev nz (v:Pq):Prop:=v.1≠0∨v.2≠0
def lta (u v:Pq):Prop:=(up u∧¬up v)∨((up u↔up v)∧0<a7 u v)
theorem dM {v:Pq}(h:nz v):up (ngP v)↔¬up v:=by
 unfold up ngP nz at *;simp only;constructor
 ·rintro (a|⟨a,b⟩) (c|⟨c,d⟩) <;> grind
 ·intro k;by_cases c:v.2=0
  ·refine .inr ⟨by grind,?_⟩;have:¬0<v.1:=fun d=>k (.inr ⟨c,d⟩)
   grind
  ·refine .inl ?_;have:¬0<v.2:=fun d=>k (.inl d)
   grind
theorem l6 {v:Pq}(h:nz v):nz (ngP v):=by unfold nz ngP at *;simp only;grind
theorem aX (u v:Pq):a7 (ngP u) v = - a7 u v:=by unfold a7 ngP;grind
theorem aC (u v:Pq):a7 u (ngP v) = - a7 u v:=by unfold a7 ngP;grind
theorem bn (u v:Pq):a7 u v = - a7 v u:=by unfold a7;grind
theorem ef {a b:Rat}(h:0<a*b) (k:0≤a):0<b:=by
 apply Classical.byContradiction;intro c;have:=Rat.mul_nonneg k (show 0≤-b by grind);grind
theorem oH {a b c:Pq}(ha:up a) (hb:up b) (hc:up c) (h1:0<a7 a b) (h2:0<a7 b c):0<a7 a c:=by
 obtain⟨a1,a2⟩:=a;obtain⟨b1,b2⟩:=b;obtain⟨c1,c2⟩:=c;unfold up at ha hb hc;unfold a7 at *;simp only at *;have a0:0≤a2:=by grind
 have b0:0≤b2:=by grind
 have c0:0≤c2:=by grind
 have id:(a1*c2-a2*c1)*b2=(a1*b2-a2*b1)*c2+(b1*c2-b2*c1)*a2:=by grind
 by_cases hb2:b2=0
 ·-- b on the axis: then a lies Ed
  subst hb2;have hb1:0<b1:=by grind
  have:=Rat.mul_nonneg a0 (show 0≤b1 by grind);grind
 ·have hb3:0<b2:=by grind
  by_cases hc2:c2=0
  ·subst hc2;have hc1:0<c1:=by grind
   have:=Rat.mul_pos hb3 hc1;grind
  ·have:=Rat.mul_pos h1 (show 0<c2 by grind);have:=Rat.mul_nonneg (show 0≤b1*c2-b2*c1 by grind) a0;have h3:0<b2*(a1*c2-a2*c1):=by grind
   exact ef h3 b0
theorem rv {a b c:Pq}(na:nz a) (nb:nz b) (nc:nz c) (ha:¬up a) (hb:¬up b) (hc:¬up c) (h1:0<a7 a b) (h2:0<a7 b c):0<a7 a c:=by
 have:=oH (a:=ngP a) (b:=ngP b) (c:=ngP c) ((dM na).2 ha) ((dM nb).2 hb) ((dM nc).2 hc) (by rw [aX,aC];grind) (by rw [aX,aC];grind);rw [aX,aC]at this;grind
structure vd (D:List Pq):Prop where
 nz:∀e∈D,nz e
 ng:∀e∈D,ngP e∈D
 tri:∀a∈D,∀b∈D,a=b∨lta a b∨lta b a
structure x8 (D:List Pq) (u w d:Pq):Prop where
 ud:0<a7 u d
 c:(0<a7 u w∧0<a7 d w∧∀e∈D,¬(0<a7 u e∧0<a7 e w))∨(w=ngP u∧∀e∈D,¬0<a7 u e)
def s5 (u:Pq):Pq:=(-u.2,u.1)
def iL (u w:Pq):Pq:=if 0<a7 u w then(u.1+w.1,u.2+w.2)else s5 u
theorem uT (e u w:Pq):a7 e (u.1+w.1,u.2+w.2)=a7 e u+a7 e w:=by unfold a7;grind
theorem dR (u:Pq):a7 u u=0:=by unfold a7;grind
theorem Ig (e u w d:Pq):a7 u w*a7 e d=a7 d w*a7 e u+a7 u d*a7 e w:=by unfold a7;grind
theorem DY {e u w:Pq}(he:nz e) (h:a7 u w≠0) (h1:a7 e u=0) (h2:a7 e w=0):False:=by
 obtain⟨e1,e2⟩:=e;obtain⟨u1,u2⟩:=u;obtain⟨w1,w2⟩:=w;unfold nz at he;unfold a7 at *;simp only at *;have i1:e1*(u1*w2-u2*w1)=0:=by grind
 have i2:e2*(u1*w2-u2*w1)=0:=by grind
 rcases he with he|he
 ·exact he ((Rat.mul_eq_zero.1 i1).resolve_right h)
 ·exact he ((Rat.mul_eq_zero.1 i2).resolve_right h)
theorem vD {D:List Pq}(hD:vd D){u w d:Pq}(hu:u∈D) (h:x8 D u w d){e:Pq}(he:e∈D):a7 e (iL u w)≠0∧a7 e d≠0∧(0<a7 e d↔0<a7 e (iL u w)):=by
 obtain⟨ud,h⟩:=h;rcases h with⟨uw,dw,hn⟩|⟨rfl,hn⟩
 ·have hs:a7 e (iL u w)=a7 e u+a7 e w:=by unfold iL;rw [if_pos uw,uT]
  have id:=Ig e u w d;have n1:=hn e he;have n2:=hn (ngP e) (hD.ng e he);rw [aC,aX]at n2;have s1:=bn u e;have z:=fun a b=>DY (hD.nz e he) (show a7 u w≠0 by grind) a b
  have both:(0≤a7 e u∧0≤a7 e w∧(0<a7 e u∨0<a7 e w))∨(a7 e u≤0∧a7 e w≤0∧(a7 e u<0∨a7 e w<0)):=by
   rw [s1]at n1 n2;by_cases a:0<a7 e u
   ·have:¬a7 e w<0:=fun b=>n2 ⟨by grind,by grind⟩
    exact .inl ⟨by grind,by grind, .inl a⟩
   ·by_cases b:a7 e u=0
    ·by_cases c:0<a7 e w
     ·exact .inl ⟨by grind,by grind, .inr c⟩
     ·refine .inr ⟨by grind,by grind, .inr ?_⟩;have:a7 e w≠0:=fun c'=>z b c'
      grind
    ·have:¬0<a7 e w:=fun c=>n1 ⟨by grind,c⟩
     exact .inr ⟨by grind,by grind, .inl (by grind)⟩
  rw [hs];generalize a7 e u=x at *;generalize a7 e w=y at *;generalize a7 e d=z' at *;generalize a7 u w=k at *;generalize a7 d w=p at *;generalize a7 u d=q at *;rcases both with⟨x0,y0,xy⟩|⟨x0,y0,xy⟩
  ·have m1:=Rat.mul_nonneg (show 0≤p by grind) x0;have m2:=Rat.mul_nonneg (show 0≤q by grind) y0
   have pos:0<k*z':=by
    rcases xy with c|c
    ·have:=Rat.mul_pos dw c;grind
    ·have:=Rat.mul_pos ud c;grind
   have zp:=ef pos (by grind);grind
  ·have m1:=Rat.mul_nonneg (show 0≤p by grind) (show 0≤-x by grind);have m2:=Rat.mul_nonneg (show 0≤q by grind) (show 0≤-y by grind)
   have pos:0<k*(-z'):=by
    rcases xy with c|c
    ·have:=Rat.mul_pos dw (show 0 < -x by grind);grind
    ·have:=Rat.mul_pos ud (show 0 < -y by grind);grind
   have zp:=ef pos (by grind);grind
 ·have c0:¬0<a7 u (ngP u):=by rw [aC,dR];grind
  have hs:a7 e (iL u (ngP u))=a7 e (s5 u):=by unfold iL;rw [if_neg c0]
  have n1:=hn e he;have n2:=hn (ngP e) (hD.ng e he);rw [aC]at n2;have par:a7 u e=0:=by grind
  have hue:=hD.nz u hu;have hee:=hD.nz e he;rw [hs];clear hs n1 n2 hn c0;obtain⟨e1,e2⟩:=e;obtain⟨u1,u2⟩:=u;obtain⟨d1,d2⟩:=d;unfold nz at hue hee;unfold a7 s5 at *;simp only at *;have S:=tF hue;have i1:(u1*u1+u2*u2)*(e1*d2-e2*d1)=(e1*u1+e2*u2)*(u1*d2-u2*d1):=by grind
  have i2:e1*u1-e2 * -u2=e1*u1+e2*u2:=by grind
  have dn:e1*u1+e2*u2≠0:=fun c=>by
   have j1:e1*(u1*u1+u2*u2)=0:=by grind
   have j2:e2*(u1*u1+u2*u2)=0:=by grind
   rcases hee with h|h
   ·exact h ((Rat.mul_eq_zero.1 j1).resolve_right (by grind))
   ·exact h ((Rat.mul_eq_zero.1 j2).resolve_right (by grind))
  rw [i2];generalize e1*u1+e2*u2=g at *;generalize e1*d2-e2*d1=z at *;generalize u1*d2-u2*d1=q at *;generalize u1*u1+u2*u2=k at *;by_cases c:0<g
  ·have:=Rat.mul_pos c ud;have zp:=ef (show 0<k*z by grind) (by grind);grind
  ·have:=Rat.mul_pos (show 0 < -g by grind) ud;have zp:=ef (show 0<k*(-z) by grind) (by grind);grind
def Pr (D:List Pq) (u w:Pq):Prop:=(0<a7 u w∧∀e∈D,¬(0<a7 u e∧0<a7 e w))∨(w=ngP u∧∀e∈D,¬0<a7 u e)
theorem x8.pr {D:List Pq}{u w d:Pq}(h:x8 D u w d):Pr D u w:=by
 rcases h.c with⟨a,_,b⟩|h
 ·exact .inl ⟨a,b⟩
 ·exact .inr h
theorem Pr.sect {D:List Pq}{u w:Pq}(hu:nz u) (h:Pr D u w):x8 D u w (iL u w):=by
 rcases h with⟨a,b⟩|⟨rfl,b⟩
 ·have e:iL u w=(u.1+w.1,u.2+w.2):=if_pos a;rw [e];refine⟨by rw [uT,dR];grind, .inl ⟨a,?_,b⟩⟩;rw [bn,uT,dR];have:=bn u w;grind
 ·have c0:¬0<a7 u (ngP u):=by rw [aC,dR];grind
  have e:iL u (ngP u)=s5 u:=if_neg c0;rw [e];refine⟨?_, .inr ⟨rfl,b⟩⟩;have:=tF hu;unfold a7 s5;simp only;grind
theorem Ce {D:List Pq}(hD:vd D){u w d:Pq}(hu:u∈D) (hw:w∈D) (hd:nz d) (uw:lta u w) (hn:∀e∈D,¬(lta u e∧lta e w)) (ud:lta u d) (dw:lta d w):x8 D u w d:=by
 have nu:=hD.nz u hu;have nw:=hD.nz w hw;have nmu:=l6 nu;have nmw:=l6 nw;have mu:=hD.ng u hu;have mw:=hD.ng w hw;unfold lta at uw;rcases uw with⟨u1,w2⟩|⟨hh,cr⟩
 ·-- u above,w Ed
  have um:lta u (ngP u) := .inl ⟨u1,fun h=>(dM nu).1 h u1⟩;have wm:lta (ngP w) w := .inl ⟨(dM nw).2 w2,w2⟩
  have hwu:w=ngP u∨lta w (ngP u):=by
   rcases hD.tri w hw _ mu with h|h|h
   ·exact .inl h
   ·exact .inr h
   ·exact absurd ⟨um,h⟩ (hn _ mu)
  have hmu:¬up (ngP u):=fun h=>(dM nu).1 h u1
  have cuw:w=ngP u∨0<a7 u w:=by
   rcases hwu with h|h
   ·exact .inl h
   ·rcases h with⟨a,_⟩|⟨_,b⟩
    ·exact absurd a w2
    ·rw [aC]at b;exact .inr (by rw [bn];exact b)
  have cud:0<a7 u d:=by
   rcases ud with⟨_,d2⟩|⟨_,b⟩
   ·rcases dw with⟨d1,_⟩|⟨_,b⟩
    ·exact absurd d1 d2
    ·rcases hwu with h|h
     ·rw [h,aC]at b;rw [bn];exact b
     ·rcases h with⟨a,_⟩|⟨_,b2⟩
      ·exact absurd a w2
      ·have:=rv hd nw nmu d2 w2 hmu b b2;rw [aC]at this;rw [bn];exact this
   ·exact b
  refine⟨cud,?_⟩;by_cases hwe:w=ngP u
  ·refine .inr ⟨hwe,fun e he ce=>?_⟩;by_cases eu:up e
   ·exact hn e he ⟨.inr ⟨⟨fun _=>eu,fun _=>u1⟩,ce⟩, .inl ⟨eu,w2⟩⟩
   ·refine hn e he ⟨.inl ⟨u1,eu⟩, .inr ⟨⟨fun h=>absurd h eu,fun h=>absurd h w2⟩,?_⟩⟩;rw [hwe,aC,bn];grind
  ·have cuw:=cuw.resolve_left hwe;refine .inl ⟨cuw,?_,fun e he ⟨ce,cf⟩=>?_⟩
   ·rcases dw with⟨d1,_⟩|⟨_,b⟩
    ·-- d above: the opposite of w lies ahead of it
     have hmw:ngP w=u∨lta (ngP w) u:=by
      rcases hD.tri _ mw u hu with h|h|h
      ·exact .inl h
      ·exact .inr h
      ·exact absurd ⟨h,wm⟩ (hn _ mw)
     have hmw1:up (ngP w):=(dM nw).2 w2;rcases ud with⟨_,d2⟩|⟨_,b⟩
     ·exact absurd d1 d2
     ·rcases hmw with h|h
      ·have:a7 u w=0:=by rw [←h,aX,dR];grind
       grind
      ·rcases h with⟨_,b2⟩|⟨_,b2⟩
       ·exact absurd u1 b2
       ·have:=oH hmw1 u1 d1 b2 b;rw [aX]at this;rw [bn];exact this
    ·exact b
   ·by_cases eu:up e
    ·exact hn e he ⟨.inr ⟨⟨fun _=>eu,fun _=>u1⟩,ce⟩, .inl ⟨eu,w2⟩⟩
    ·exact hn e he ⟨.inl ⟨u1,eu⟩, .inr ⟨⟨fun h=>absurd h eu,fun h=>absurd h w2⟩,cf⟩⟩
 ·-- both on one side
  have du:up d↔up u:=by
   constructor
   ·intro h;rcases ud with⟨a,_⟩|⟨a,_⟩
    ·exact a
    ·exact a.2 h
   ·intro h;rcases dw with⟨a,_⟩|⟨a,_⟩
    ·exact a
    ·exact a.2 (hh.1 h)
  have cud:0<a7 u d:=by
   rcases ud with⟨a,b⟩|⟨_,b⟩
   ·exact absurd (du.2 a) b
   ·exact b
  have cdw:0<a7 d w:=by
   rcases dw with⟨a,b⟩|⟨_,b⟩
   ·exact absurd (hh.1 (du.1 a)) b
   ·exact b
  refine⟨cud, .inl ⟨cr,cdw,fun e he ⟨ce,cf⟩=>?_⟩⟩;have id1:a7 u w*e.2=a7 e w*u.2+a7 u e*w.2:=by unfold a7;grind
  have id2:a7 u w*e.1=a7 e w*u.1+a7 u e*w.1:=by unfold a7;grind
  have eu:up e↔up u:=by
   have key:∀u w e:Pq,up u→up w→0<a7 u w→a7 u w*e.2=a7 e w*u.2+a7 u e*w.2→a7 u w*e.1=a7 e w*u.1+a7 u e*w.1→0<a7 u e→0<a7 e w→up e:=fun u w e hu hw k i1 i2 k1 k2=>by
    have u0:0≤u.2:=by unfold up at hu;grind
    have w0:0≤w.2:=by unfold up at hw;grind
    by_cases z:u.2=0∧w.2=0
    ·exfalso;have:a7 u w=0:=by unfold a7;rw [z.1,z.2];grind
     grind
    ·refine .inl (ef (a:=a7 u w) ?_ (by grind));rw [i1];have m1:=Rat.mul_nonneg (show 0≤a7 e w by grind) u0;have m2:=Rat.mul_nonneg (show 0≤a7 u e by grind) w0;by_cases z1:u.2=0
     ·have:=Rat.mul_pos k1 (show 0<w.2 by grind);grind
     ·have:=Rat.mul_pos k2 (show 0<u.2 by grind);grind
   constructor
   ·intro h;apply Classical.byContradiction;intro c;have hw2:¬up w:=fun k=>c (hh.2 k)
    have:=key (ngP u) (ngP w) (ngP e) ((dM nu).2 c) ((dM nw).2 hw2) (by rw [aX,aC];grind) (by rw [aX,aC,aX,aC,aX,aC];unfold ngP;simp only;grind) (by rw [aX,aC,aX,aC,aX,aC];unfold ngP;simp only;grind) (by rw [aX,aC];grind) (by rw [aX,aC];grind);exact(dM (hD.nz e he)).1 this h
   ·intro h;exact key u w e h (hh.1 h) cr id1 id2 ce cf
  exact hn e he ⟨.inr ⟨eu.symm,ce⟩, .inr ⟨eu.trans hh,cf⟩⟩
theorem Cf {D:List Pq}(hD:vd D){u w d:Pq}(hu:u∈D) (hw:w∈D) (hd:nz d) (h1:∀e∈D,¬lta u e) (h2:∀e∈D,¬lta e w) (hdd:lta u d∨lta d w):x8 D u w d:=by
 have nu:=hD.nz u hu;have nw:=hD.nz w hw;have nmu:=l6 nu;have nmw:=l6 nw;have mu:=hD.ng u hu;have mw:=hD.ng w hw;have u2:¬up u:=fun h=>h1 _ mu (.inl ⟨h,fun k=>(dM nu).1 k h⟩)
 have w1:up w:=Classical.byContradiction fun h=>h2 _ mw (.inl ⟨(dM nw).2 h,h⟩)
 have mu1:up (ngP u):=(dM nu).2 u2;have mw2:¬up (ngP w):=fun h=>(dM nw).1 h w1
 have hwu:w=ngP u∨0<a7 u w:=by
  rcases hD.tri w hw _ mu with h|h|h
  ·exact .inl h
  ·rcases h with⟨_,b⟩|⟨_,b⟩
   ·exact absurd mu1 b
   ·rw [aC]at b;exact .inr (by rw [bn];exact b)
  ·exact absurd h (h2 _ mu)
 have cud:0<a7 u d:=by
  rcases hdd with h|h
  ·rcases h with⟨a,_⟩|⟨_,b⟩
   ·exact absurd a u2
   ·exact b
  ·rcases h with⟨_,b⟩|⟨a,b⟩
   ·exact absurd w1 b
   ·have d1:=a.2 w1;rcases hwu with e|e
    ·rw [e,aC]at b;rw [bn];exact b
    ·have:=oH d1 w1 mu1 b (by rw [aC,bn];grind);rw [aC]at this;rw [bn];exact this
 refine⟨cud,?_⟩;by_cases hwe:w=ngP u
 ·refine .inr ⟨hwe,fun e he ce=>?_⟩;by_cases eu:up e
  ·refine h2 e he (.inr ⟨⟨fun _=>w1,fun _=>eu⟩,?_⟩);rw [hwe,aC,bn];grind
  ·exact h1 e he (.inr ⟨⟨fun h=>absurd h u2,fun h=>absurd h eu⟩,ce⟩)
 ·have cuw:=hwu.resolve_left hwe;refine .inl ⟨cuw,?_,fun e he ⟨ce,cf⟩=>?_⟩
  ·rcases hdd with h|h
   ·rcases h with⟨a,_⟩|⟨a,b⟩
    ·exact absurd a u2
    ·have d2:¬up d:=fun k=>u2 (a.2 k)
     have:=rv nmw nu hd mw2 u2 d2 (by rw [aX,bn];grind) b;rw [aX]at this;rw [bn];exact this
   ·rcases h with⟨_,b⟩|⟨_,b⟩
    ·exact absurd w1 b
    ·exact b
  ·by_cases eu:up e
   ·exact h2 e he (.inr ⟨⟨fun _=>w1,fun _=>eu⟩,cf⟩)
   ·exact h1 e he (.inr ⟨⟨fun h=>absurd h u2,fun h=>absurd h eu⟩,ce⟩)
theorem CH {D:List Pq}(hD:vd D){u w:Pq}(hu:u∈D) (hw:w∈D) (uw:lta u w) (hn:∀e∈D,¬(lta u e∧lta e w)):Pr D u w:=by
 have nu:=hD.nz u hu;have nw:=hD.nz w hw;have mu:=hD.ng u hu;unfold lta at uw;rcases uw with⟨u1,w2⟩|⟨hh,cr⟩
 ·have um:lta u (ngP u) := .inl ⟨u1,fun h=>(dM nu).1 h u1⟩
  have hwu:w=ngP u∨lta w (ngP u):=by
   rcases hD.tri w hw _ mu with h|h|h
   ·exact .inl h
   ·exact .inr h
   ·exact absurd ⟨um,h⟩ (hn _ mu)
  have cuw:w=ngP u∨0<a7 u w:=by
   rcases hwu with h|h
   ·exact .inl h
   ·rcases h with⟨a,_⟩|⟨_,b⟩
    ·exact absurd a w2
    ·rw [aC]at b;exact .inr (by rw [bn];exact b)
  by_cases hwe:w=ngP u
  ·refine .inr ⟨hwe,fun e he ce=>?_⟩;by_cases eu:up e
   ·exact hn e he ⟨.inr ⟨⟨fun _=>eu,fun _=>u1⟩,ce⟩, .inl ⟨eu,w2⟩⟩
   ·refine hn e he ⟨.inl ⟨u1,eu⟩, .inr ⟨⟨fun h=>absurd h eu,fun h=>absurd h w2⟩,?_⟩⟩;rw [hwe,aC,bn];grind
  ·refine .inl ⟨cuw.resolve_left hwe,fun e he ⟨ce,cf⟩=>?_⟩;by_cases eu:up e
   ·exact hn e he ⟨.inr ⟨⟨fun _=>eu,fun _=>u1⟩,ce⟩, .inl ⟨eu,w2⟩⟩
   ·exact hn e he ⟨.inl ⟨u1,eu⟩, .inr ⟨⟨fun h=>absurd h eu,fun h=>absurd h w2⟩,cf⟩⟩
 ·refine .inl ⟨cr,fun e he ⟨ce,cf⟩=>?_⟩;have id1:a7 u w*e.2=a7 e w*u.2+a7 u e*w.2:=by unfold a7;grind
  have id2:a7 u w*e.1=a7 e w*u.1+a7 u e*w.1:=by unfold a7;grind
  have eu:up e↔up u:=by
   have key:∀u w e:Pq,up u→up w→0<a7 u w→a7 u w*e.2=a7 e w*u.2+a7 u e*w.2→a7 u w*e.1=a7 e w*u.1+a7 u e*w.1→0<a7 u e→0<a7 e w→up e:=fun u w e hu hw k i1 i2 k1 k2=>by
    have u0:0≤u.2:=by unfold up at hu;grind
    have w0:0≤w.2:=by unfold up at hw;grind
    by_cases z:u.2=0∧w.2=0
    ·exfalso;have:a7 u w=0:=by unfold a7;rw [z.1,z.2];grind
     grind
    ·refine .inl (ef (a:=a7 u w) ?_ (by grind));rw [i1];have m1:=Rat.mul_nonneg (show 0≤a7 e w by grind) u0;have m2:=Rat.mul_nonneg (show 0≤a7 u e by grind) w0;by_cases z1:u.2=0
     ·have:=Rat.mul_pos k1 (show 0<w.2 by grind);grind
     ·have:=Rat.mul_pos k2 (show 0<u.2 by grind);grind
   constructor
   ·intro h;apply Classical.byContradiction;intro c;have hw2:¬up w:=fun k=>c (hh.2 k)
    have:=key (ngP u) (ngP w) (ngP e) ((dM nu).2 c) ((dM nw).2 hw2) (by rw [aX,aC];grind) (by rw [aX,aC,aX,aC,aX,aC];unfold ngP;simp only;grind) (by rw [aX,aC,aX,aC,aX,aC];unfold ngP;simp only;grind) (by rw [aX,aC];grind) (by rw [aX,aC];grind);exact(dM (hD.nz e he)).1 this h
   ·intro h;exact key u w e h (hh.1 h) cr id1 id2 ce cf
  exact hn e he ⟨.inr ⟨eu.symm,ce⟩, .inr ⟨eu.trans hh,cf⟩⟩
theorem CI {D:List Pq}(hD:vd D){u w:Pq}(hu:u∈D) (hw:w∈D) (h1:∀e∈D,¬lta u e) (h2:∀e∈D,¬lta e w):Pr D u w:=by
 have nu:=hD.nz u hu;have nw:=hD.nz w hw;have mu:=hD.ng u hu;have mw:=hD.ng w hw;have u2:¬up u:=fun h=>h1 _ mu (.inl ⟨h,fun k=>(dM nu).1 k h⟩)
 have w1:up w:=Classical.byContradiction fun h=>h2 _ mw (.inl ⟨(dM nw).2 h,h⟩)
 have mu1:up (ngP u):=(dM nu).2 u2
 have hwu:w=ngP u∨0<a7 u w:=by
  rcases hD.tri w hw _ mu with h|h|h
  ·exact .inl h
  ·rcases h with⟨_,b⟩|⟨_,b⟩
   ·exact absurd mu1 b
   ·rw [aC]at b;exact .inr (by rw [bn];exact b)
  ·exact absurd h (h2 _ mu)
 by_cases hwe:w=ngP u
 ·refine .inr ⟨hwe,fun e he ce=>?_⟩;by_cases eu:up e
  ·refine h2 e he (.inr ⟨⟨fun _=>w1,fun _=>eu⟩,?_⟩);rw [hwe,aC,bn];grind
  ·exact h1 e he (.inr ⟨⟨fun h=>absurd h u2,fun h=>absurd h eu⟩,ce⟩)
 ·refine .inl ⟨hwu.resolve_left hwe,fun e he ⟨ce,cf⟩=>?_⟩;by_cases eu:up e
  ·exact h2 e he (.inr ⟨⟨fun _=>w1,fun _=>eu⟩,cf⟩)
  ·exact h1 e he (.inr ⟨⟨fun h=>absurd h u2,fun h=>absurd h eu⟩,ce⟩)
theorem aU {a b:Pq}(h:lta a b) (k:lta b a):False:=by
 unfold lta at h k;rcases h with⟨h1,h2⟩|⟨h1,h2⟩ <;> rcases k with⟨k1,k2⟩|⟨k1,k2⟩
 ·exact h2 k1
 ·exact h2 (k1.2 h1)
 ·exact k2 (h1.2 k1)
 ·rw [bn]at k2;grind
theorem kJ {a b c:Pq}(na:nz a) (nb:nz b) (nc:nz c) (h:lta a b) (k:lta b c):lta a c:=by
 unfold lta at h k⊢;rcases h with⟨h1,h2⟩|⟨h1,h2⟩ <;> rcases k with⟨k1,k2⟩|⟨k1,k2⟩
 ·exact absurd k1 h2
 ·exact .inl ⟨h1,fun e=>h2 (k1.2 e)⟩
 ·exact .inl ⟨h1.2 k1,k2⟩
 ·refine .inr ⟨h1.trans k1,?_⟩;by_cases u:up a
  ·exact oH u (h1.1 u) (k1.1 (h1.1 u)) h2 k2
  ·exact rv na nb nc u (fun e=>u (h1.2 e)) (fun e=>u (h1.2 (k1.2 e))) h2 k2
theorem uq {e d:Pq}(h:a7 e d≠0):lta e d∨lta d e:=by
 unfold lta;by_cases a:up e <;> by_cases b:up d
 ·rcases(by grind:0<a7 e d∨a7 e d<0)with c|c
  ·exact .inl (.inr ⟨⟨fun _=>b,fun _=>a⟩,c⟩)
  ·exact .inr (.inr ⟨⟨fun _=>a,fun _=>b⟩,by rw [bn];grind⟩)
 ·exact .inl (.inl ⟨a,b⟩)
 ·exact .inr (.inl ⟨b,a⟩)
 ·rcases(by grind:0<a7 e d∨a7 e d<0)with c|c
  ·exact .inl (.inr ⟨⟨fun h=>absurd h a,fun h=>absurd h b⟩,c⟩)
  ·exact .inr (.inr ⟨⟨fun h=>absurd h b,fun h=>absurd h a⟩,by rw [bn];grind⟩)
theorem wq {P:Nat→Prop}:∀{n:Nat},(∃k,k<n∧P k)→∃k,k<n∧P k∧∀j,k<j→j<n→¬P j
 |0,⟨_,h,_⟩=>by omega
 |n+1,⟨k,hk,hp⟩=>by
  by_cases c:P n
  ·exact⟨n,om,c,fun j h1 h2=>by omega⟩
  ·obtain⟨k',h1,h2,h3⟩:=wq (n:=n) ⟨k,by
    have:k≠n:=fun e=>c (e▸hp)
    omega,hp⟩
   exact⟨k',om,h2,fun j g1 g2=>by
    by_cases e:j=n
    ·rw [e];exact c
    ·exact h3 j g1 om⟩
theorem EN {D:List Pq}(hs:D.Pairwise lta) (hz:∀e∈D,nz e) (hg:∀e∈D,ngP e∈D) (hne:D≠[]){d:Pq}(hd:nz d) (hc:∀e∈D,a7 e d≠0) :
  ∃(i:Nat) (u w:Pq),D[i]? = some u∧D[(i+1)%D.length]? = some w∧x8 D u w d:=by
 have pw:=List.pairwise_iff_getElem.1 hs
 have tri:∀a∈D,∀b∈D,a=b∨lta a b∨lta b a:=fun a ha b hb=>by
  obtain⟨i,hi,rfl⟩:=List.mem_iff_getElem.1 ha;obtain⟨j,hj,rfl⟩:=List.mem_iff_getElem.1 hb;rcases Nat.lt_trichotomy i j with c|c|c
  ·exact .inr (.inl (pw i j hi hj c))
  ·subst c;exact .inl rfl
  ·exact .inr (.inr (pw j i hj hi c))
 have hD:vd D:=⟨hz,hg,tri⟩
 have hpos:=List.length_pos_iff.2 hne
 have hlast:∀e∈D,¬lta (D[D.length-1]' om) e:=fun e he h=>by
  obtain⟨j,hj,rfl⟩:=List.mem_iff_getElem.1 he;by_cases c:j=D.length-1
  ·subst c;exact aU h h
  ·exact aU h (pw j (D.length-1) hj om om)
 have hfirst:∀e∈D,¬lta e (D[0]'hpos):=fun e he h=>by
  obtain⟨j,hj,rfl⟩:=List.mem_iff_getElem.1 he;by_cases c:j=0
  ·subst c;exact aU h h
  ·exact aU h (pw 0 j hpos hj om)
 have wrap:lta (D[D.length-1]' om) d∨lta d (D[0]'hpos)→∃(i:Nat) (u w:Pq),D[i]? = some u∧D[(i+1)%D.length]? = some w∧x8 D u w d:=fun h=>by
  refine⟨D.length-1,_,_,List.getElem?_eq_getElem om,?_,Cf hD (List.getElem_mem om) (List.getElem_mem hpos) hd hlast hfirst h⟩;rw [show(D.length-1+1)%D.length=0 from by rw [Nat.sub_add_cancel hpos,Nat.mod_self]];exact List.getElem?_eq_getElem hpos
 by_cases hex:∃k,k<D.length∧∃h:k<D.length,lta (D[k]'h) d
 ·obtain⟨k,hk,⟨hk',hkd⟩,hmax⟩:=wq hex;by_cases hl:k=D.length-1
  ·subst hl;exact wrap (.inl hkd)
  ·have hk1:k+1<D.length:=by omega
   have hdw:lta d (D[k+1]'hk1):=by
    rcases uq (hc _ (List.getElem_mem hk1))with h|h
    ·exact absurd ⟨hk1,h⟩ (hmax (k+1) om hk1)
    ·exact h
   refine⟨k,_,_,List.getElem?_eq_getElem hk,?_,Ce hD (List.getElem_mem hk) (List.getElem_mem hk1) hd (pw k (k+1) hk hk1 om) (fun e he ⟨a,b⟩=>?_) hkd hdw⟩
   ·rw [Nat.mod_eq_of_lt hk1];exact List.getElem?_eq_getElem hk1
   ·obtain⟨j,hj,rfl⟩:=List.mem_iff_getElem.1 he;rcases Nat.lt_trichotomy j k with c|c|c
    ·exact aU a (pw j k hj hk c)
    ·subst c;exact aU a a
    ·by_cases c2:j=k+1
     ·subst c2;exact aU b b
     ·exact aU b (pw (k+1) j hk1 hj om)
 ·refine wrap (.inr ?_);rcases uq (hc _ (List.getElem_mem hpos))with h|h
  ·exact absurd ⟨0,hpos,hpos,h⟩ hex
  ·exact h
abbrev rpx (p:Pq):List SV:=[lit (.bool (decide (p.1.num<0))),nat p.1.num.natAbs,dg (gb p.1.den),lit (.bool (decide (p.2.num<0))),nat p.2.num.natAbs,dg (gb p.2.den)]
theorem bW (p:Pq):(rpx p).length=6:=rfl
abbrev rps (l:List Pq):SV:=sl (l.map rpx).flatten l.length
theorem Fa (p q:Pq) (h1:ht p.1≤3000000∧ht p.2≤3000000) (h2:ht q.1≤3000000∧ht q.2≤3000000):Pu Tryz.prog 197 [ag (rpx p),ag (rpx q)] (lit (.int .i64 (qC p q))):=by
 obtain⟨x,y⟩:=p;obtain⟨u,v⟩:=q;have c1:=gN x u h1.1 h2.1;have c2:=gN y v h1.2 h2.2;have e1:=dT (x:=x) (y:=u);unfold qC;simp only;generalize(x-u).num.sign=s at *;generalize(y-v).num.sign=t at *;clear h1 h2;by_cases h:x=u
 ·have hs:=e1.2 h;rw [if_pos h];clear e1 h;subst hs;refine Pi Tryz.func197 fun C=>?_
  exact Y2 c1 c2
 ·have hs:s≠0:=fun e=>h (e1.1 e)
  rw [if_neg h];clear e1 h;refine Pi Tryz.func197 fun C=>?_
  exact Y2 c1 c2
theorem Ap (l:List Pq) (hl:l.length≤100000) (hh:∀p∈l,ht p.1≤3000000∧ht p.2≤3000000):Pu Tryz.prog 139 [rps l] (rps (srt l)):=by
 refine Pi Tryz.func139 fun C=>?_
 repeat(refine A1 ⟨?_⟩;intros)
 refine WP.loopS (ι:=Nat) (fun k=>k≤l.length) (fun k=>l.length-k) (fun k=>fm [(3,rps (srt (l.take k))),(7,rps l),(8,lit (.int .i64 l.length)),(9,lit (.int .i64 k))]) (fun _=>[]) 0
  (Nat.zero_le _) (LeF.cons ew lfA) (List.nil_sublist _) ?_
 rintro k hk K hK;by_cases hkl:k<l.length
 ·have hget:=List.getElem?_eq_getElem hkl;generalize l[k]=p at hget;have hp:=hh p (List.mem_of_getElem? hget);have hat:=cX (f:=rpx) (n:=6) bW hget;have hne:(l.map rpx).flatten≠[]:=e7 bW om (fun e=>by rw [e]at hkl;simp at hkl);have hgo:=fun F' H' h1 h2=>hK F' H' (k+1) om om h1 h2
  rw [BZ hget]at hgo;have hsm:∀q∈srt (l.take k),ht q.1≤3000000∧ht q.2≤3000000:=fun q hq=>hh q (List.mem_of_mem_take ((yH _ q).1 hq))
  have hsl:=yI (l.take k);rw [List.length_take]at hsl;generalize srt (l.take k)=out at hgo hsm hsl⊢;clear hK hh;repeat(refine A1 ⟨?_⟩;intros)
  refine Wo (a8 (cs':=rpx p) rfl rfl om om hat hne) ?_;repeat(refine A1 ⟨?_⟩;intros)
  rename_i b5
  refine WP.loopS (ι:=Nat) (fun j=>j≤pat out p) (fun j=>out.length-j) (fun j=>fm [(3,rps out),(5,lit (.pointer (some ⟨b5,0,none⟩))),(6,lit (.int .i64 j)),(7,rps l),(8,lit (.int .i64 l.length)),(9,lit (.int .i64 k))])
   (fun _=>[(b5,70,rpx p)]) 0 (Nat.zero_le _) lfA Sr ?_
  rintro j hj K2 hK2;have hpl:=HK out p;have hfl:=bk bW out;have hins:=sX bW out p j;have hdl:(((out.map rpx).flatten).drop (j*6)).length=(out.length-j)*6:=by rw [List.length_drop,hfl,Nat.sub_mul]
  have hln:j+(1+(out.length-j))=(out.take j++p::out.drop j).length:=by rw [List.length_append,List.length_cons,List.length_take,List.length_drop];omega
  have htl:(((out.map rpx).flatten).take (j*6)).length=j*6:=by rw [List.length_take,hfl];omega
  have hpl2:(rpx p++((out.map rpx).flatten).drop (j*6)).length=(1+(out.length-j))*6:=by rw [List.length_append,hdl,bW];omega
  by_cases hjl:j<out.length
  ·have hgo2:=out[j]?;have hget2:=List.getElem?_eq_getElem hjl;generalize out[j]=o at hget2;have ho:=hsm o (List.mem_of_getElem? hget2);have hat2:=cX (f:=rpx) (n:=6) bW hget2;have hne2:(out.map rpx).flatten≠[]:=e7 bW om (fun e=>by rw [e]at hjl;simp at hjl);have c:=Fa o p ho hp;obtain⟨s1,s2⟩:=CG hj hget2;cases hlt:plt o p with
   |true =>
    have hneg:qC o p<0:=by unfold plt at hlt;exact of_decide_eq_true hlt
    have hj1:=s1 hlt;generalize qC o p=s at c hneg;clear hgo s1 s2;repeat(refine A1 ⟨?_⟩;intros)
    refine cL (a8 (cs':=rpx o) rfl rfl om om hat2 hne2) ?_;repeat(first|(refine A1 ⟨?_⟩;intros)|refine W4 c ⟨?_⟩)
    exact hK2 _ _ (j+1) hj1 om lfA Sr
   |false =>
    have hneg:¬qC o p<0:=by unfold plt at hlt;exact of_decide_eq_false hlt
    have hje:=s2 hlt;clear hK2 s1 s2;by_cases hz:o=p
    ·have h0:=sG.2 hz;have hpi:kV out p=out:=by unfold kV;rw [if_pos (by rw [←hje,hget2,hz])]
     rw [hpi]at hgo;rw [h0]at c;clear hneg hlt;repeat(refine A1 ⟨?_⟩;intros)
     refine cL (a8 (cs':=rpx o) rfl rfl om om hat2 hne2) ?_;repeat(first|(refine A1 ⟨?_⟩;intros)|refine W4 c ⟨?_⟩)
     refine cL (a8 (cs':=rpx o) rfl rfl om om hat2 hne2) ?_;repeat(first|(refine A1 ⟨?_⟩;intros)|refine W4 c ⟨?_⟩)
     exact hgo _ _ lfA (List.nil_sublist _)
    ·have h0:¬qC o p=0:=fun e=>hz (sG.1 e)
     have hpi:kV out p=out.take j++p::out.drop j:=by unfold kV;rw [←hje,if_neg (by rw [hget2];exact fun e=>hz (Option.some.inj e))]
     rw [hpi]at hgo;have hpos:0<qC o p:=by omega
     generalize qC o p=s at c hpos;clear hneg hlt h0;repeat(refine A1 ⟨?_⟩;intros)
     refine cL (a8 (cs':=rpx o) rfl rfl om om hat2 hne2) ?_;repeat(first|(refine A1 ⟨?_⟩;intros)|refine W4 c ⟨?_⟩)
     refine cL (a8 (cs':=rpx o) rfl rfl om om hat2 hne2) ?_;repeat(first|(refine A1 ⟨?_⟩;intros)|refine W4 c ⟨?_⟩)
     refine Wdo (fS j rfl rfl rfl rfl rfl hfl om) ?_;repeat(first|(refine Wdo (gO (s:=ag (rpx p)) (ds:=rpx p) rfl inferInstance) ?_)|(refine Wdo (fR j rfl rfl rfl hfl om) ?_)|(refine A1 ⟨?_⟩;intros))
     refine Wdo (ay (k:=1) (k0:=out.length-j) rfl rfl rfl hdl om) ?_;refine Wdo (ay (k:=j) (k0:=1+(out.length-j)) rfl rfl htl hpl2 om) ?_;rw [hins,hln];repeat(refine A1 ⟨?_⟩;intros)
     exact hgo _ _ lfA (List.nil_sublist _)
  ·have hje:j=pat out p:=by omega
   have hpi:kV out p=out.take j++p::out.drop j:=by unfold kV;rw [←hje,if_neg (by rw [List.getElem?_eq_none om];intro e;cases e)]
   rw [hpi]at hgo;clear hK2;repeat(refine A1 ⟨?_⟩;intros)
   refine Wdo (fS j rfl rfl rfl rfl rfl hfl om) ?_;repeat(first|(refine Wdo (gO (s:=ag (rpx p)) (ds:=rpx p) rfl inferInstance) ?_)|(refine Wdo (fR j rfl rfl rfl hfl om) ?_)|(refine A1 ⟨?_⟩;intros))
   refine Wdo (ay (k:=1) (k0:=out.length-j) rfl rfl rfl hdl om) ?_;refine Wdo (ay (k:=j) (k0:=1+(out.length-j)) rfl rfl htl hpl2 om) ?_;rw [hins,hln];repeat(refine A1 ⟨?_⟩;intros)
   exact hgo _ _ lfA (List.nil_sublist _)
 ·have hke:k=l.length:=by omega
  subst hke;rw [List.take_length];repeat(refine A1 ⟨?_⟩;intros)
  exact aM (ax (RV.tmp rfl) Lr)
def bys (l:List UInt8):List SV:=l.map fun b=>lit (.int .u8 (b.toNat:Nat))
def Byt (l:List UInt8) (s:SV) (H:LH):Prop :=
 (l=[]∧s=lit (.slice none 0 0)∧H=[])∨
  l≠[]∧∃b c,l.length≤c∧c≤maxLen∧s=lit (.slice (some ⟨b,0,none⟩) l.length c)∧H=[(b,5,bys l++List.replicate (c-l.length) top)]
theorem Byt.nil:Byt [] (lit (.slice none 0 0)) [] := .inl ⟨rfl,rfl,rfl⟩
theorem Byt.co {l:List UInt8}{s:SV}{H:LH}(h:Byt l s H):CO s [s]:=by
 rcases h with⟨_,rfl,_⟩|⟨_,b,c,_,_,rfl,_⟩ <;> infer_instance
section
variable {P:Program}{C:Ctx}{n:Nat}{F:Fr}{H:LH}{ops:Array Oper}{K:Fr→LH→Prop}{rest:List Oper}{ty:TypeId}{pos:String}{aft:Array Edge}
end
section
variable {F:Fr}{H:LH}{ty:TypeId}
end
abbrev self (w:Nat):SV:=lit (.pointer (some ⟨w,0,none⟩))
section
variable {P:Program}{C:Ctx}{n:Nat}{F:Fr}{H:LH}{ops:Array Oper}{K:Fr→LH→Prop}{rest:List Oper}{ty:TypeId}{pos:String}{aft:Array Edge}
end
section
variable {P:Program}{F:Fr}{H:LH}{ty:TypeId}
end
theorem le1 {x:Int}{b:UInt8}(h:x=(b.toNat:Nat)):LeL [lit (.int .u8 x)] (bys [b]++[]):=⟨Le.int h,trivial⟩
abbrev apx (p:Pq):List SV:=[lit (.bool (decide (p.1.num<0))),nat p.1.num.natAbs,nat p.1.den,lit (.bool (decide (p.2.num<0))),nat p.2.num.natAbs,nat p.2.den]
abbrev aps (l:List Pq):SV:=sl (l.map apx).flatten l.length
structure Ja where
 k:Nat
 s:SV
 Hs:LH
theorem dU {α β:Type}{f:α→List β}{l:List α}{k:Nat}{a:α}(h:l[k]? = some a):((l.take (k+1)).map f).flatten=((l.take k).map f).flatten++f a:=by
 rw [cF h,List.map_append,List.flatten_append];simp
theorem EB (l:List Pq) (hl:l.length≤100000) (hh:∀p∈l,ht p.1≤100000000∧ht p.2≤100000000):Pu Tryz.prog 143 [rps l] (aps l):=by
 refine Pi Tryz.func143 fun C=>?_
 repeat(refine A1 ⟨?_⟩;intros)
 refine WP.loopS (ι:=Ja) (fun y=>y.k≤l.length∧Own 62 6 y.k ((l.take y.k).map apx).flatten y.s y.Hs) (fun y=>l.length-y.k) (fun y=>fm [(3,y.s),(6,rps l),(7,lit (.int .i64 l.length)),(8,lit (.int .i64 y.k))]) (fun y=>y.Hs) ⟨0,lit (.slice none 0 0),[]⟩
  ⟨Nat.zero_le _,Own.nil _ _⟩ lfA (List.nil_sublist _) ?_
 rintro ⟨k,s,Hs⟩ ⟨hk,hown⟩ K hK;simp only at hk hown⊢;have hco:=hown.co;by_cases hkl:k<l.length
 ·have hget:=List.getElem?_eq_getElem hkl;generalize l[k]=p at hget;obtain⟨h1,h2⟩:=hh p (List.mem_of_getElem? hget);have hat:=cX (f:=rpx) (n:=6) bW hget;have hne:(l.map rpx).flatten≠[]:=e7 bW om (fun e=>by rw [e]at hkl;simp at hkl);have c:=q7 p.1 p.2 h1 h2;have hgo:=fun s' Hs' h F' H'=>hK F' H' ⟨k+1,s',Hs'⟩ ⟨by simp only;omega,h⟩ (by simp only;omega)
  simp only [dU hget]at hgo;clear hK hh;repeat(refine A1 ⟨?_⟩;intros)
  refine Wo (a8 (cs':=rpx p) rfl rfl om om hat hne) ?_;repeat(first|(refine A1 ⟨?_⟩;intros)|refine W4 c ⟨?_⟩)
  refine Wown hown om (fun s2 H2 hown'=>?_);have hco2:=hown'.co;replace hgo:=hgo s2 H2 hown';simp only [List.cons_append,List.nil_append];clear hown hown';repeat(refine A1 ⟨?_⟩;intros)
  exact hgo _ _ lfA (by repeat(first|exact Sr|refine Sc ?_))
 ·have hke:k=l.length:=by omega
  subst hke;rw [List.take_length]at hown;refine WP.rowS 3 hown rfl (by rw [List.append_nil]) ?_;clear hK hown;repeat(refine A1 ⟨?_⟩;intros)
  exact aM (ax (RV.tmp rfl) Lr)
abbrev HC (ps:List (RQ×RQ)):SV:=sl (ps.map o7).flatten ps.length
abbrev rvl (p:RQ×RQ):Pq:=(p.1.v,p.2.v)
theorem HI (ps:List (RQ×RQ)){L:Nat}(hl:ps.length≤100000) (hh:∀p∈ps,p.1.ok L∧p.2.ok L) (hL:L≤1000000):Pu Tryz.prog 142 [HC ps] (rps (ps.map rvl)):=by
 refine Pi Tryz.func142 fun C=>?_
 repeat(refine A1 ⟨?_⟩;intros)
 refine WP.loopS (ι:=Ja) (fun y=>y.k≤ps.length∧Own 70 6 y.k ((ps.take y.k).map fun p=>rpx (rvl p)).flatten y.s y.Hs) (fun y=>ps.length-y.k) (fun y=>fm [(3,y.s),(6,HC ps),(7,lit (.int .i64 ps.length)),(8,lit (.int .i64 y.k))]) (fun y=>y.Hs) ⟨0,lit (.slice none 0 0),[]⟩
  ⟨Nat.zero_le _,Own.nil _ _⟩ lfA (List.nil_sublist _) ?_
 rintro ⟨k,s,Hs⟩ ⟨hk,hown⟩ K hK;simp only at hk hown⊢;have hco:=hown.co;by_cases hkl:k<ps.length
 ·have hget:=List.getElem?_eq_getElem hkl;generalize ps[k]=p at hget;obtain⟨h1,h2⟩:=hh p (List.mem_of_getElem? hget);have hat:=cX (f:=o7) (n:=6) qD hget;have hne:(ps.map o7).flatten≠[]:=e7 qD om (fun e=>by rw [e]at hkl;simp at hkl);have c:=IJ h1 h2 hL;have hgo:=fun s' Hs' h F' H'=>hK F' H' ⟨k+1,s',Hs'⟩ ⟨by simp only;omega,h⟩ (by simp only;omega)
  simp only [dU hget]at hgo;clear hK hh;repeat(refine A1 ⟨?_⟩;intros)
  refine Wo (a8 (cs':=o7 p) rfl rfl om om hat hne) ?_;repeat(first|(refine A1 ⟨?_⟩;intros)|refine W4 c ⟨?_⟩)
  refine Wown hown om (fun s2 H2 hown'=>?_);have hco2:=hown'.co;replace hgo:=hgo s2 H2 hown';simp only [List.cons_append,List.nil_append];clear hown hown';repeat(refine A1 ⟨?_⟩;intros)
  exact hgo _ _ lfA (by repeat(first|exact Sr|refine Sc ?_))
 ·have hke:k=ps.length:=by omega
  subst hke;rw [List.take_length]at hown
  have e:rps (ps.map rvl)=sl ((ps.map fun p=>rpx (rvl p)).flatten) ps.length:=by
   show sl ((ps.map rvl).map rpx).flatten (ps.map rvl).length=_
   rw [List.map_map,List.length_map];rfl
  rw [e];refine WP.rowS 3 hown rfl (by rw [List.append_nil]) ?_;clear hK hown;repeat(refine A1 ⟨?_⟩;intros)
  exact aM (ax (RV.tmp rfl) Lr)
theorem M6.le.le_mono {m:M6 Rat}{L L':Nat}(h:m.le L) (k:L≤L'):m.le L':=⟨Nat.le_trans h.a k,Nat.le_trans h.b k,Nat.le_trans h.c k,Nat.le_trans h.d k,Nat.le_trans h.e k,Nat.le_trans h.f k⟩
abbrev M6.app (m:M6 Rat) (p:Pq):Pq:=(m.a*p.1+m.b*p.2+m.c,m.d*p.1+m.e*p.2+m.f)
theorem kE {k v:Rat}(hk:0<k):0<k*v↔0<v:=by
 constructor
 ·intro h;by_cases c:0<v
  ·exact c
  ·have:=Rat.mul_nonneg (Rat.le_of_lt hk) (show 0≤-v by grind);grind
 ·exact Rat.mul_pos hk
theorem M6.inv_apply {m:M6 Rat}(h:m.det≠0) (x y:Rat):m.inv.a*(m.a*x+m.b*y+m.c)+m.inv.b*(m.d*x+m.e*y+m.f)+m.inv.c=x∧m.inv.d*(m.a*x+m.b*y+m.c)+m.inv.e*(m.d*x+m.e*y+m.f)+m.inv.f=y:=by
 have h1:m.det*m.det⁻¹=1:=Rat.mul_inv_cancel _ h;have hd:m.det=m.a*m.e-m.d*m.b:=rfl;unfold M6.inv;simp only [];generalize m.det⁻¹=k at *;generalize m.det=D at *;constructor <;> grind
end Go.Ab
