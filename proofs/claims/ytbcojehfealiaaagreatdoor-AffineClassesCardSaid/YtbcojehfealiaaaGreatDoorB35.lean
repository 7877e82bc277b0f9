/- Texts laid one behind the other: TqA, TmF, TmG, TmD, TmE, TmH, Prs, TqB, TqC, TcF, TqD, GwM, TmI, TmJ, TqE, TqF, TqG, ArE, ArF, ImS, ArG, MsA, ClsD, PEach, PTwo. -/
import Derived.Test.YtbcojehfealiaaaGreatDoorB34
set_option linter.all false
set_option maxHeartbeats 16000000
namespace Go.Ab
open Go.Proofs
variable [Base]
inductive F2 {α β:Type}(R:α→β→Prop):List α→List β→Prop
 |nil:F2 R [] []
 |cons {a:α}{b:β}{l:List α}{m:List β}(h:R a b) (k:F2 R l m):F2 R (a::l) (b::m)
theorem F2.app {α β:Type}{R:α→β→Prop}{l m:List α}{l' m':List β}(h:F2 R l l') (k:F2 R m m'):F2 R (l++m) (l'++m'):=by
 induction h with
 |nil=>exact k
 |cons h _ ih=>exact .cons h ih
theorem F2.len {α β:Type}{R:α→β→Prop}{l:List α}{l':List β}(h:F2 R l l'):l.length=l'.length:=by
 induction h with
 |nil=>rfl
 |cons _ _ ih=>rw [List.length_cons,List.length_cons,ih]
theorem F2.get {α β:Type}{R:α→β→Prop}{l:List α}{l':List β}(h:F2 R l l'):∀{k:Nat}{a:α},l[k]? = some a→∃b,l'[k]? = some b∧R a b:=by
 induction h with
 |nil=>intro k a h;simp at h
 |cons h _ ih =>
  intro k a hk;cases k with
  |zero=>simp only [List.getElem?_cons_zero,Option.some.injEq]at hk⊢;exact⟨_,rfl,hk▸h⟩
  |succ k=>simp only [List.getElem?_cons_succ]at hk⊢;exact ih hk
def lvs:Tr→List Bool
 | .leaf i=>[i]
 | .node _ a b=>lvs a++lvs b
structure CR (x:PC×Bool) (y:List Li×Bool):Prop where
 f:x.2=y.2
 p:dH x.1
 m:∀m,m∈aa x.1↔m∈y.1
 ok:∀l∈y.1,l.ok
theorem wT {d:List Li}(hd:∀l∈d,l.ok) (hn:∃q,Inn d q):d=[]∨dr d≠[]:=by
 cases d with
 |nil=>exact .inl rfl
 |cons l d =>
  refine .inr fun e=>?_
  obtain⟨q,_,hq⟩:=(Di (hd l Ms)).2;have h:=(gY hd hn q).1 (by rw [e];exact fun l h=>by cases h);have:=h l Ms;grind
theorem par:∀(t:Tr) (c:PC) (d:List Li),dH c→(∀l∈d,l.ok)→(∀q,Inn (aa c) q↔Inn d q)→t.lok→Prp t (Inn (aa c))→
  F2 CR (gj t c) (rB t d)∧(gj t c).map Prod.snd=lvs t
 | .leaf i,c,d,hc,hd,he,_,_=>by
  have hn:∃q,Inn d q:=by obtain⟨q,hq⟩:=hc.inn;exact⟨q,(he q).1 hq⟩
  unfold gj rB;rw [if_pos (wT hd hn)];have hok:∀l∈dr d,l.ok:=fun l hl=>hd l ((f8 hd).1 hl).1
  exact⟨.cons ⟨rfl,hc,qi hc hok (fun l hl=>yu hd hl) (fun q=>(he q).trans (gY hd hn q).symm),hok⟩ .nil,rfl⟩
 | .node l a b,c,d,hc,hd,he,hl,hp=>by
  have hn:∃q,Inn d q:=by obtain⟨q,hq⟩:=hc.inn;exact⟨q,(he q).1 hq⟩
  have hok:∀l∈dr d,l.ok:=fun l hl=>hd l ((f8 hd).1 hl).1
  obtain⟨hl0,hla,hlb⟩:=hl;obtain⟨p1,p2,p3,p4⟩:=hp
  have q2:Lft (Inn (aa c)) l.neg:=by
   obtain⟨q,h1,h2⟩:=p2;exact⟨q,h1,by rw [kt];grind⟩
  have k1:=(tr hc hl0 (eE l)).2 p1;have k2:=(tr hc (Li.ok.neg hl0) (eE l.neg)).2 q2;obtain⟨g1,g2⟩:=nF hc hl0 (eE l) (d:=(fA (eE l) c l).1) (by rw [←k1]);obtain⟨g3,g4⟩:=nF hc (Li.ok.neg hl0) (eE l.neg) (d:=(fA (eE l.neg) c l.neg).1) (by rw [←k2])
  have g5:Inn (aa (fA (eE l.neg) c l.neg).1)=fun q=>Inn (aa c) q∧a6 l q<0:=by
   rw [g4];funext q;rw [kt];exact propext ⟨fun h=>⟨h.1,by have:=h.2;grind⟩,fun h=>⟨h.1,by have:=h.2;grind⟩⟩
  unfold gj rB;rw [if_pos (wT hd hn),if_pos k1,if_pos k2];obtain⟨i1,j1⟩:=par a (fA (eE l) c l).1 (dr d++[l]) g1 (gz hok hl0) (fun q=>by rw [g2,ed,gY hd hn];exact⟨fun h=>⟨(he q).1 h.1,h.2⟩,fun h=>⟨(he q).2 h.1,h.2⟩⟩) hla (by rw [g2];exact p3);obtain⟨i2,j2⟩:=par b (fA (eE l.neg) c l.neg).1 (dr d++[l.neg]) g3 (gz hok (Li.ok.neg hl0)) (fun q=>by rw [g4,ed,gY hd hn];exact⟨fun h=>⟨(he q).1 h.1,h.2⟩,fun h=>⟨(he q).2 h.1,h.2⟩⟩) hlb (by rw [g5];exact p4);refine⟨i1.app i2,?_⟩;rw [List.map_append,j1,j2];rfl
structure Jw where
 j:Nat
 S:List Spn
structure Jx where
 k:Nat
 g:Nat→Nat
theorem F2.at {l:Pts}{Y:RPs}(h:F2 CR l Y){k:Nat}(hk:k<l.length):CR (l.getD k ([],false)) (Y.getD k ([],false)):=by
 obtain⟨y,h1,h2⟩:=h.get (List.getElem?_eq_getElem hk);rw [List.getD,List.getD,List.getElem?_eq_getElem hk,h1];exact h2
structure Jv (L:Nat) (l:Pts):Prop where
 l1:1≤L
 l2:L≤500
 c:∀x∈l,(∀s∈x.1,Ju L s)∧x.1.length≤100000
 n:l.length≤1000000
structure JA where
 k:Nat
 p:Nat→Nat
structure JB where
 k:Nat
 p:Nat→Nat
 s:SV
 Hs:LH
theorem B9 {p:Li→Prop}{l:Li}(h:p l):∀{a b:Tr},a.all p→b.all p→(l7 l a b).all p
 | .leaf i, .leaf j,_,_=>by
  show(if i=j then Tr.leaf i else .node l (.leaf i) (.leaf j)).all p
  split
  ·trivial
  ·exact⟨h,trivial,trivial⟩
 | .leaf _, .node _ _ _,h1,h2=>⟨h,h1,h2⟩
 | .node _ _ _, .leaf _,h1,h2=>⟨h,h1,h2⟩
 | .node _ _ _, .node _ _ _,h1,h2=>⟨h,h1,h2⟩
theorem gL {p:Li→Prop}:∀{t:Tr}{c:List Li},t.all p→(bq t c).all p
 | .leaf _,_,_=>trivial
 | .node l a b,c,h=>by
  unfold bq;split
  ·exact gL h.2.1
  ·split
   ·exact gL h.2.2
   ·exact B9 h.1 (gL h.2.1) (gL h.2.2)
theorem gK (op:Int) (hop:1≤op∧op≤4) (b:Tr) (hb:b.all fun l=>l.sm):∀(t:Tr) (c:List Li),(t.all fun l=>l.sm)→(∀m∈c,m.sm)→c.length+eM t+eM b≤90000→Pu Tryz.prog 36 [lit (.int .i64 op),rt t,rt b,lqs c] (rt (dE op t b c))
 | .leaf i,c,_,hc,hd=>by
  have d1:=gI b c hb hc (by simp only [eM]at hd;omega);have d2:=mC (bq b c) (gL hb);have d3:=cB true;have d4:=cB false;show Pu _ _ _ (rt (pM op i b c))
  unfold pM;generalize ol (bq b c)=nb at *;generalize bq b c=rb at *;clear hb hc hd;have ho:op=1∨op=2∨op=3∨op=4:=by omega
  have en:rt (.leaf i)=pt (rc (.leaf i)):=rfl;rw [en,gC];rcases ho with rfl|rfl|rfl|rfl <;> cases i
  all_goals
   simp only [Int.reduceEq,true_and,false_and,and_true,and_false,or_false,false_or,or_true,true_or,or_self,if_true,if_false,Bool.false_eq_true,Bool.true_eq_false,reduceCtorEq];refine Pi Tryz.func36 fun C=>?_
   repeat(first|(refine A1 ⟨?_⟩;intros)|refine W4 d1 ⟨?_⟩|refine W4 d2 ⟨?_⟩|refine W4 d3 ⟨?_⟩|refine W4 d4 ⟨?_⟩)
   exact E1
 | .node l x y,c,hall,hc,hd=>by
  have hd':c.length+(1+max (eM x) (eM y))+eM b≤90000:=hd;have p0:=sr hc hall.1 om;have d3:=gK op hop b hb x c hall.2.1 hc om;have d4:=gK op hop b hb y c hall.2.2 hc om;have n1:=ko c l;have n2:=ko c l.neg;have w1:=mx hc hall.1 om;have w2:=mx hc hall.1.neg om;have d0:=mB l hall.1.ile;have d5:=gK op hop b hb x (dA c l) hall.2.1 (lV hc hall.1) om;have d6:=gK op hop b hb y (dA c l.neg) hall.2.2 (lV hc hall.1.neg) om;have d7:=vI l (dE op x b (dA c l)) (dE op y b (dA c l.neg)) hall.1.ile;unfold dE;clear hd hd' n1 n2 hc hall hb;generalize dE op x b c=ra at *;generalize dE op y b c=rb at *;generalize dE op x b (dA c l)=ra' at *;generalize dE op y b (dA c l.neg)=rb' at *;generalize l7 l ra' rb'=rj at *;generalize dA c l=c1 at *;generalize dA c l.neg=c2 at *;have en:rt (.node l x y)=pt (rc (.node l x y)):=rfl;rw [en,fq];clear en;generalize gi c l=z at *;by_cases h1:z=1
  ·rw [if_pos h1];refine Pi Tryz.func36 fun C=>?_
   exact Y2 p0 d3
  ·rw [if_neg h1];by_cases h2:z = -1
   ·rw [if_pos h2];refine Pi Tryz.func36 fun C=>?_
    exact Y2 p0 d4
   ·rw [if_neg h2];refine Pi Tryz.func36 fun C=>?_
    repeat(first|(refine A1 ⟨?_⟩;intros)|refine W4 p0 ⟨?_⟩|refine W4 w1 ⟨?_⟩|refine W4 d0 ⟨?_⟩|refine W4 w2 ⟨?_⟩|refine W4 d5 ⟨?_⟩|refine W4 d6 ⟨?_⟩|refine W4 d7 ⟨?_⟩)
    exact E1
theorem wV (c:PC):nH c=true↔(∀s∈c,¬(s.2.nl=true∨s.2.nh=true))∧0<c.length:=by
 unfold nH;rw [Bool.and_eq_true,List.all_eq_true,decide_eq_true_iff];refine and_congr ⟨fun h s hs=>?_,fun h s hs=>?_⟩ Iff.rfl
 ·have:=h s hs;cases h1:s.2.nl <;> cases h2:s.2.nh <;> simp_all
 ·have:=h s hs;cases h1:s.2.nl <;> cases h2:s.2.nh <;> simp_all
abbrev Eo (ls:List Li) (d:Pq):Prop:=∀m∈ls,0≤(m.a:Rat)*d.1+(m.b:Rat)*d.2
theorem w5 {c:PC}(hc:dH c):nH c=false↔∃d:Pq,(d.1≠0∨d.2≠0)∧Eo (aa c) d:=by
 rw [←Bool.not_eq_true,wV];by_cases h:c=[]
 ·subst h;exact⟨fun _=>⟨(1,0), .inl (by decide +kernel),fun m hm=>by cases hm⟩,fun _ k=>by have:=k.2;simp at this⟩
 ·have h0:0<c.length:=List.length_pos_iff.2 h;rw [←D2 hc h];constructor
  ·intro k;apply Classical.byContradiction;intro n;exact k ⟨fun s hs ho=>n ⟨s,hs,ho⟩,h0⟩
  ·rintro ⟨s,hs,ho⟩ k;exact k.1 s hs ho
theorem F2.left {α β:Type}{R:α→β→Prop}{l:List α}{m:List β}(h:F2 R l m):∀{x:α},x∈l→∃z∈m,R x z:=by
 induction h with
 |nil=>intro x hx;cases hx
 |cons h _ ih =>
  intro x hx;rcases List.mem_cons.1 hx with e|hx
  ·exact⟨_,Ms,e▸h⟩
  ·obtain⟨z,hz,hr⟩:=ih hx;exact⟨z,Mc hz,hr⟩
theorem F2.right {α β:Type}{R:α→β→Prop}{l:List α}{m:List β}(h:F2 R l m):∀{z:β},z∈m→∃x∈l,R x z:=by
 induction h with
 |nil=>intro x hx;cases hx
 |cons h _ ih =>
  intro x hx;rcases List.mem_cons.1 hx with e|hx
  ·exact⟨_,Ms,e▸h⟩
  ·obtain⟨z,hz,hr⟩:=ih hx;exact⟨z,Mc hz,hr⟩
theorem o8:∀(t:Tr) (c:PC),dH c→km c→t.lok→∀x∈gj t c,dH x.1∧km x.1
 | .leaf i,c,h,ho,_,x,hx=>by
  unfold gj at hx;rw [List.mem_singleton.1 hx];exact⟨h,ho⟩
 | .node l a b,c,h,ho,hl,x,hx=>by
  unfold gj at hx
  have key:∀(k:Li) (t:Tr),k.ok→t.lok→(∀c,dH c→km c→∀x∈gj t c,dH x.1∧km x.1)→x∈(if(fA (eE k) c k).2 then gj t (fA (eE k) c k).1 else [])→dH x.1∧km x.1:=fun k t hk _ ih hx=>by
   split at hx
   ·rename_i e;have e2:fA (eE k) c k=((fA (eE k) c k).1,true):=Prod.ext rfl e;exact ih _ (nF h hk (eE k) e2).1 (E4 h ho hk e2) x hx
   ·cases hx
  rcases List.mem_append.1 hx with hx|hx
  ·exact key l a hl.1 hl.2.1 (fun c h1 h2=>o8 a c h1 h2 hl.2.1) hx
  ·exact key l.neg b (Li.ok.neg hl.1) hl.2.2 (fun c h1 h2=>o8 b c h1 h2 hl.2.2) hx
theorem FM:km []:=List.Pairwise.nil
theorem ImP.bnd {m:M6 Rat}{c c':PC}(h:ImP m c c'):nH c'=nH c:=by
 have key:nH c'=false↔nH c=false:=by
  rw [w5 h.y,w5 h.x]
  have op:∀d,Eo (aa c') d↔Eo (aa c) (iW m d):=fun d=>by
   have nn:∀{k v:Rat},0<k→(0≤k*v↔0≤v):=fun {k v} hk=>by
    constructor
    ·intro x;apply Classical.byContradiction;intro y;have:=Rat.mul_pos hk (show 0 < -v by grind);grind
    ·exact Rat.mul_nonneg (Rat.le_of_lt hk)
   constructor
   ·intro g j hj;obtain⟨k,hk,_,e⟩:=gW h.d (h.x.lok j hj);have:=g _ ((h.sides _).2 (List.mem_map.2 ⟨j,hj,rfl⟩));have e2:=e d;unfold gn at e2;rw [e2,nn hk]at this;exact this
   ·intro g i hi;obtain⟨j,hj,rfl⟩:=List.mem_map.1 ((h.sides i).1 hi);obtain⟨k,hk,_,e⟩:=gW h.d (h.x.lok j hj);have e2:=e d;unfold gn at e2;rw [e2,nn hk];exact g j hj
  have lin_inv:∀d,rQ m (iW m d)=d:=fun d=>by
   have hdi:m.inv.det≠0:=by
    rw [M6.inv_det h.d];intro c;have:=Rat.mul_inv_cancel _ h.d;rw [c]at this;grind
   have:=kK hdi d;unfold iW rQ at this⊢;rw [M6.inv_inv h.d]at this;exact this
  constructor
  ·rintro ⟨d,d0,ho⟩;refine⟨iW m d,?_,(op d).1 ho⟩;have:=d0;apply Classical.byContradiction;intro z;have z1:(iW m d).1=0:=Classical.byContradiction fun e=>z (.inl e)
   have z2:(iW m d).2=0:=Classical.byContradiction fun e=>z (.inr e)
   have e:=lin_inv d;unfold rQ at e;rw [z1,z2]at e;have a1:=congrArg Prod.fst e;have a2:=congrArg Prod.snd e;simp only at a1 a2;grind
  ·rintro ⟨d,d0,ho⟩;exact⟨rQ m d,Dp h.d d0,(op _).2 (by rw [kK h.d];exact ho)⟩
 cases h1:nH c' <;> cases h2:nH c <;> simp_all
theorem GG {c:PC}(h:nH c=true):Bdd c:=fun s hs=>by
 have:=((wV c).1 h).1 s hs;constructor
 ·cases e:s.2.nl with
  |false=>rfl
  |true=>exact absurd (.inl e) this
 ·cases e:s.2.nh with
  |false=>rfl
  |true=>exact absurd (.inr e) this
def inC (t:Tr):List PC:=((gj t []).filter fun x=>x.2).map Prod.fst
theorem I7 {t:Tr}(hl:t.lok):∀c∈inC t,dH c∧km c:=fun c hc=>by
 obtain⟨x,hx,rfl⟩:=List.mem_map.1 hc;exact o8 t [] dH.nil FM hl x (List.mem_filter.1 hx).1
def Ix (f:PC→Rat) (l:List PC):Rat:=e9 (l.map f)
theorem HB (x R:Rat):x*((x.den:Rat)*R)=(x.num:Rat)*R:=by
 have h:x*(x.den:Rat)=(x.num:Rat):=by
  have h0:(x.den:Rat)≠0:=fun e=>x.den_nz (by exact_mod_cast e)
  have e:(x.num:Rat)/((x.den:Nat):Rat)=x:=by rw [←Rat.mkRat_eq_div,Rat.mkRat_self]
  have e2:(x.num:Rat)/(x.den:Rat)*(x.den:Rat)=(x.num:Rat):=Rat.div_mul_cancel h0;rw [e]at e2;exact e2
 rw [←Rat.mul_assoc,h]
theorem oA (a b:Int):il (a-b)≤max (il a) (il b)+1:=by
 rw [Int.sub_eq_add_neg];have:=oC a (-b);rwa [eV]at this
theorem vS {x y z:Int}{k:Nat}(h:x≠0∨y≠0) (hx:il x≤k) (hy:il y≤k) (hz:il z≤k):(dD (x:Rat) (y:Rat) (z:Rat)).le k:=by
 obtain⟨a,b,c⟩:=qA z h;exact⟨Nat.le_trans (aD a) hx,Nat.le_trans (aD b) hy,Nat.le_trans (aD c) hz⟩
theorem Li.im_le16 {m:M6 Rat}{l:Li}(hd:m.det≠0) (hl:l.ok) (hm:m.le 1) (h:l.le 1):(l.im m).le 16:=by
 obtain⟨ma,mb,mc,md,me,mf⟩:=hm;obtain⟨la,lb,lc⟩:=h;have hne:=Li.im_ne hd hl
 have nd:∀x:Rat,ht x≤1→il x.num≤1∧il (x.den:Int)≤1:=fun x hx=>by
  unfold ht at hx;rw [oB];omega
 obtain⟨na,da⟩:=nd _ ma;obtain⟨nb,db⟩:=nd _ mb;obtain⟨nc,dc⟩:=nd _ mc;obtain⟨ndd,dd⟩:=nd _ md;obtain⟨ne,de⟩:=nd _ me;obtain⟨nf,df⟩:=nd _ mf;have posd:∀x:Rat,0<(x.den:Rat):=fun x=>by exact_mod_cast x.den_pos
 have dt:m.det=m.a*m.e-m.d*m.b:=rfl;let R:Rat→Rat→Rat→Rat→Rat→Rat:=fun p q r s t=>(p.den:Rat)*q.den*r.den*s.den*t.den
 let W:Rat→Rat→Rat→Rat→Rat→Int:=fun p q r s t=>(p.den:Int)*q.den*r.den*s.den*t.den
 have hW:∀p q r s t:Rat,((W p q r s t:Int):Rat)=R p q r s t:=fun p q r s t=>by
  show(((p.den:Int)*q.den*r.den*s.den*t.den:Int):Rat)=_
  push_cast
  rfl
 have ilW:∀p q r s t:Rat,il (p.den:Int)≤1→il (q.den:Int)≤1→il (r.den:Int)≤1→il (s.den:Int)≤1→il (t.den:Int)≤1→il (W p q r s t)≤5:=fun p q r s t h1 h2 h3 h4 h5=>by
  have a:=bC (p.den:Int) q.den;have b:=bC ((p.den:Int)*q.den) r.den;have c:=bC ((p.den:Int)*q.den*r.den) s.den;have d:=bC ((p.den:Int)*q.den*r.den*s.den) t.den;show il ((p.den:Int)*q.den*r.den*s.den*t.den)≤5
  omega
 obtain⟨Q,hQ⟩:∃Q:Rat,Q=(m.a.den:Rat)*m.b.den*m.c.den*m.d.den*m.e.den*m.f.den:=⟨_,rfl⟩
 obtain⟨Qi,hQi⟩:∃Qi:Int,Qi=(m.a.den:Int)*m.b.den*m.c.den*m.d.den*m.e.den*m.f.den:=⟨_,rfl⟩
 have cQ:((Qi:Int):Rat)=Q:=by rw [hQi,hQ];push_cast;rfl
 have ilQ:il Qi≤6:=by
  have:=ilW m.a m.b m.c m.d m.e da db dc dd de;have b:=bC (W m.a m.b m.c m.d m.e) m.f.den;rw [hQi];exact Nat.le_trans b om
 have Qpos:0<Q:=by
  rw [hQ];exact Rat.mul_pos (Rat.mul_pos (Rat.mul_pos (Rat.mul_pos (Rat.mul_pos (posd _) (posd _)) (posd _)) (posd _)) (posd _)) (posd _)
 have ent:∀x p q r s t:Rat,Q=(x.den:Rat)*R p q r s t→il x.num≤1→il (W p q r s t)≤5→∃X:Int,x*Q=(X:Rat)∧il X≤6:=fun x p q r s t hq hx hw=>by
  refine⟨x.num*W p q r s t,?_,?_⟩
  ·rw [hq,HB,Rat.intCast_mul,hW]
  ·have:=bC x.num (W p q r s t);omega
 obtain⟨A,hA,lA⟩:=ent m.a m.b m.c m.d m.e m.f (by rw [hQ];show _=(m.a.den:Rat)*((m.b.den:Rat)*m.c.den*m.d.den*m.e.den*m.f.den);grind) na (ilW _ _ _ _ _ db dc dd de df);obtain⟨B,hB,lB⟩:=ent m.b m.a m.c m.d m.e m.f (by rw [hQ];show _=(m.b.den:Rat)*((m.a.den:Rat)*m.c.den*m.d.den*m.e.den*m.f.den);grind) nb (ilW _ _ _ _ _ da dc dd de df);obtain⟨C,hC,lC⟩:=ent m.c m.a m.b m.d m.e m.f (by rw [hQ];show _=(m.c.den:Rat)*((m.a.den:Rat)*m.b.den*m.d.den*m.e.den*m.f.den);grind) nc (ilW _ _ _ _ _ da db dd de df);obtain⟨D,hD,lD⟩:=ent m.d m.a m.b m.c m.e m.f (by rw [hQ];show _=(m.d.den:Rat)*((m.a.den:Rat)*m.b.den*m.c.den*m.e.den*m.f.den);grind) ndd (ilW _ _ _ _ _ da db dc de df);obtain⟨E,hE,lE⟩:=ent m.e m.a m.b m.c m.d m.f (by rw [hQ];show _=(m.e.den:Rat)*((m.a.den:Rat)*m.b.den*m.c.den*m.d.den*m.f.den);grind) ne (ilW _ _ _ _ _ da db dc dd df);obtain⟨F,hF,lF⟩:=ent m.f m.a m.b m.c m.d m.e (by rw [hQ];show _=(m.f.den:Rat)*((m.a.den:Rat)*m.b.den*m.c.den*m.d.den*m.e.den);grind) nf (ilW _ _ _ _ _ da db dc dd de);clear hQ hQi ent ilW hW nd posd;obtain⟨X,hX⟩:∃X:Int,X=(l.a*E-l.b*D)*Qi:=⟨_,rfl⟩
 obtain⟨Y,hY⟩:∃Y:Int,Y=(l.b*A-l.a*B)*Qi:=⟨_,rfl⟩
 obtain⟨Z,hZ⟩:∃Z:Int,Z=l.c*(A*E-D*B)-(l.a*(E*C-B*F)+l.b*(A*F-D*C)):=⟨_,rfl⟩
 have lX:il X≤16:=by
  have a:=bC l.a E;have b:=bC l.b D;have c:=oA (l.a*E) (l.b*D);have d:=bC (l.a*E-l.b*D) Qi;rw [hX];omega
 have lY:il Y≤16:=by
  have a:=bC l.b A;have b:=bC l.a B;have c:=oA (l.b*A) (l.a*B);have d:=bC (l.b*A-l.a*B) Qi;rw [hY];omega
 have lZ:il Z≤16:=by
  have a1:=bC A E;have a2:=bC D B;have a3:=oA (A*E) (D*B);have a4:=bC l.c (A*E-D*B);have b1:=bC E C;have b2:=bC B F;have b3:=oA (E*C) (B*F);have b4:=bC l.a (E*C-B*F);have c1:=bC A F;have c2:=bC D C;have c3:=oA (A*F) (D*C);have c4:=bC l.b (A*F-D*C);have d1:=oC (l.a*(E*C-B*F)) (l.b*(A*F-D*C));have d2:=oA (l.c*(A*E-D*B)) (l.a*(E*C-B*F)+l.b*(A*F-D*C));rw [hZ];omega
 have hdi:m.det*m.det⁻¹=1:=Rat.mul_inv_cancel _ hd;have ca:m.inv.a=m.e*m.det⁻¹:=rfl;have cb:m.inv.b = -m.b*m.det⁻¹:=rfl;have cc:m.inv.c = -(m.e*m.det⁻¹*m.c + -m.b*m.det⁻¹*m.f):=rfl;have cd:m.inv.d = -m.d*m.det⁻¹:=rfl;have ce:m.inv.e=m.a*m.det⁻¹:=rfl;have cf:m.inv.f = -(-m.d*m.det⁻¹*m.c+m.a*m.det⁻¹*m.f):=rfl
 have tX:m.det*(Q*Q)*((l.a:Rat)*m.inv.a+l.b*m.inv.d)=(X:Rat):=by
  rw [hX,Rat.intCast_mul,Rat.intCast_sub,Rat.intCast_mul,Rat.intCast_mul,←hE,←hD,cQ,ca,cd];generalize m.det=z at *;generalize z⁻¹=w at *;grind
 have tY:m.det*(Q*Q)*((l.a:Rat)*m.inv.b+l.b*m.inv.e)=(Y:Rat):=by
  rw [hY,Rat.intCast_mul,Rat.intCast_sub,Rat.intCast_mul,Rat.intCast_mul,←hA,←hB,cQ,cb,ce];generalize m.det=z at *;generalize z⁻¹=w at *;grind
 have tZ:m.det*(Q*Q)*((l.a:Rat)*m.inv.c+l.b*m.inv.f+l.c)=(Z:Rat):=by
  rw [hZ];push_cast
  rw [←hA,←hB,←hC,←hD,←hE,←hF,cc,cf]
  have e:m.det*(Q*Q)*((l.a:Rat) * -(m.e*m.det⁻¹*m.c + -m.b*m.det⁻¹*m.f)+l.b * -(-m.d*m.det⁻¹*m.c+m.a*m.det⁻¹*m.f)+l.c)=(m.det*m.det⁻¹)*(Q*Q)*(-(l.a:Rat)*(m.e*m.c-m.b*m.f)-l.b*(m.a*m.f-m.d*m.c))+m.det*(Q*Q)*l.c:=by
   generalize m.det⁻¹=w;generalize m.det=z;grind
  rw [e,hdi,dt];grind
 have hXY:X≠0∨Y≠0:=by
  rcases hne with k|k
  ·refine .inl fun z=>k ?_
   rw [z]at tX;have:=Rat.mul_pos Qpos Qpos;rcases Rat.mul_eq_zero.1 (show m.det*(Q*Q)*((l.a:Rat)*m.inv.a+l.b*m.inv.d)=0 from tX)with y|y
   ·rcases Rat.mul_eq_zero.1 y with y|y
    ·exact absurd y hd
    ·grind
   ·exact y
  ·refine .inr fun z=>k ?_
   rw [z]at tY;have:=Rat.mul_pos Qpos Qpos;rcases Rat.mul_eq_zero.1 (show m.det*(Q*Q)*((l.a:Rat)*m.inv.b+l.b*m.inv.e)=0 from tY)with y|y
   ·rcases Rat.mul_eq_zero.1 y with y|y
    ·exact absurd y hd
    ·grind
   ·exact y
 have q2:=Rat.mul_pos Qpos Qpos;show(dD ((l.a:Rat)*m.inv.a+l.b*m.inv.d) ((l.a:Rat)*m.inv.b+l.b*m.inv.e) ((l.a:Rat)*m.inv.c+l.b*m.inv.f+l.c)).le 16
 by_cases hp:0<m.det
 ·rw [←mL (m.det*(Q*Q)) _ _ _ (Rat.mul_pos hp q2),tX,tY,tZ];exact vS hXY lX lY lZ
 ·have hn:0 < -m.det:=by grind
  have nx : -m.det*(Q*Q)*((l.a:Rat)*m.inv.a+l.b*m.inv.d)=((-X:Int):Rat):=by rw [Rat.intCast_neg,←tX];grind
  have ny : -m.det*(Q*Q)*((l.a:Rat)*m.inv.b+l.b*m.inv.e)=((-Y:Int):Rat):=by rw [Rat.intCast_neg,←tY];grind
  have nz : -m.det*(Q*Q)*((l.a:Rat)*m.inv.c+l.b*m.inv.f+l.c)=((-Z:Int):Rat):=by rw [Rat.intCast_neg,←tZ];grind
  rw [←mL (-m.det*(Q*Q)) _ _ _ (Rat.mul_pos hn q2),nx,ny,nz];exact vS om (by rw [eV];exact lX) (by rw [eV];exact lY) (by rw [eV];exact lZ)
theorem qa:∀l:List Rat,(∀x∈l,0<x)→l≠[]→0<e9 l
 | [],_,h=>absurd rfl h
 | [x],h,_=>by
  show 0<x+0
  have:=h x Ms;grind
 |x::y::l,h,_=>by
  show 0<x+e9 (y::l)
  have h1:=h x Ms;have h2:=qa (y::l) (fun z hz=>h z (Mc hz)) (by simp);grind
theorem GH {c:PC}(h:dH c) (ho:km c) (hb:Bdd c) (hn:c≠[]):0<ar2 c:=by
 obtain⟨q,hq⟩:=h.inn;have z1:=wM h ho hb fun p=>p.1
 have z2:=wM h ho hb fun p=>p.2
 have e:ar2 c=e9 (c.map fun s=>a7 (loP s) (hiP s)+(q.2*((hiP s).1 + -1*(loP s).1) + -q.1*((hiP s).2 + -1*(loP s).2))):=by
  rw [mt (fun s=>a7 (loP s) (hiP s)),mt (fun s=>q.2*((hiP s).1 + -1*(loP s).1)),mo,mo,z1,z2];show ar2 c=ar2 c+_
  grind
 rw [e];refine qa _ (fun x hx=>?_) (by simpa using hn);obtain⟨s,hs,rfl⟩:=List.mem_map.1 hx;have hv:=hq s.1 (List.mem_map.2 ⟨s,hs,rfl⟩);have on:=fH (h.ok s hs) s.2.lo
 have hne:s.2.lo<s.2.hi:=by
  obtain⟨_,t,ht⟩:=h.span s hs;rcases ht.1 with r|r
  ·rw [(hb s hs).1]at r;cases r
  ·rcases ht.2 with w|w
   ·rw [(hb s hs).2]at w;cases w
   ·grind
 have e2:a7 (loP s) (hiP s)+(q.2*((hiP s).1 + -1*(loP s).1) + -q.1*((hiP s).2 + -1*(loP s).2))=(s.2.hi-s.2.lo)*(a6 s.1 q-a6 s.1 (loP s)):=by
  show(atL s.1 s.2.lo).1*(atL s.1 s.2.hi).2-(atL s.1 s.2.lo).2*(atL s.1 s.2.hi).1+(q.2*((atL s.1 s.2.hi).1 + -1*(atL s.1 s.2.lo).1) + -q.1*((atL s.1 s.2.hi).2 + -1*(atL s.1 s.2.lo).2))=(s.2.hi-s.2.lo)*(a6 s.1 q-a6 s.1 (atL s.1 s.2.lo))
  unfold atL cP dirL a6;simp only;grind
 rw [e2];show 0<_*(a6 s.1 q-a6 s.1 (atL s.1 s.2.lo))
 rw [on];exact Rat.mul_pos (by grind) (by grind)
theorem Ij {c:PC}(h:nH c=true):c≠[]:=fun e=>by rw [e]at h;unfold nH at h;simp at h
theorem Eg {l:List PC}(hl:∀c∈l,dH c∧km c) (hb:l.all nH=true) (hn:l≠[]):0<Ix ar2 l:=by
 refine qa _ (fun x hx=>?_) (by simpa using hn);obtain⟨c,hc,rfl⟩:=List.mem_map.1 hx;have hbc:=List.all_eq_true.1 hb c hc;exact GH (hl c hc).1 (hl c hc).2 (GG hbc) (Ij hbc)
structure ArT (t:Tr):Prop where
 lok:t.lok
 le:t.all fun l=>l.le 16
 dep:eM t≤12
 size:cU t≤156
 bnd:(inC t).all nH=true
theorem ArT.pos {t:Tr}(h:ArT t) (hn:inC t≠[]):0<Ix ar2 (inC t):=Eg (I7 h.lok) h.bnd hn
structure Js where
 k:Nat
 s:SV
 Hs:LH
theorem EO {u w:Pq}{n:Nat}(hu:hp u n) (hw:hp w n):hp (iL u w) (2*n+1):=by
 obtain⟨a,b⟩:=hu;obtain⟨c,d⟩:=hw;have h1:=aO u.1 w.1;have h2:=aO u.2 w.2;have h3:=cN u.2;unfold iL;split
 ·exact⟨by show ht (u.1+w.1)≤_;omega,by show ht (u.2+w.2)≤_;omega⟩
 ·exact⟨by show ht (-u.2)≤_;omega,by show ht u.1≤_;omega⟩
theorem AI (x y:Rat) (hy:ht y≤1000000):Pu Tryz.prog 181 [pp x y] (pp (-y) x):=by
 have c:=ji y om;generalize -y=z at *;refine Pi Tryz.func181 fun C=>?_
 exact X1 c
theorem qQ {f:Nat→Pq}{k:Nat}:((List.range (k+1)).map f)=(List.range k).map f++[f k]:=by rw [List.range_succ,List.map_append];rfl
theorem xq {D:List Pq}{N:Nat}(hD:∀e∈D,hp e N) (hN:N≤100000) (hl:D.length≤1000000):Pu Tryz.prog 127 [pps D] (pps (kU D)):=by
 by_cases h0:D=[]
 ·subst h0;have c1:=Hg;have e:pps (kU [])=sl (ppx (1,0)) 1:=rfl;rw [e];unfold ppx;simp only [e0r,e1r,e2r];refine Pi Tryz.func127 fun C=>?_
  repeat(first|(refine Wo (bs (r:=[(0,[lit (.int .i64 (r0 1)),lit (.int .i64 (r1 1)),r2 1,lit (.int .i64 0),lit (.int .i64 0),lit (.pointer none)])]) (cs:=[lit (.int .i64 (r0 1)),lit (.int .i64 (r1 1)),r2 1,lit (.int .i64 0),lit (.int .i64 0),lit (.pointer none)]) (.cons (sv:=ag [lit (.int .i64 (r0 1)),lit (.int .i64 (r1 1)),r2 1,lit (.int .i64 0),lit (.int .i64 0),lit (.pointer none)]) rfl inferInstance .nil)) ?_)|(refine Wdo (bs (r:=[(0,[lit (.int .i64 (r0 1)),lit (.int .i64 (r1 1)),r2 1,lit (.int .i64 0),lit (.int .i64 0),lit (.pointer none)])]) (cs:=[lit (.int .i64 (r0 1)),lit (.int .i64 (r1 1)),r2 1,lit (.int .i64 0),lit (.int .i64 0),lit (.pointer none)]) (.cons (sv:=ag [lit (.int .i64 (r0 1)),lit (.int .i64 (r1 1)),r2 1,lit (.int .i64 0),lit (.int .i64 0),lit (.pointer none)]) rfl inferInstance .nil)) ?_)|(refine A1 ⟨?_⟩;intros)|refine W4 c1 ⟨?_⟩)
  exact E1
 ·have hpos:=List.length_pos_iff.2 h0;have e:kU D=(List.range D.length).map fun i=>iL (D.getD i (0,0)) (D.getD ((i+1)%D.length) (0,0)):=if_neg h0
  rw [e];refine Pi Tryz.func127 fun C=>?_
  repeat(refine A1 ⟨?_⟩;intros)
  refine WP.loopS (ι:=Js) (fun y=>y.k≤D.length∧Own pa 6 y.k (((List.range y.k).map fun i=>iL (D.getD i (0,0)) (D.getD ((i+1)%D.length) (0,0))).map ppx).flatten y.s y.Hs) (fun y=>D.length-y.k) (fun y=>fm [(0,pps D),(3,y.s),(13,pps D),(14,lit (.int .i64 D.length)),(15,lit (.int .i64 y.k))]) (fun y=>y.Hs) ⟨0,lit (.slice none 0 0),[]⟩
   ⟨Nat.zero_le _,Own.nil _ _⟩ lfA (List.nil_sublist _) ?_
  rintro ⟨k,s,Hs⟩ ⟨hk,hown⟩ K hK;simp only at hk hown⊢;have hco:=hown.co;by_cases hkl:k<D.length
  ·have hml:(k+1)%D.length<D.length:=Nat.mod_lt _ om;have hget:=uH hkl;have hget2:=uH hml;have hgo:=fun s' Hs' h F' H'=>hK F' H' ⟨k+1,s',Hs'⟩ ⟨by simp only;omega,h⟩ (by simp only;omega)
   simp only [qQ]at hgo;generalize(List.range k).map (fun i=>iL (D.getD i (0,0)) (D.getD ((i+1)%D.length) (0,0)))=v at *;generalize D.getD k (0,0)=u at *;generalize D.getD ((k+1)%D.length) (0,0)=w at *;have hu:=hD u (List.mem_of_getElem? hget);have hw:=hD w (List.mem_of_getElem? hget2);have hat:=cX (f:=ppx) (n:=6) et hget;have hat2:=cX (f:=ppx) (n:=6) et hget2;have hne:(D.map ppx).flatten≠[]:=e7 et om (fun e=>by rw [e]at hkl;simp at hkl);have htm:((k:Int)+1).tmod (D.length:Int)=(((k+1)%D.length:Nat):Int):=rfl;have htm1:0≤((k:Int)+1).tmod (D.length:Int):=by rw [htm];omega
   have htm2:((k:Int)+1).tmod (D.length:Int)<(D.length:Int):=by rw [htm];exact_mod_cast hml
   have hat2':(((D.map ppx).flatten).drop ((((k:Int)+1).tmod (D.length:Int)).toNat*6)).take 6=ppx w:=by rw [htm];exact hat2
   obtain⟨u1,u2⟩:=hu;obtain⟨w1,w2⟩:=hw;have d1:=o6 u.1 u.2 w.1 w.2 om om om om;have k1:=af u.1 w.2;have k2:=af u.2 w.1;have k3:=dG (u.1*w.2) (u.2*w.1);have d2:=gX (u.1*w.2-u.2*w.1) om;have d3:=u7 u.1 u.2 w.1 w.2 om om om om;have d4:=AI u.1 u.2 om;have ec:u.1*w.2-u.2*w.1=a7 u w:=rfl;rw [ec]at d1 d2
   have hsg:iL u w=if 0<(a7 u w).num.sign then(u.1+w.1,u.2+w.2)else(-u.2,u.1):=by
    unfold iL s5;by_cases h:0<a7 u w
    ·rw [if_pos h,if_pos (bd.2 h)]
    ·rw [if_neg h,if_neg (fun e=>h (bd.1 e))]
   have hvl:v.length=k:=by have:=hown.1;rw [bk et]at this;omega
   clear hK hD hget hget2 hat2 htm k1 k2 k3 ec u1 u2 w1 w2;rw [hsg]at hgo;clear hsg;generalize(a7 u w).num.sign=z at *;generalize a7 u w=x at *;by_cases hz:0<z
   ·rw [if_pos hz]at hgo;repeat(refine A1 ⟨?_⟩;intros)
    refine Wo (a8 (cs':=ppx u) rfl rfl om om hat hne) ?_;repeat(refine A1 ⟨?_⟩;intros)
    refine Wo (a8 (cs':=ppx w) rfl rfl htm1 htm2 hat2' hne) ?_;repeat(first|(refine Wo (az (ppx (u.1+w.1,u.2+w.2)) rfl) ?_)|(refine Wdo (az (ppx (u.1+w.1,u.2+w.2)) rfl) ?_)|(refine A1 ⟨?_⟩;intros)|refine W4 d1 ⟨?_⟩|refine W4 d2 ⟨?_⟩|refine W4 d3 ⟨?_⟩)
    refine jL (ds:=ppx (u.1+w.1,u.2+w.2)) hown (Tk.skip _ (Tk.skip _ (Tk.same _))) om (fun s' H1 hown'=>?_);have hco':=hown'.co;replace hgo:=hgo s' H1 (by rw [List.map_append,List.flatten_append];simpa using hown');clear hown hown';repeat(refine A1 ⟨?_⟩;intros)
    exact hgo _ _ lfA (by repeat(first|exact Sr|refine Sc ?_))
   ·rw [if_neg hz]at hgo;repeat(refine A1 ⟨?_⟩;intros)
    refine Wo (a8 (cs':=ppx u) rfl rfl om om hat hne) ?_;repeat(refine A1 ⟨?_⟩;intros)
    refine Wo (a8 (cs':=ppx w) rfl rfl htm1 htm2 hat2' hne) ?_;repeat(first|(refine Wo (az (ppx (-u.2,u.1)) rfl) ?_)|(refine Wdo (az (ppx (-u.2,u.1)) rfl) ?_)|(refine A1 ⟨?_⟩;intros)|refine W4 d1 ⟨?_⟩|refine W4 d2 ⟨?_⟩|refine W4 d4 ⟨?_⟩)
    refine jL (ds:=ppx (-u.2,u.1)) hown (Tk.skip _ (Tk.skip _ (Tk.same _))) om (fun s' H1 hown'=>?_);have hco':=hown'.co;replace hgo:=hgo s' H1 (by rw [List.map_append,List.flatten_append];simpa using hown');clear hown hown';repeat(refine A1 ⟨?_⟩;intros)
    exact hgo _ _ lfA (by repeat(first|exact Sr|refine Sc ?_))
  ·have hke:k=D.length:=by omega
   subst hke
   have e2:pps ((List.range D.length).map fun i=>iL (D.getD i (0,0)) (D.getD ((i+1)%D.length) (0,0)))=sl (((List.range D.length).map fun i=>iL (D.getD i (0,0)) (D.getD ((i+1)%D.length) (0,0))).map ppx).flatten D.length:=by
    unfold pps;rw [List.length_map,List.length_range]
   rw [e2];refine WP.rowS 3 hown rfl (by rw [List.append_nil]) ?_;clear hK hown;repeat(refine A1 ⟨?_⟩;intros)
   exact aM (ax (RV.tmp rfl) Lr)
theorem Id {l:Li}{L:Nat}(h:l.le L) (h1:1≤L){d:Pq}{n:Nat}(hd:hp d n):ht (gn l d)≤2*L+2*n+3:=by
 obtain⟨a1,a2,_⟩:=h.hts h1;obtain⟨d1,d2⟩:=hd;have k1:=af (l.a:Rat) d.1;have k2:=af (l.b:Rat) d.2;have k3:=aO ((l.a:Rat)*d.1) (l.b*d.2);unfold gn;omega
theorem DE {l:Li}{a b:Tr}{p d:Pq}(h:gen (.node l a b) p d):(a6 l p=0→gn l d≠0∧gen a p d∧gen b p d)∧(0<a6 l p→gen a p d)∧(a6 l p<0→gen b p d):=by
 obtain⟨h1,h2⟩:=h;unfold fC at h2;refine⟨fun z=>?_,fun z=>?_,fun z=>?_⟩
 ·rw [if_pos z]at h2;exact⟨h2 l Ms,⟨h1,fun m hm=>h2 m (Mc (List.mem_append_left _ hm))⟩,⟨h1,fun m hm=>h2 m (Mc (List.mem_append_right _ hm))⟩⟩
 ·rw [if_neg (by grind),if_pos z]at h2;exact⟨h1,h2⟩
 ·rw [if_neg (by grind),if_neg (by grind)]at h2;exact⟨h1,h2⟩
theorem Ai {L:Nat}(h1:1≤L) (hU:L≤500){p d:Pq}(hp0:hp p 100000) (hd0:hp d 100000) (t0:Tr) (hall0:t0.all fun l=>l.le L) (hg0:gen t0 p d):Pu Tryz.prog 130 [bt t0,ppq p,ppq d] (Ab.tup [lit (.bool (tow t0 p d)),lit (.bool true)]):=by
 obtain⟨R,hR⟩:∃R,R=tow t0 p d:=⟨_,rfl⟩
 rw [←hR];refine Pi Tryz.func130 fun C=>?_
 repeat(refine A1 ⟨?_⟩;intros)
 rename_i b4 b5
 refine WP.loopS (ι:=Tr) (fun t=>(t.all fun l=>l.le L)∧gen t p d∧R=tow t p d) eM (fun t=>fm [(0,bt t),(4,lit (.pointer (some ⟨b4,0,none⟩))),(5,lit (.pointer (some ⟨b5,0,none⟩)))]) (fun _=>[(b5,pa,ppx d),(b4,pa,ppx p)]) t0
  ⟨hall0,hg0,hR⟩ lfA Sr ?_
 clear hall0 hg0 hR;rintro t ⟨hall,hg,hR⟩ K hK;cases t with
 |leaf i =>
  have d1:=io i;have e:tow (.leaf i) p d=i:=rfl;rw [e]at hR;subst hR;clear hK hall hg;simp only [bt,nI]at d1⊢;repeat(first|(refine A1 ⟨?_⟩;intros)|refine W4 d1 ⟨?_⟩)
  exact G2
 |node l a b =>
  have d1:=ik l a b;have d2:=wn hall.1 h1 om hp0;rw [show cM l p=(a6 l p).num.sign from rfl]at d2;obtain⟨a1,a2,a3⟩:=hall.1.hts h1;have d3:=lp (l.a:Rat) l.b l.c;have d4:=po (l.a:Rat) l.b d.1 d.2 om om (by have:=hd0.1;omega) (by have:=hd0.2;omega);have dh:=Id hall.1 h1 hd0;rw [show(l.a:Rat)*d.1+l.b*d.2=gn l d from rfl]at d4;have d5:=gX (gn l d) om;obtain⟨g0,g1,g2⟩:=DE hg;have hda:eM a<eM (.node l a b):=by show eM a<1+max (eM a) (eM b);omega
  have hdb:eM b<eM (.node l a b):=by show eM b<1+max (eM a) (eM b);omega
  have goA:=fun(hv:0<a6 l p∨(a6 l p=0∧0<gn l d)) (hg:gen a p d) F' H'=>hK F' H' a ⟨hall.2.1,hg,by rw [hR];show(if _ then _ else _)=_;rw [if_pos hv]⟩ hda
  have goB:=fun(hv:¬(0<a6 l p∨(a6 l p=0∧0<gn l d))) (hg:gen b p d) F' H'=>hK F' H' b ⟨hall.2.2,hg,by rw [hR];show(if _ then _ else _)=_;rw [if_neg hv]⟩ hdb
  have en:bt (.node l a b)=pt (bc (.node l a b)):=rfl;simp only [en,kS]at d1⊢;clear hK hR hall a1 a2 a3 dh hg en;rcases nU (a6 l p)with⟨hv,hz⟩|⟨hv,hz⟩|⟨hv,hz⟩
  ·rw [hz]at d2;obtain⟨n0,n1,n2⟩:=g0 hv;rcases nU (gn l d)with⟨hw,hy⟩|⟨hw,hy⟩|⟨hw,hy⟩
   ·exact absurd hw n0
   ·rw [hy]at d5;have hgo:=goA (.inr ⟨hv,hw⟩) n1;clear goA goB hv hw hz hy g0 g1 g2 n0;repeat(first|(refine A1 ⟨?_⟩;intros)|refine W4 d1 ⟨?_⟩|refine W4 d2 ⟨?_⟩|refine W4 d3 ⟨?_⟩|refine W4 d4 ⟨?_⟩|refine W4 d5 ⟨?_⟩)
    exact hgo _ _ lfA Sr
   ·rw [hy]at d5;have hgo:=goB (by rintro (h|⟨_,h⟩) <;> grind) n2;clear goA goB hv hw hz hy g0 g1 g2 n0;repeat(first|(refine A1 ⟨?_⟩;intros)|refine W4 d1 ⟨?_⟩|refine W4 d2 ⟨?_⟩|refine W4 d3 ⟨?_⟩|refine W4 d4 ⟨?_⟩|refine W4 d5 ⟨?_⟩)
    exact hgo _ _ lfA Sr
  ·rw [hz]at d2;have hgo:=goA (.inl hv) (g1 hv);clear goA goB hv hz g0 g1 g2 d3 d4 d5;repeat(first|(refine A1 ⟨?_⟩;intros)|refine W4 d1 ⟨?_⟩|refine W4 d2 ⟨?_⟩)
   exact hgo _ _ lfA Sr
  ·rw [hz]at d2;have hgo:=goB (by rintro (h|⟨h,_⟩) <;> grind) (g2 hv);clear goA goB hv hz g0 g1 g2 d3 d4 d5;repeat(first|(refine A1 ⟨?_⟩;intros)|refine W4 d1 ⟨?_⟩|refine W4 d2 ⟨?_⟩)
   exact hgo _ _ lfA Sr
structure Jz where
 st:List Tr
 cnt:Nat
 s:SV
 Hs:LH
structure LnE (L:List Li) (LL:Nat):Prop where
 ok:∀l∈L,l.ok
 le:∀l∈L,l.le LL
 l1:1≤LL
 l2:LL≤500
 len:L.length≤100
theorem LnE.all {L:List Li}{LL:Nat}(h:LnE L LL){t:Tr}(k:t.lin L):t.all fun l=>l.le LL:=Tr.lin.all h.le k
theorem LnE.sz {L:List Li}{LL:Nat}(h:LnE L LL):L.length*(1+L.length)≤100*101:=Nat.mul_le_mul h.len (by have:=h.len;omega)
theorem jf:∀t:Tr,t.size=cU t
 | .leaf _=>rfl
 | .node l a b=>by rw [Tr.size_node,jf a,jf b];rfl
theorem LnE.of {L:List Li}{LL:Nat}(h:LnE L LL){t:Tr}(k:t.lin L) (hs:cU t≤60000):Pu Tryz.prog 38 [tq t] (Ab.tup [bt t,lit (.bool true)]) :=
 yv t (Tr.lin.all (p:=fun l=>l.ok∧l.le 100000) (fun l hl=>⟨h.ok l hl,(h.le l hl).gr (by have:=h.l2;omega)⟩) k) (by rw [jf];exact hs)
end Go.Ab
