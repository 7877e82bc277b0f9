/- Texts laid one behind the other: PPart, PAng, Cpy, PIns, PBs. -/
import Derived.Test.YtpeidlcjlfkpcaaGreatDoorB26
import Derived.Laws.CopyRow
import Derived.Lib.Overlaps
import Derived.Laws.MakeOwn
set_option linter.all false
set_option maxHeartbeats 16000000
namespace Go.Ab
open Go.Proofs
variable [Base]
abbrev fgx (f:Fg):List SV:=[lit (.int .i64 (r0 f.1.a)),lit (.int .i64 (r1 f.1.a)),r2 f.1.a,lit (.int .i64 (r0 f.1.b)),lit (.int .i64 (r1 f.1.b)),r2 f.1.b,lit (.int .i64 (r0 f.1.c)),lit (.int .i64 (r1 f.1.c)),r2 f.1.c,
 lit (.int .i64 (r0 f.2.lo)),lit (.int .i64 (r1 f.2.lo)),r2 f.2.lo,lit (.int .i64 (r0 f.2.hi)),lit (.int .i64 (r1 f.2.hi)),r2 f.2.hi,lit (.bool f.2.nl),lit (.bool f.2.nh)]
theorem mc (f:Fg):(fgx f).length=17:=rfl
abbrev pcs (c:PC):SV:=sl (c.map fgx).flatten c.length
abbrev Spn.none:Spn:=⟨0,0,false,false⟩
theorem Hv {n:Nat}(h:1≤n):Spn.full.le n:=by have:=uT;exact⟨by show ht (0:Rat)≤n;omega,by show ht (0:Rat)≤n;omega⟩
theorem wC {l:Li}{v:Spn}{s:Fg}{c:PC}:lR l v (s::c)=if(qW l v s.1).2 then lR l (qW l v s.1).1 c else Option.none:=by
 rw [show lR l v (s::c)=(match jp l v s.1 with|some w=>lR l w c|Option.none=>Option.none)from rfl,FU];cases(qW l v s.1).2 <;> simp
theorem Eb {c:PC}{l:Li}{L:Nat}(hc:∀s∈c,s.1.le L) (hl:l.le L) (h1:1≤L) (hU:L≤1000) (hn:c.length≤1000000) :
  Pu Tryz.prog 281 [pcs c,lfl l] (Ab.tup [iv ((mC c l).getD Spn.none),lit (.bool (mC c l).isSome)]):=by
 have c0:=Ma;have e0:r0 (0:Rat)=0:=by decide +kernel
 have e1:r1 (0:Rat)=0:=by decide +kernel
 have e2:r2 (0:Rat)=lit (.pointer none):=if_pos (by decide +kernel);refine Pi Tryz.func281 fun C=>?_
 refine D1 c0 ⟨?_⟩;intros;rename_i b3 b4 b6
 refine WP.loopS (ι:=Nat×Spn) (fun st=>st.1≤c.length∧st.2.le (50*L)∧lR l st.2 (c.drop st.1)=mC c l) (fun st=>c.length-st.1)
  (fun st=>fm [(3,lit (.pointer (some ⟨b3,0,none⟩))),(4,lit (.pointer (some ⟨b4,0,none⟩))),(6,lit (.pointer (some ⟨b6,0,none⟩))),(11,pcs c),(12,lit (.int .i64 c.length)),(13,lit (.int .i64 st.1))])
  (fun st=>[(b6,409,ivx st.2),(b4,409,z8),(b3,128,lfc l.a l.b l.c)]) (0,Spn.full) ⟨an _,Hv om,by rw [bD];rfl⟩ lfA Sr ?_
 rintro ⟨k,v⟩ ⟨hk,hv,hp⟩ K hK;simp only at hk hv hp⊢;by_cases hkl:k<c.length
 ·obtain⟨s,hget,hmem,hat,hne⟩:=elt mc om hkl;have hdr:=kw hget;rw [hdr,wC]at hp;have c1:=Hl hl (hc s hmem) h1 hU hv;have hle:=Cc hl (hc s hmem) h1 hv;cases hb:(qW l v s.1).2 with
  |true =>
   rw [hb,if_pos rfl]at hp;rw [hb]at c1;have hgo:=fun F' H'=>hK F' H' (k+1,(qW l v s.1).1) ⟨om,hle,hp⟩ (by simp only;omega)
   clear hK hp hv hle hdr hb hc hl c0;generalize(qW l v s.1).1=w at *;refine A2 ⟨?_⟩;intros;refine Wo (ae (cs':=fgx s) rfl rfl om om hat hne) ?_;repeat(first|(refine A1 ⟨?_⟩;intros)|(refine Wo (dX rfl rfl kr rfl) ?_)|(refine Wdo (dX rfl rfl kr rfl) ?_)|refine W4 c1 ⟨?_⟩)
   exact hgo _ _ lfA (Sc Sr)
  |false =>
   rw [hb,if_neg (by decide)]at hp;rw [hb]at c1;rw [←hp];clear hK hp hv hle hdr hb hc hl c0;generalize(qW l v s.1).1=w at *;unfold Option.getD iv ivx;simp only [nu];rw [e0,e1,e2];refine A2 ⟨?_⟩;intros;refine Wo (ae (cs':=fgx s) rfl rfl om om hat hne) ?_;repeat(first|(refine A1 ⟨?_⟩;intros)|(refine Wo (dX rfl rfl kr rfl) ?_)|(refine Wdo (dX rfl rfl kr rfl) ?_)|refine W4 c1 ⟨?_⟩)
   exact G3
 ·have hke:k=c.length:=by omega
  subst hke;rw [eL]at hp;rw [←hp];clear hK hp hc hl;refine A2 ⟨?_⟩;intros;exact G3
def or3 (a b c:Int):Int:=if a≠0 then a else if b≠0 then b else c
theorem Rf (a b c:Int):Pu Tryz.prog 339 [sl [lit (.int .i64 a),lit (.int .i64 b),lit (.int .i64 c)] 3] (lit (.int .i64 (or3 a b c))):=by
 have key:∀(i:Nat) (v:Int),[a,b,c][i]? = some v→(([lit (.int .i64 a),lit (.int .i64 b),lit (.int .i64 c)]:List SV).drop (i*1)).take 1=[lit (.int .i64 v)]:=fun i v h=>by
  match i,h with
  |0,h=>cases h;rfl
  |1,h=>cases h;rfl
  |2,h=>cases h;rfl
 unfold or3;refine Pi Tryz.func339 fun C=>?_
 refine A2 ⟨?_⟩;intros;refine WP.unroll 4 ?_;refine WPR.succ ?_;refine A2 ⟨?_⟩;intros;refine Wo (ae (cs':=[lit (.int .i64 a)]) rfl rfl om om (key 0 a rfl) (by intro h;cases h)) ?_;by_cases ha:a=0
 ·rw [if_neg (fun h=>h ha)];refine A2 ⟨?_⟩;intros;refine Wo (ae (cs':=[lit (.int .i64 b)]) rfl rfl om om (key 1 b rfl) (by intro h;cases h)) ?_;by_cases hb:b=0
  ·rw [if_neg (fun h=>h hb)];refine A2 ⟨?_⟩;intros;refine Wo (ae (cs':=[lit (.int .i64 c)]) rfl rfl om om (key 2 c rfl) (by intro h;cases h)) ?_;by_cases hc:c=0
   ·subst hc;exact Z1
   ·exact Z1
  ·rw [if_pos hb];exact Z1
 ·rw [if_pos ha];exact Z1
theorem Px (a b:Int):((a:Rat)-(b:Rat)).num.sign=(a + -b).sign:=by
 have:(a:Rat)-(b:Rat)=((a + -b:Int):Rat):=by rw [Rat.intCast_add,gF];grind
 rw [this,eA]
theorem PZ (l m:Li):rF l m=or3 (l.a + -m.a).sign (l.b + -m.b).sign (l.c + -m.c).sign:=rfl
theorem Pj {l m:Li}{L:Nat}(hl:l.le L) (hm:m.le L) (h1:1≤L) (hU:L≤10000):Pu Tryz.prog 327 [lfl l,lfl m] (lit (.int .i64 (rF l m))):=by
 obtain⟨a1,a2,a3⟩:=hl.hts h1;obtain⟨b1,b2,b3⟩:=hm.hts h1;have c1:=qH (l.a:Rat) m.a om om;have c2:=qH (l.b:Rat) m.b om om;have c3:=qH (l.c:Rat) m.c om om;rw [Px]at c1 c2 c3;have c4:=Rf (l.a + -m.a).sign (l.b + -m.b).sign (l.c + -m.c).sign;rw [PZ];clear a1 a2 a3 b1 b2 b3;generalize(l.a + -m.a).sign=x at *;generalize(l.b + -m.b).sign=y at *;generalize(l.c + -m.c).sign=z at *;generalize or3 x y z=r at *;refine Pi Tryz.func327 fun C=>?_
 repeat(first|(refine Wo (e9 (r:=[(0,[lit (.int .i64 x)]),(1,[lit (.int .i64 y)]),(2,[lit (.int .i64 z)])]) (dO.cons (sv:=lit (.int .i64 x)) rfl inferInstance (dO.cons (sv:=lit (.int .i64 y)) rfl inferInstance (dO.cons (sv:=lit (.int .i64 z)) rfl inferInstance dO.nil)))) ?_)|(refine Wdo (e9 (r:=[(0,[lit (.int .i64 x)]),(1,[lit (.int .i64 y)]),(2,[lit (.int .i64 z)])]) (dO.cons (sv:=lit (.int .i64 x)) rfl inferInstance (dO.cons (sv:=lit (.int .i64 y)) rfl inferInstance (dO.cons (sv:=lit (.int .i64 z)) rfl inferInstance dO.nil)))) ?_)|(refine A1 ⟨?_⟩;intros)|refine W4 c1 ⟨?_⟩|refine W4 c2 ⟨?_⟩|refine W4 c3 ⟨?_⟩|refine W4 c4 ⟨?_⟩)
 exact E1
theorem J3 {l m:Li}{L:Nat}(hl:l.le L) (hm:m.le L) (h1:1≤L) (hU:L≤10000):Pu Tryz.prog 306 [lfl l,lfl m] (lit (.bool (decide (l=m)))):=by
 have c1:=Pj hl hm h1 hU
 have e:decide (l=m)=decide (rF l m=0):=by
  by_cases h:l=m
  ·rw [a9 h,a9 (lW.2 h)]
  ·rw [aa h,aa (fun k=>h (lW.1 k))]
 rw [e];generalize rF l m=z at *;by_cases h:z=0
 ·rw [a9 h];refine Pi Tryz.func306 fun C=>?_
  exact Y1 c1
 ·rw [aa h];refine Pi Tryz.func306 fun C=>?_
  exact Y1 c1
theorem ED {s:Spn}{n:Nat}(h:s.le n) (h1:1≤n):ht (dp s)≤2*n+4:=by
 obtain⟨a,b⟩:=h;have h0:=uT;have h2:=lU;have:=gh s.hi 1;have:=fo s.lo 1;have:=BP s.lo s.hi a b;unfold dp;split
 ·omega
 ·split
  ·omega
  ·split <;> omega
theorem CE (l:Li) (s:Fg) (c:PC):oP l (s::c)=if gR l (atL s.1 (dp s.2))≠0 then gR l (atL s.1 (dp s.2))else if s.1=l then 1 else oP l c:=rfl
theorem JA {c:PC}{l:Li}{L:Nat}(hc:∀s∈c,s.1.le L∧s.2.le (50*L)) (hl:l.le L) (h1:1≤L) (hU:L≤500) (hn:c.length≤1000000) :
  Pu Tryz.prog 282 [pcs c,lfl l] (lit (.int .i64 (oQ c l))):=by
 have c0:=Eb (fun s hs=>(hc s hs).1) hl h1 om hn;unfold oQ;generalize(mC c l).getD Spn.none=w at *;cases hp:(mC c l).isSome with
 |true =>
  rw [hp]at c0;rw [if_pos rfl];refine Pi Tryz.func282 fun C=>?_
  exact Y1 c0
 |false =>
  rw [hp]at c0;rw [if_neg (by decide)];refine Pi Tryz.func282 fun C=>?_
  refine D1 c0 ⟨?_⟩;intros;rename_i b3 b5
  refine WP.loopS (ι:=Nat) (fun k=>k≤c.length∧oP l (c.drop k)=oP l c) (fun k=>c.length-k)
   (fun k=>fm [(3,lit (.pointer (some ⟨b3,0,none⟩))),(17,pcs c),(18,lit (.int .i64 c.length)),(19,lit (.int .i64 k))])
   (fun _=>[(b3,128,lfc l.a l.b l.c)]) 0 ⟨an _,by rw [bD]⟩ lfA (by first|exact Sr|exact Sc Sr) ?_
  rintro k ⟨hk,hs⟩ K hK;by_cases hkl:k<c.length
  ·obtain⟨s,hget,hmem,hat,hne⟩:=elt mc om hkl;have hdr:=kw hget;obtain⟨k1,k2⟩:=hc s hmem;rw [hdr,CE]at hs;have hsh:=ED k2 om;have d1:=DO s.2 ⟨by have:=k2.1;omega,by have:=k2.2;omega⟩;have d2:=Rt k1 h1 om (t:=dp s.2) om;obtain⟨p1,p2⟩:=Q5 k1 h1 hsh;have d3:=LV hl h1 om (p:=atL s.1 (dp s.2)) ⟨om,om⟩;have d4:=J3 k1 hl h1 om;clear hsh p1 p2 k1 k2 hc hl c0;generalize atL s.1 (dp s.2)=q at *;generalize dp s.2=t at *;generalize gR l q=z at *;by_cases hz:z=0
   ·rw [if_neg (fun h=>h hz)]at hs;by_cases he:s.1=l
    ·rw [if_pos he]at hs;rw [a9 he]at d4;rw [←hs];clear hK;refine A2 ⟨?_⟩;intros;refine Wo (ae (cs':=fgx s) rfl rfl om om hat hne) ?_;repeat(first|(refine A1 ⟨?_⟩;intros)|(refine Wo (dX rfl rfl kr rfl) ?_)|(refine Wdo (dX rfl rfl kr rfl) ?_)|refine W4 d1 ⟨?_⟩|refine W4 d2 ⟨?_⟩|refine W4 d3 ⟨?_⟩|refine W4 d4 ⟨?_⟩)
     exact E1
    ·rw [if_neg he]at hs;rw [aa he]at d4;have hgo:=fun F' H'=>hK F' H' (k+1) ⟨om,hs⟩ om
     clear hK hs;refine A2 ⟨?_⟩;intros;refine Wo (ae (cs':=fgx s) rfl rfl om om hat hne) ?_;repeat(first|(refine A1 ⟨?_⟩;intros)|(refine Wo (dX rfl rfl kr rfl) ?_)|(refine Wdo (dX rfl rfl kr rfl) ?_)|refine W4 d1 ⟨?_⟩|refine W4 d2 ⟨?_⟩|refine W4 d3 ⟨?_⟩|refine W4 d4 ⟨?_⟩)
     exact hgo _ _ lfA (by first|exact Sr|exact Sc Sr)
   ·rw [if_pos hz]at hs;rw [←hs];clear hK;refine A2 ⟨?_⟩;intros;refine Wo (ae (cs':=fgx s) rfl rfl om om hat hne) ?_;repeat(first|(refine A1 ⟨?_⟩;intros)|(refine Wo (dX rfl rfl kr rfl) ?_)|(refine Wdo (dX rfl rfl kr rfl) ?_)|refine W4 d1 ⟨?_⟩|refine W4 d2 ⟨?_⟩|refine W4 d3 ⟨?_⟩|refine W4 d4 ⟨?_⟩)
    exact E1
  ·have hke:k=c.length:=by omega
   subst hke;rw [eL]at hs;rw [←hs];clear hK hc hl;exact Z1
theorem Da (v:Pq) (h:hp v 1000000):Pu Tryz.prog 312 [ppq v] (lit (.int .i64 (qQ v))):=by
 obtain⟨h1,h2⟩:=h;have c1:=oh v.1 om;have c2:=oh v.2 om;rw [AL];generalize v.1.num.sign=x at *;generalize v.2.num.sign=y at *;clear h1 h2;by_cases a2:0<y
 ·rw [if_neg om,if_pos (.inl a2)];refine Pi Tryz.func312 fun C=>?_
  exact Y2 c1 c2
 ·by_cases a3:y=0
  ·subst a3;by_cases a4:0<x
   ·rw [if_neg om,if_pos (.inr ⟨rfl,a4⟩)];refine Pi Tryz.func312 fun C=>?_
    exact Y2 c1 c2
   ·by_cases a5:x=0
    ·subst a5;rw [if_pos ⟨rfl,rfl⟩];refine Pi Tryz.func312 fun C=>?_
     exact Y2 c1 c2
    ·rw [if_neg om,if_neg om];refine Pi Tryz.func312 fun C=>?_
     exact Y2 c1 c2
  ·rw [if_neg om,if_neg om];refine Pi Tryz.func312 fun C=>?_
   exact Y2 c1 c2
theorem II (u v:Pq) (h:hp u 400000) (k:hp v 400000):Pu Tryz.prog 286 [ppq u,ppq v] (lit (.int .i64 (wq u v))):=by
 have hx:=sB h k;obtain⟨h1,h2⟩:=h;obtain⟨k1,k2⟩:=k;have c1:=Da u ⟨om,om⟩;have c2:=Da v ⟨om,om⟩;have c3:=IF u.1 u.2 v.1 v.2 om om om om;have c4:=oh (gi u v) om;have hs : -1≤(gi u v).num.sign∧(gi u v).num.sign≤1:=by have:=kz (gi u v).num;omega
 unfold wq;rw [show u.1*v.2-u.2*v.1=gi u v from rfl]at c3;generalize qQ u=a at *;generalize qQ v=b at *;clear h1 h2 k1 k2 hx;by_cases e:a=b
 ·rw [if_neg (fun k=>k e)];generalize(gi u v).num.sign=z at *;refine Pi Tryz.func286 fun C=>?_
  refine D4 c1 c2 c3 c4 ⟨?_⟩;intros;exact E1
 ·rw [if_pos e];clear hs;by_cases f:a<b
  ·rw [if_pos f];refine Pi Tryz.func286 fun C=>?_
   exact Y2 c1 c2
  ·rw [if_neg f];refine Pi Tryz.func286 fun C=>?_
   exact Y2 c1 c2
theorem Ei {s:Fg}{l:Li}{L:Nat}(h:s.1.le L) (k:l.le L) (h1:1≤L) (hU:L≤10000):Pu Tryz.prog 285 [ag (fgx s),lfl l] (lit (.int .i64 (wq (cM s.1) (cM l)))):=by
 obtain⟨a1,a2,a3⟩:=h.hts h1;obtain⟨b1,b2,b3⟩:=k.hts h1;have c1:=xe s.1 (h.gr om);have c2:=xe l (k.gr om);have c3:=II (cM s.1) (cM l) ⟨by show ht (s.1.b:Rat)≤_;omega,by show ht (-(s.1.a:Rat))≤_;rw [fI];omega⟩ ⟨by show ht (l.b:Rat)≤_;omega,by show ht (-(l.a:Rat))≤_;rw [fI];omega⟩;clear a1 a2 a3 b1 b2 b3;refine Pi Tryz.func285 fun C=>?_
 repeat(first|(refine A1 ⟨?_⟩;intros)|(refine Wo (dX rfl rfl kr rfl) ?_)|(refine Wdo (dX rfl rfl kr rfl) ?_)|refine W4 c1 ⟨?_⟩|refine W4 c2 ⟨?_⟩|refine W4 c3 ⟨?_⟩)
 exact E1
section
variable {P:Program}{C:Ctx}{n:Nat}{F:Fr}{H:LH}{ops:Array Oper}{K:Fr→LH→Prop}{rest:List Oper}{ty:TypeId}{pos:String}{aft:Array Edge}
theorem lh {T e:TypeId}{sz by_:Nat}{z:List SV}{g:Bool} [hS:TSl P T e] [hT:TY P e sz by_ z g]{x y:Operand}{b k c:Nat}{v:Int}(j:Nat) (hx:ev F x=lit (.slice (some ⟨b,0,none⟩) k c)) (hy:ev F y=lit (.int .i64 v)) (hv:v=(j:Int)) (hj:j≤k) (hc:j<c) :
  OpV P (.slice T x (some y) none none) ty F H (lit (.slice (some ⟨b,j*sz,none⟩) (k-j) (c-j))) :=
 OpV.pure fun m w o a ho _ _ _ h=>by
  have e0:=h x (by simp [Op.operands]);rw [hx,ap]at e0;have e1:=h y (by simp [Op.operands]);rw [hy,ap]at e1;subst hv
  have hb:(Instr.sliceBounds true k c (some (a.eval y)) none none).run P w = .ok (j,k,c) w:=by
   simp [Instr.sliceBounds,ni j k _ e1 hj]
  refine⟨.slice (some ⟨b,j*sz,none⟩) (k-j) (c-j),?_,ap.2 rfl⟩;have hne:¬c=j:=by omega
  simp [execOp,ho,Instr.sliceAt,Instr.slice,underlying,hS.h,e0,hb,hT.run_size,cE,hne]
theorem zB {w:World}{dT sT ty elem:TypeId}{g o dLen dCap sz:Nat}{a:Addr}{sLen sCap:Nat}{cur:Array Value}{t:TypeId}{cs:List Value}
  (hu:P.underlying dT=some (.slice elem)) (hs:∀w,(Go.sizeOf elem).run P w = .ok sz w)
  (hg:w.heap[g]? = some (.cells cur t (0,0))) (hn:cs.length=Nat.min sLen dLen*sz)
  (hsrc:∀j v,cs[j]? = some v→w.cell? (a.add j)=some v) (hfit:o+cs.length≤cur.size) (h1:∀v∈cs,v.oneCell'=true) :
  (Builtin.copy_ #[dT,sT] ty #[.slice (some ⟨g,o,none⟩) dLen dCap, .slice (some a) sLen sCap]).run P w =
   .ok (goInt (Nat.min sLen dLen)) (w.setRow g (cur.toList.take o++cs++cur.toList.drop (o+cs.length)).toArray):=by
 have hl:=run_loadCells_list (P:=P) w a cs hsrc;have hst:=run_storeCells_at P g o t cs 0 cur w hg (by simpa using hfit) h1;simp [Builtin.copy_,run_underlying hu,Builtin.lenOf,Builtin.firstCells,hs,←hn,hl,hst]
theorem vQ {w:World}{t t4 ty e:TypeId}{i:TypeInfo}(ht:P.underlying t=some (.slice e)) (ht4:P.underlying t4=some (.slice e)) (hi:P.info? e=some i)
  {g sLen sCap:Nat}{cur:Array Value}(hg:w.heap[g]? = some (.cells cur e (0,0)))
  {a:Addr}{m c:Nat}{news:List Value}(hl:news.length=m*i.size) (hnews:∀j u,news[j]? = some u→w.cell? (a.add j)=some u) (h1:∀u∈news,u.oneCell'=true)
  (hroom:sLen+m≤sCap) (hfit:sLen*i.size+news.length≤cur.size) :
  (Builtin.append_ #[t,t4] ty #[.slice (some ⟨g,0,none⟩) sLen sCap, .slice (some a) m c]).run P w =
   .ok (.slice (some ⟨g,0,none⟩) (sLen+m) sCap) (w.setRow g (cur.toList.take (sLen*i.size)++news++cur.toList.drop (sLen*i.size+news.length)).toArray):=by
 have hf:=run_firstCells_some (P:=P) w i.size m a m c news hl hnews;have hst:=run_storeCells_at P g (sLen*i.size) e news 0 cur w hg (by simpa using hfit) h1;simp only [cj]at hst;simp [Builtin.append_,run_underlying ht,run_underlying ht4,sizeOf,typeInfo,hi,Builtin.lenOf,hroom,hf,Addr.add_lit,hst]
theorem WPL.copyB {d:Nat}{x y:Operand}{T sT e T' T3:TypeId}{sz by_:Nat}{z:List SV}{g:Bool} [hS:TSl P T e] [hT:TY P e sz by_ z g]{b b3 o1 o2 n1 n2 c1 c2:Nat}{cs ss:List SV}{H':LH}
  (hx:ev F x=lit (.slice (some ⟨b,o1,none⟩) n1 c1)) (hy:ev F y=lit (.slice (some ⟨b3,o2,none⟩) n2 c2)) (h3:(b3,T3,ss)∈H)
  (hfit:o1+Nat.min n2 n1*sz≤cs.length) (hsrc:o2+Nat.min n2 n1*sz≤ss.length)
  (hup:br b T' cs (cs.take o1++(ss.drop o2).take (Nat.min n2 n1*sz)++cs.drop (o1+Nat.min n2 n1*sz)) H H')
  (k:WPL P C n ops rest K (upd F d (lit (.int .i64 (Nat.min n2 n1:Nat)))) H') (hd:Nat.blt d n=true) :
  WPL P C n ops (⟨some d, .call ⟨.builtin .copy,#[x,y],#[T,sT]⟩,ty,pos,aft,none⟩::rest) K F H:=by
 unfold WPL;intro a w hs Q hq;refine wpList_plain rfl fun K' hK'=>?_
 obtain⟨hdef,hn,m,h1,h2,h30,h4,h5⟩:=hs
 have hpp:∀x,(ev F x).p m (a.eval x):=fun x=>by
  cases x with
  |tmp t=>exact h5 t
  |const v=>unfold ev lit;rfl
  |global g=>unfold ev lit;rfl
  |func f=>unfold ev lit;rfl
 have e0:=hpp x;rw [hx,ap]at e0;have e1:=hpp y;rw [hy,ap]at e1;obtain⟨hmb,arr,hb,hall⟩:=h2.2 _ hup.mem;obtain⟨_,arr3,hb3,hall3⟩:=h2.2 _ h3;have hlen:=hall.length;have hlen3:=hall3.length;simp only [aN]at hlen hlen3
 have hcl:((arr3.toList.drop o2).take (Nat.min n2 n1*sz)).length=Nat.min n2 n1*sz:=by
  rw [aC,cO,aN];omega
 have hsr:∀j u,((arr3.toList.drop o2).take (Nat.min n2 n1*sz))[j]? = some u→w.cell? ((⟨b3,o2,none⟩:Addr).add j)=some u:=fun j u hj=>by
  rw [cE,eB w b3 _ arr3 _ _ hb3];rw [eE]at hj;split at hj
  ·rw [eD]at hj;simpa using hj
  ·cases hj
 have hrun:=zB (P:=P) (w:=w) (dT:=T) (sT:=sT) (ty:=ty) (elem:=e) (g:=b) (o:=o1) (dLen:=n1) (dCap:=c1) (sz:=sz) (a:=⟨b3,o2,none⟩) (sLen:=n2) (sCap:=c2) hS.h hT.run_size hb hcl hsr (by rw [hcl];omega)
  (fun v hv=>hall3.flat v (kM (gP hv)))
 unfold Oper.wp
 have hexec:execOp a.eval (⟨some d, .call ⟨.builtin .copy,#[x,y],#[T,sT]⟩,ty,pos,aft,none⟩:Oper)=(do let v←Builtin.copy_ #[T,sT] ty #[a.eval x,a.eval y];pure (.value v)):=by
  simp [execOp,resolve,invoke,builtin]
 rw [hexec,e0,e1];simp only [Sem.run_bind,hrun,Result.andThen_ok,Sem.run_pure];rw [hcl]
 obtain⟨q1,q2,q3,q4⟩:=mf (w':=w.setRow b (arr.toList.take o1++(arr3.toList.drop o2).take (Nat.min n2 n1*sz)++arr.toList.drop (o1+Nat.min n2 n1*sz)).toArray) h1 h2 h30 h4 hup (setRow_heap w b arr _ _ _ hb) (fun j hj=>setRow_other w b j _ hj) rfl rfl ⟨rfl,rfl⟩ (by simp)
  (by simpa using ((hall.take o1).append ((hall3.drop o2).take _)).append (hall.drop _))
 unfold WPL at k;refine hK' _ _ (k (a.put (some d) (.int .i64 (Nat.min n2 n1:Nat))) _ ⟨hdef,by simpa [Act.put] using hn,m,q1,q2,q3,q4,fun t=>?_⟩ Q hq);rw [gT (cQ (ay.mp hd) hn)];unfold Ab.upd;by_cases ht:t=d
 ·subst ht;rw [if_pos rfl,cY];exact ap.2 rfl
 ·rw [if_neg ht]
  have:Nat.beq t d=false:=by
   cases hbb:Nat.beq t d with
   |false=>rfl
   |true=>exact absurd (bA hbb) ht
  rw [this];exact h5 t
theorem WPL.appIn {T T4 e:TypeId}{sz by_:Nat}{z:List SV}{g:Bool} [hS:TSl P T e] [hS4:TSl P T4 e] [hT:TY P e sz by_ z g]{d:Nat}{x y:Operand}{n0 b b2 c c2:Nat}{T':TypeId}{cs ds tl:List SV}{Rs:LH}
  (hx:ev F x=lit (.slice (some ⟨b,0,none⟩) n0 c)) (hy:ev F y=lit (.slice (some ⟨b2,0,none⟩) 1 c2)) (hcl:cs.length=n0*sz) (htl:tl.length=c*sz-n0*sz) (hroom:n0+1≤c) (hdl:aq b e (cs++tl) H Rs) (hm:(b2,T',ds)∈Rs) (hds:ds.length=sz)
  (k:WPL P C n ops rest K (upd F d (lit (.slice (some ⟨b,0,none⟩) (n0+1) c))) ((b,e,(cs++ds)++tl.drop sz)::Rs)) (hd:Nat.blt d n=true) :
  WPL P C n ops (⟨some d, .call ⟨.builtin .append,#[x,y],#[T,T4]⟩,ty,pos,aft,none⟩::rest) K F H:=by
 unfold WPL;intro a w hs0 Q hq;have hs:=hs0.perm hdl.perm;refine wpList_plain rfl fun K' hK'=>?_
 obtain⟨hdef,hn,m0,h10,h20,h30,h40,h50⟩:=id hs
 have hp0:∀x,(ev F x).p m0 (a.eval x):=fun x=>by
  cases x with
  |tmp t=>exact h50 t
  |const v=>unfold ev lit;rfl
  |global g=>unfold ev lit;rfl
  |func f=>unfold ev lit;rfl
 have e0:=hp0 x;rw [hx,ap]at e0;have e1:=hp0 y;rw [hy,ap]at e1;obtain⟨_,arr2,hb2,hall2⟩:=h20.2 _ (Mc hm);obtain⟨i,v,hi,hsz,hbyt,hz,hzl,hfl,hvs⟩:=hT.run_bytes;have hlen2:=hall2.length;simp only [aN]at hlen2
 have hys:∀j u,arr2.toList[j]? = some u→w.cell? ((⟨b2,0,none⟩:Addr).add j)=some u:=fun j u hj=>by
  rw [cE,eB w b2 _ arr2 _ _ hb2];simpa using hj
 have hexec:execOp a.eval (⟨some d, .call ⟨.builtin .append,#[x,y],#[T,T4]⟩,ty,pos,aft,none⟩:Oper)=(do let v←Builtin.append_ #[T,T4] ty #[a.eval x,a.eval y];pure (.value v)):=by
  simp [execOp,resolve,invoke,builtin]
 obtain⟨hmb,arr,hb,hall⟩:=h20.2 _ Ms;have hlen:=hall.length;simp only [ac,hcl,htl,aN]at hlen;have hm1:(n0+1)*sz≤c*sz:=aR _ hroom;rw [e6]at hm1;unfold Oper.wp;rw [hexec,e1,e0];have hmul:n0*sz≤c*sz:=aR _ om;have hrun:=vQ (P:=P) (w:=w) (t:=T) (t4:=T4) (ty:=ty) (e:=e) (i:=i) hS.h hS4.h hi (g:=b) (sLen:=n0) (sCap:=c) hb (a:=⟨b2,0,none⟩) (m:=1) (c:=c2) (news:=arr2.toList) (by rw [aN,hlen2,hsz,hds,aY]) hys hall2.flat hroom (by rw [hsz,aN,hlen2,hds];omega);simp only [Sem.run_bind,hrun,Result.andThen_ok,Sem.run_pure];unfold WPL at k
 have hfin:bk m0 ((cs++ds)++tl.drop sz) (arr.toList.take (n0*i.size)++arr2.toList++arr.toList.drop (n0*i.size+arr2.toList.length)).toArray.toList:=by
  obtain⟨q1,q2⟩:=hall.split;rw [hcl]at q1 q2;rw [hsz,aN,hlen2,hds,du,←jP];exact(q1.append hall2).append (q2.drop sz)
 obtain⟨q1,q2,q3,q4⟩:=mf (w':=w.setRow b (arr.toList.take (n0*i.size)++arr2.toList++arr.toList.drop (n0*i.size+arr2.toList.length)).toArray) h10 h20 h30 h40 (.here Rs)
  (setRow_heap w b arr _ e _ hb) (fun j hj=>setRow_other w b j _ hj) rfl rfl ⟨rfl,rfl⟩ (by simp) hfin
 refine hK' _ _ (k (a.put (some d) (.slice (some ⟨b,0,none⟩) (n0+1) c)) _ ⟨hdef,by simpa [Act.put] using hn,m0,q1,q2,q3,q4,fun t=>?_⟩ Q hq);rw [gT (cQ (ay.mp hd) hn)];unfold Ab.upd;by_cases ht:t=d
 ·subst ht;rw [if_pos rfl,cY];exact ap.2 rfl
 ·rw [if_neg ht]
  have:Nat.beq t d=false:=by
   cases hbb:Nat.beq t d with
   |false=>rfl
   |true=>exact absurd (bA hbb) ht
  rw [this];exact h50 t
theorem WPL.makeR {T e:TypeId}{sz by_:Nat}{z:List SV}{g:Bool} [hS:TSl P T e] [hT:TY P e sz by_ z g]{d:Nat}{x y:Operand}{c:Nat}{v:Int}(hx:ev F x=lit (.int .i64 0)) (hy:ev F y=lit (.int .i64 v)) (hv:v=(c:Int)) (hb:by_*c≤281474976710656) (hc:c≤1000000000) (hd:Nat.blt d n=true)
  (h:∀b,WPL P C n ops rest K (upd F d (lit (.slice (some ⟨b,0,none⟩) 0 c))) ((b,e,List.replicate (c*sz) top)::H)):WPL P C n ops (⟨some d, .makeSlice T x y,ty,pos,aft,none⟩::rest) K F H:=by
 subst hv;unfold WPL at h⊢;intro a w hs Q hq;obtain⟨i,v,hi,hsz,hbyt,hz,hzl,hfl,hvs⟩:=hT.run_bytes;obtain⟨m0,_,hp0⟩:=hs.evp;have e0:=hp0 x;rw [hx,ap]at e0;have e1:=hp0 y;rw [hy,ap]at e1;refine wpList_plain rfl fun K' hK'=>?_
 have hb':(i.bytes:Int)*(c:Int)≤281474976710656:=by
  rw [hbyt];have h2:((by_*c:Nat):Int)≤281474976710656:=by omega
  rwa [cX]at h2
 have hr:=run_make (P:=P) w T e i v hS.h hi hz .i64 .i64 0 (c:Int) (Int.le_refl _) om hb' om;simp only [tr,dN]at hr;unfold Oper.wp
 have hexec:execOp a.eval (⟨some d, .makeSlice T x y,ty,pos,aft,none⟩:Oper)=(do let v←Instr.makeSlice T (a.eval x) (a.eval y);pure (.value v)):=by
  simp [execOp]
 rw [hexec,e0,e1];simp only [Sem.run_bind,hr,Result.andThen_ok,Sem.run_pure];refine hK' _ _ (h _ _ _ (St.push (ay.mp hd) hs fun m _=>?_) Q hq);refine bk.topL (by rw [aN,size_madeCells,hsz]) fun u hu=>?_
 simp only [madeCells,tm,tj,aj,dE]at hu;obtain⟨j,hj,rfl⟩:=hu;have hp:0<v.cells.size:=f9 fun e=>by rw [hvs]at e;rw [hsz,e,jD]at hj;omega
 have hlt:j%v.cells.size<v.cells.size:=cS _ hp;rw [getElem!_pos v.cells _ hlt];exact fQ.1 hfl _ (by simp)
theorem wN {w:World}{tS tR e:TypeId}(ht:P.underlying tS=some (.slice e)){size:Nat}(hz:∀w,(Go.sizeOf e).run P w = .ok size w)
  {b1 o1 l1 c1 b2 o2 l2 c2:Nat}{A1 A2:Array Value}{T1 T2:TypeId}(hne:b1≠b2) (h1:w.heap[b1]? = some (.cells A1 T1 (0,0))) (h2:w.heap[b2]? = some (.cells A2 T2 (0,0))) (hA:A2.size≠0) :
  (Extern.SlicesOverlaps.overlaps #[tS,tS] #[tR] #[.slice (some ⟨b1,o1,none⟩) l1 c1, .slice (some ⟨b2,o2,none⟩) l2 c2]).run P w = .ok (.bool false) w :=
 Go.Lib.run_overlaps_apart w tS tR e ht size hz ⟨b1,o1,none⟩ ⟨b2,o2,none⟩ l1 c1 l2 c2 hne T1 T2 A1.size A2.size (by simp [World.shape?,h1]) (by simp [World.shape?,h2]) hA (by simp [World.frozen?,h1]) (by simp [World.frozen?,h1])
end
section
variable {P:Program}{C:Ctx}{n:Nat}{F:Fr}{H:LH}{ops:Array Oper}{K:Fr→LH→Prop}{rest:List Oper}{ty:TypeId}{pos:String}{aft:Array Edge}
theorem OF {T e:TypeId} [hS:TSl P T e]{x:Operand}{a:Option Addr}{k c:Nat}(hx:ev F x=lit (.slice a k c)):OpV P (.call ⟨.builtin .cap,#[x],#[T]⟩) ty F H (lit (.int .i64 c)) :=
 OpV.pure fun m w o a ho _ _ _ h=>by
  have h0:=h x (by simp [Op.operands,Call.operands]);rw [hx,ap]at h0;refine⟨.int .i64 c,?_,ap.2 rfl⟩;simp [execOp,ho,resolve,invoke,builtin,h0,Builtin.cap_,goInt,underlying,hS.h]
theorem TV {k q i d:Nat}{late:List NO'}{x y:Operand}{T sT e T' T3:TypeId}{sz by_:Nat}{z:List SV}{g:Bool} [hS:TSl P T e] [hT:TY P e sz by_ z g]{b b3 o1 o2 n1 n2 c1 c2:Nat}{cs ss:List SV}{H':LH}{r:List Oper}
  (hx:ev F x=lit (.slice (some ⟨b,o1,none⟩) n1 c1)) (hy:ev F y=lit (.slice (some ⟨b3,o2,none⟩) n2 c2)) (h3:(b3,T3,ss)∈H)
  (hfit:o1+Nat.min n2 n1*sz≤cs.length) (hsrc:o2+Nat.min n2 n1*sz≤ss.length)
  (hup:br b T' cs (cs.take o1++(ss.drop o2).take (Nat.min n2 n1*sz)++cs.drop (o1+Nat.min n2 n1*sz)) H H')
  (hlok:LOk P ops k q n H F late) (h:Stg P C n ops k q late K (i+1) r (upd F d (lit (.int .i64 (Nat.min n2 n1:Nat)))) H')
  (ho:ops[i]? = some ⟨some d, .call ⟨.builtin .copy,#[x,y],#[T,sT]⟩,ty,pos,aft,none⟩:=by exact rfl) (hd:Nat.blt d n=true:=by exact rfl) :
  Stg P C n ops k q late K i (⟨some d, .call ⟨.builtin .copy,#[x,y],#[T,sT]⟩,ty,pos,aft,none⟩::r) F H:=by
 refine⟨hlok,fun s' H2=>s'=lit (.int .i64 (Nat.min n2 n1:Nat))∧H2=H',TSR.of ho rfl fun F1 hF1=>?_,?_⟩
 ·have hx1:ev F1 x=lit (.slice (some ⟨b,o1,none⟩) n1 c1):=by rw [←hx];exact(fu (by simp [Op.operands,Call.operands]) hF1)
  have hy1:ev F1 y=lit (.slice (some ⟨b3,o2,none⟩) n2 c2):=by rw [←hy];exact(fu (by simp [Op.operands,Call.operands]) hF1)
  exact WPL.copyB hx1 hy1 h3 hfit hsrc hup (WPL.nil ⟨_,⟨rfl,rfl⟩,rfl⟩) hd
 ·rintro s' H2 ⟨rfl,rfl⟩;exact h
end
section
variable {F:Fr}{H:LH}{ty:TypeId}
theorem Ld {x y:Operand}{b1 o1 l1 c1 b2 o2 l2 c2:Nat}{tys:Array TypeId}{T1 T2:TypeId}{cs1 cs2:List SV}{R:LH}(hx:ev F x=lit (.slice (some ⟨b1,o1,none⟩) l1 c1)) (hy:ev F y=lit (.slice (some ⟨b2,o2,none⟩) l2 c2)) (hd:aq b1 T1 cs1 H R) (h2:(b2,T2,cs2)∈R) (hn:cs2≠[]) :
  OpV Tryz.prog (.call ⟨.value (.func 314),[x,y].toArray,tys⟩) ty F H (lit (.bool false)) :=
 OpV.pure fun m w o a ho _ _ hH h=>by
  have h0:=h x (by simp [Op.operands,Call.operands]);rw [hx,ap]at h0;have h1:=h y (by simp [Op.operands,Call.operands]);rw [hy,ap]at h1;have h8:=@run_callFunc_extern Tryz.prog 314 _ (Extern.SlicesOverlaps.overlaps #[358,358] #[4]) Tryz.func314 kr kr kr kr;have hp:=hd.perm;have hnd:((b1,T1,cs1)::R).map (·.1) |>.Nodup:=(hp.map (·.1)).nodup_iff.1 hH.1
  have hne:b1≠b2:=fun e=>by
   rw [aD,iI]at hnd;exact hnd.1 (aj.2 ⟨_,h2,e.symm⟩)
  obtain⟨_,A1,hb1,_⟩:=hH.2 _ hd.mem;obtain⟨_,A2,hb2,hall2⟩:=hH.2 _ (hp.mem_iff.2 (Mc h2));have hA:A2.size≠0:=fun e=>hn (cT (by have:=hall2.length;rw [aN,e]at this;exact this.symm))
  have hsl:TSl Tryz.prog 358 414:=inferInstance;have hty:TY Tryz.prog 414 17 _ _ _:=inferInstance;refine⟨.bool false,?_,ap.2 rfl⟩;have:=h8 #[a.eval x,a.eval y] w;rw [h0,h1,wN hsl.h hty.run_size hne hb1 hb2 hA]at this;simp only [execOp,ho,resolve,Sem.run_bind,Sem.run_pure,Result.andThen_ok];have e1:a.eval (.func 314) = .func (.func 314) #[] #[]:=rfl;simp only [e1,Deferred.ofValue,Sem.run_pure,Result.andThen_ok,invoke,iH,aD,iz,lF,nN,h0,h1,this]
end
theorem Mf {α:Type}{A B tl ds:List α}{a s k:Nat}(hA:A.length=a) (hB:B.length=k) (hs:s≤k+tl.length) :
  ((A++B++tl).take (a+s)++((A++B++tl).drop a).take k++(A++B++tl).drop (a+s+k)).take a++ds++((A++B++tl).take (a+s)++((A++B++tl).drop a).take k++(A++B++tl).drop (a+s+k)).drop (a+s)=A++ds++B++tl.drop s:=by
 have e1:(A++B++tl).drop a=B++tl:=by rw [ax,←hA,sS]
 have e2:(B++tl).take k=B:=by rw [←hB,List.take_left]
 have e3:(A++B++tl).drop (a+s+k)=tl.drop s:=by
  rw [show a+s+k=(A++B).length+s by rw [ac];omega,←jP,sS]
 have e4:((A++B++tl).take (a+s)).length=a+s:=by rw [aC,ac,ac];omega
 have e5:((A++B++tl).take (a+s)).take a=A:=by
  rw [kV,show min a (a+s)=a by omega,ax,←hA,List.take_left]
 rw [e1,e2,e3];generalize(A++B++tl).take (a+s)=Q at *;clear e1 e2 e3;rw [ax Q,lJ om,e5,←e4,sS];simp only [ax]
abbrev frT:TypeId:=414
theorem Je (b b2 n c i c2:Nat) (cs tl ds:List SV) (hcl:cs.length=n*17) (htl:tl.length=c*17-n*17) (hds:ds.length=17) (hroom:n+1≤c) (hc:c≤10000000) (hi:i≤n) :
  PuH Tryz.prog 288 [lit (.slice (some ⟨b,0,none⟩) n c),lit (.int .i64 i),lit (.slice (some ⟨b2,0,none⟩) 1 c2)] [(b,frT,cs++tl),(b2,frT,ds)]
   (fun res H=>res=lit (.slice (some ⟨b,0,none⟩) (n+1) c)∧H=[(b,frT,cs.take (i*17)++ds++cs.drop (i*17)++tl.drop 17),(b2,frT,ds)]) noX:=by
 have hm:(n+1)*17≤c*17:=aR _ hroom;have hm2:i*17≤n*17:=aR _ hi;refine PuH.intro Tryz.func288 rfl kr fun C hC=>?_
 refine A2 ⟨?_⟩;intros;refine Wo (lh i rfl rfl rfl hi om) ?_;by_cases hin:i=n
 ·subst hin;refine A2 ⟨?_⟩;intros;refine WPL.appIn (cs:=cs) (tl:=tl) (ds:=ds) rfl rfl hcl htl hroom (.here _) (ar.2 rfl) hds ?_ rfl;refine A2 ⟨?_⟩;intros;refine ct _ _ (bJ (RV.tmp rfl) Lr) Sr ⟨rfl,?_⟩;rw [←hcl,aP,eL,bd]
 ·have hge:i*17+17≤n*17:=by omega
  have hsub:(n-i)*17=n*17-i*17:=ij ..;have hne:cs++tl≠[]:=fun e=>by have:=congrArg List.length e;rw [ac,hcl,htl]at this;simp at this;omega
  refine A2 ⟨?_⟩;intros;refine Wo (OF rfl) ?_;refine A2 ⟨?_⟩;intros;refine Wo (BF (n+1) rfl rfl om om) ?_;refine A2 ⟨?_⟩;intros;refine Wo (lh (i+1) rfl rfl om om om) ?_;refine A2 ⟨?_⟩;intros;refine Wo (Ld rfl rfl (.there _ (.here _)) (ar.2 rfl) hne) ?_;repeat(first|(refine AS ⟨?_⟩;intros)|(refine O1 ⟨?_⟩;intros))
  refine WdL 8 1 ?_;repeat(first|(refine A1 ⟨?_⟩;intros)|(refine Wo (lh (i+1) (k:=n+1) (c:=c) rfl rfl om om om) ?_)|(refine Wdo (lh (i+1) (k:=n+1) (c:=c) rfl rfl om om om) ?_)|(refine Wog (lh (i+1) (k:=n+1) (c:=c) rfl rfl om om om) ?_)|(refine fJ (lh (i+1) (k:=n+1) (c:=c) rfl rfl om om om) ?_)|(refine Wo (lh i (k:=n+1) (c:=c) rfl rfl om om om) ?_)|(refine Wdo (lh i (k:=n+1) (c:=c) rfl rfl om om om) ?_)|(refine Wog (lh i (k:=n+1) (c:=c) rfl rfl om om om) ?_)|(refine fJ (lh i (k:=n+1) (c:=c) rfl rfl om om om) ?_))
  refine dL0 ?_
  have hmin:Nat.min (n+1-i) (n+1-(i+1))*17=n*17-i*17:=by
   rw [show Nat.min (n+1-i) (n+1-(i+1))=n-i from Nat.min_eq_right om |>.trans om,hsub]
  have hlen:(cs++tl).length=c*17:=by rw [ac,hcl,htl];omega
  have hi1:(i+1)*17=i*17+17:=by omega
  refine TV (cs:=cs++tl) (ss:=cs++tl) rfl rfl cL (by rw [hmin,hlen,hi1];omega) (by rw [hmin,hlen];omega) (.here _) ?_ ?_
  ·(repeat(first|exact LOk.nil|refine Lsk ?_|refine Lcv ?_))
  refine Gn ?_ ?_
  ·(repeat(first|exact LOk.nil|refine Lsk ?_|refine Lcv ?_))
  rw [hmin,hi1];repeat(first|(refine AS ⟨?_⟩;intros)|(refine O1 ⟨?_⟩;intros))
  refine Wo (lh i (k:=n+1) (c:=c) rfl rfl om om om) ?_;refine A2 ⟨?_⟩;intros
  have hX:((cs++tl).take (i*17+17)++((cs++tl).drop (i*17)).take (n*17-i*17)++(cs++tl).drop (i*17+17+(n*17-i*17))).length=c*17:=by
   simp only [ac,aC,cO,hcl,htl];omega
  have hmin2:Nat.min 1 (n+1-i)*17=17:=by
   rw [show Nat.min 1 (n+1-i)=1 from dv om]
  refine WPL.copyB (ss:=ds) rfl rfl (by first|exact Ms|exact Mc Ms) (by rw [hmin2,hX];omega) (by rw [hmin2,hds];omega) (.here _) ?_ rfl;rw [hmin2];refine A2 ⟨?_⟩;intros;refine ct _ _ (bJ (RV.tmp rfl) Lr) Sr ⟨rfl,?_⟩;have hcs:cs=cs.take (i*17)++cs.drop (i*17):=(gO _ _).symm;have key:=Mf (A:=cs.take (i*17)) (B:=cs.drop (i*17)) (tl:=tl) (ds:=ds) (a:=i*17) (s:=17) (k:=n*17-i*17) (by rw [aC];omega) (by rw [cO];omega) om;rw [←hcs]at key;rw [show(ds.drop 0).take 17=ds by rw [bD,←hds,aP],key]
section
variable {P:Program}{F:Fr}{H:LH}{ty:TypeId}
theorem jd {x:Operand}{f:FuncId}{l:List Operand}{tys:Array TypeId}{svs:List SV}{res:SV}(hx:ev F x=lit (.func (.func f) #[] #[])) (hc:Pu P f svs res) (ha:l.map (ev F)=svs) :
  OpV P (.call ⟨.value x,l.toArray,tys⟩) ty F H res:=by
 unfold Pu at hc;refine OpV.of0 ?_;intro m w o a ho hty h1 h2 h3 K Q hK;have hargs:=qI (m:=m) (a:=a) l fun x hx=>evA h3 (by simp [Op.operands,Call.operands,hx])
 rw [ha]at hargs;have hxv:=evA (x:=x) h3 (by simp [Op.operands,Call.operands]);rw [hx,ap]at hxv;have hcall:=hc.2 m w _ h1 hargs;unfold Oper.wp
 have hrun:(execOp a.eval o).run P w = .ok (.enter f (l.map a.eval).toArray) w:=by
  simp [execOp,ho,resolve,hxv,Deferred.ofValue,invoke,i3 hc.1]
 rw [hrun];refine Calls.mono hcall ?_;rintro e w' ⟨v,m',rfl,hp,hm',hr⟩;exact hK v m' w' hp hm' hr
end
def mw (p:Nat→Bool):Nat→Nat→Nat→Nat
 |0,i,_=>i
 |f+1,i,j=>if i<j then(if p ((i+j)/2)then mw p f ((i+j)/2+1) j else mw p f i ((i+j)/2))else i
def dh (l:Li) (c:PC):Nat:=mw (fun k=>decide (wq (cM ((c.getD k (⟨0,0,0⟩,Spn.none)).1)) (cM l)<0)) (c.length+1) 0 c.length
theorem wo (p:Nat→Bool):∀(f i j n:Nat),i≤j→j≤n→mw p f i j≤n
 |0,i,j,n,h,k=>by unfold mw;omega
 |f+1,i,j,n,h,k=>by
  unfold mw;split
  ·split
   ·exact wo p f _ _ n om k
   ·exact wo p f _ _ n om om
  ·omega
theorem oI (p:Nat→Bool):∀(f g i j:Nat),j-i<f→j-i<g→mw p f i j=mw p g i j
 |0,_,_,_,h,_=>by omega
 |_,0,_,_,_,h=>by omega
 |f+1,g+1,i,j,h,k=>by
  unfold mw;split
  ·split
   ·exact oI p f g _ _ om om
   ·exact oI p f g _ _ om om
  ·rfl
abbrev Qu:Value := .func (.func 285) #[] #[]
theorem ST {c:PC}{l:Li}{L:Nat}(hc:∀s∈c,s.1.le L) (hl:l.le L) (h1:1≤L) (hU:L≤10000) (hn:c.length≤1000000) (b cap:Nat) (tl:List SV) :
  PuH Tryz.prog 284 [lit (.slice (some ⟨b,0,none⟩) c.length cap),lfl l,lit Qu] [(b,frT,(c.map fgx).flatten++tl)]
   (fun res H=>(∃fb,res=tup [lit (.int .i64 (dh l c:Nat)),lit (.bool fb)])∧H=[(b,frT,(c.map fgx).flatten++tl)]) noX:=by
 refine PuH.intro Tryz.func284 rfl kr fun C hC=>?_
 refine A2 ⟨?_⟩;intros;rename_i b4
 refine WP.loopS (ι:=Nat×Nat) (fun st=>st.1≤st.2∧st.2≤c.length∧mw (fun k=>decide (wq (cM ((c.getD k (⟨0,0,0⟩,Spn.none)).1)) (cM l)<0)) (c.length+1) st.1 st.2=dh l c) (fun st=>st.2-st.1)
  (fun st=>fm [(0,lit (.slice (some ⟨b,0,none⟩) c.length cap)),(2,lit Qu),(4,lit (.pointer (some ⟨b4,0,none⟩))),(8,lit (.int .i64 c.length)),(9,lit (.int .i64 st.1)),(10,lit (.int .i64 st.2))])
  (fun _=>[(b4,128,lfc l.a l.b l.c),(b,frT,(c.map fgx).flatten++tl)]) (0,c.length) ⟨an _,au _,rfl⟩ lfA Sr ?_
 rintro ⟨i,j⟩ ⟨hij,hj,hb⟩ K hK;simp only at hij hj hb⊢;by_cases hlt:i<j
 ·have hh:IntKind.i64.wrap (((i:Int)+(j:Int)).fdiv (2^min (Int.toNat 1) IntKind.u64.bits))=(((i+j)/2:Nat):Int):=by
   show IntKind.i64.wrap (((i:Int)+(j:Int)).fdiv 2)=_
   rw [xH _ om];simp only [IntKind.wrap,IntKind.bits,IntKind.signed,aX];have h1:¬(9223372036854775808:Int)≤((i:Int)+j)/2%18446744073709551616:=by omega
   simp [h1];omega
  obtain⟨s,hget,hmem,hat,hne⟩:=elt mc om (show(i+j)/2<c.length by omega)
  have hat2:(((c.map fgx).flatten++tl).drop (0+(i+j)/2*17)).take 17=fgx s:=by
   have hfl:=fP mc c;have hle:(i+j)/2*17+17≤c.length*17:=by omega
   rw [aB,xw om,lJ (by rw [cO];omega)];exact hat
  have hgd:c.getD ((i+j)/2) (⟨0,0,0⟩,Spn.none)=s:=by rw [cR,hget];rfl
  have d1:=Ei (hc s hmem) hl h1 hU;unfold mw at hb;rw [if_pos hlt]at hb;simp only [hgd]at hb;by_cases hz:wq (cM s.1) (cM l)<0
  ·rw [if_pos (a9 hz),oI _ _ (c.length+1) _ _ om om]at hb;have hgo:=fun F' H'=>hK F' H' ((i+j)/2+1,j) ⟨by simp only;omega,hj,hb⟩ (by simp only;omega)
   clear hK hb hat hgd hc hl;generalize wq (cM s.1) (cM l)=z at *;refine A2 ⟨?_⟩;intros;rw [hh];generalize hq:(i+j)/2=q at *
   have hh2:(IntKind.i64.wrap (((i:Int)+(j:Int)).fdiv (2^min 1 IntKind.u64.bits))).toNat=q:=by
    have e:IntKind.i64.wrap (((i:Int)+(j:Int)).fdiv (2^min 1 IntKind.u64.bits))=(q:Int):=hh;rw [e,dN]
   clear hh;refine Wdo (jS (cs':=fgx s) rfl (Mc Ms) (by rw [hh2,←aB (q*17)];exact hat2) rfl) ?_;repeat(first|(refine A1 ⟨?_⟩;intros)|(refine Wo (jd rfl d1 rfl) ?_)|(refine Wdo (jd rfl d1 rfl) ?_)|(refine Wog (jd rfl d1 rfl) ?_)|(refine fJ (jd rfl d1 rfl) ?_))
   exact hgo _ _ lfA Sr
  ·rw [if_neg (by simpa using hz),oI _ _ (c.length+1) _ _ om om]at hb;have hgo:=fun F' H'=>hK F' H' (i,(i+j)/2) ⟨by simp only;omega,by simp only;omega,hb⟩ (by simp only;omega)
   clear hK hb hat hgd hc hl;generalize wq (cM s.1) (cM l)=z at *;refine A2 ⟨?_⟩;intros;rw [hh];generalize hq:(i+j)/2=q at *
   have hh2:(IntKind.i64.wrap (((i:Int)+(j:Int)).fdiv (2^min 1 IntKind.u64.bits))).toNat=q:=by
    have e:IntKind.i64.wrap (((i:Int)+(j:Int)).fdiv (2^min 1 IntKind.u64.bits))=(q:Int):=hh;rw [e,dN]
   clear hh;refine Wdo (jS (cs':=fgx s) rfl (Mc Ms) (by rw [hh2,←aB (q*17)];exact hat2) rfl) ?_;repeat(first|(refine A1 ⟨?_⟩;intros)|(refine Wo (jd rfl d1 rfl) ?_)|(refine Wdo (jd rfl d1 rfl) ?_)|(refine Wog (jd rfl d1 rfl) ?_)|(refine fJ (jd rfl d1 rfl) ?_))
   exact hgo _ _ lfA Sr
 ·have hbi:i=dh l c:=by
   unfold mw at hb;rw [if_neg hlt]at hb;exact hb
  rw [←hbi];clear hb hK hbi;by_cases hin:i<c.length
  ·obtain⟨s,hget,hmem,hat,hne⟩:=elt mc om hin
   have hat2:(((c.map fgx).flatten++tl).drop (0+i*17)).take 17=fgx s:=by
    have hfl:=fP mc c;have hle:i*17+17≤c.length*17:=by omega
    rw [aB,xw om,lJ (by rw [cO];omega)];exact hat
   have d1:=Ei (hc s hmem) hl h1 hU;clear hc hl hat;generalize wq (cM s.1) (cM l)=z at *;repeat(first|(refine A1 ⟨?_⟩;intros)|(refine Wo (jS (cs':=fgx s) rfl (Mc Ms) hat2 rfl) ?_)|(refine Wdo (jS (cs':=fgx s) rfl (Mc Ms) hat2 rfl) ?_)|(refine Wog (jS (cs':=fgx s) rfl (Mc Ms) hat2 rfl) ?_)|(refine fJ (jS (cs':=fgx s) rfl (Mc Ms) hat2 rfl) ?_)|(refine Wo (jd rfl d1 rfl) ?_)|(refine Wdo (jd rfl d1 rfl) ?_)|(refine Wog (jd rfl d1 rfl) ?_)|(refine fJ (jd rfl d1 rfl) ?_))
   exact ct _ _ (eJ (RV.tmp rfl) (RV.tmp rfl) Lr) (Sc Sr) ⟨⟨_,rfl⟩,rfl⟩
  ·clear hc hl;refine A2 ⟨?_⟩;intros;exact ct _ _ (eJ (RV.tmp rfl) (RV.tmp rfl) Lr) (Sc Sr) ⟨⟨_,rfl⟩,rfl⟩
theorem N5 (l:Li) (c:PC):dh l c≤c.length:=wo _ _ _ _ _ (an _) (au _)
end Go.Ab
