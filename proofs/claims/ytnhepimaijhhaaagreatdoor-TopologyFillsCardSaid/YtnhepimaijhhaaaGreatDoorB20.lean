/- Texts laid one behind the other: GmC, PPart, PAng, Cpy, PIns. -/
import Derived.Test.YtnhepimaijhhaaaGreatDoorB19
import Derived.Laws.CopyRow
import Derived.Lib.Overlaps
import Derived.Laws.MakeOwn
set_option linter.all false
set_option maxHeartbeats 16000000
namespace Go.Ab
open Go.Proofs
variable [Base]
theorem DB {out:List Rat}{s:Spn}{y:Rat}(h:y∈iD out s):y∈out∨(s.nl=false∧y=s.lo)∨(s.nh=false∧y=s.hi):=by
 unfold iD at h
 have h1:∀{y},y∈(if s.nl then out else gO rlt out s.lo)→y∈out∨(s.nl=false∧y=s.lo):=fun {y} hy=>by
  split at hy
  ·exact .inl hy
  ·rename_i hn;rcases kh.1 hy with e|e
   ·exact .inr ⟨by simpa using hn,e⟩
   ·exact .inl e
 simp only at h;split at h
 ·rcases h1 h with e|e
  ·exact .inl e
  ·exact .inr (.inl e)
 ·rename_i hn;rcases kh.1 h with e|e
  ·exact .inr (.inr ⟨by simpa using hn,e⟩)
  ·rcases h1 e with e|e
   ·exact .inl e
   ·exact .inr (.inl e)
theorem vB:∀(l:List Spn) (out:List Rat) (y:Rat),y∈l.foldl iD out→y∈out∨∃s∈l,(s.nl=false∧y=s.lo)∨(s.nh=false∧y=s.hi)
 | [],out,y,h => .inl h
 |s::l,out,y,h=>by
  rcases vB l _ y h with h|⟨s',h1,h2⟩
  ·rcases DB h with h|h
   ·exact .inl h
   ·exact .inr ⟨s,Ms,h⟩
  ·exact .inr ⟨s',Mc h1,h2⟩
theorem GR {l:List Spn}{y:Rat}(h:y∈cU l):∃s∈l,(s.nl=false∧y=s.lo)∨(s.nh=false∧y=s.hi):=by
 rcases vB l [] y h with h|h
 ·cases h
 ·exact h
theorem DC (out:List Rat) (s:Spn):(iD out s).length≤out.length+2:=by
 have h1:=kj rlt out s.lo;unfold iD;simp only;split
 ·split <;> omega
 ·split
  ·have:=kj rlt out s.hi;omega
  ·have:=kj rlt (gO rlt out s.lo) s.hi;omega
theorem vC:∀(l:List Spn) (out:List Rat),(l.foldl iD out).length≤out.length+2*l.length
 | [],out=>by simp
 |s::l,out=>by
  have:=vC l (iD out s);have:=DC out s;rw [List.foldl_cons,List.length_cons];omega
theorem yV (l:List Spn):(cU l).length≤2*l.length:=by
 have:=vC l [];unfold cU;simpa using this
theorem C5 {l:List Spn}{n:Nat}(h:∀s∈l,s.le n):∀y∈cU l,ht y≤n:=fun y hy=>by
 obtain⟨s,hs,⟨_,rfl⟩|⟨_,rfl⟩⟩:=GR hy
 ·exact(h s hs).1
 ·exact(h s hs).2
theorem kH (c:List Rat):(ed c).length=c.length+1:=by
 cases c with
 |nil=>rfl
 |cons a c=>unfold ed;simp
theorem wz (x y:Rat){n:Nat}(h:ht x≤n) (k:ht y≤n):ht (iQ x y)≤2*n+4:=by
 have h1:=dp x y;have h2:ht (2:Rat)≤1:=oQ 2 om;have h3:=kQ (x+y) 2;unfold iQ;omega
theorem E3 {α β γ:Type}{f:α→β→γ}:∀{a:List α}{b:List β}{y:γ},y∈List.zipWith f a b→∃p∈a,∃q∈b,y=f p q
 | [],b,y,h=>by simp at h
 |_::_,[],y,h=>by simp at h
 |p::a,q::b,y,h=>by
  rw [List.zipWith_cons_cons,List.mem_cons]at h;rcases h with h|h
  ·exact⟨p,Ms,q,Ms,h⟩
  ·obtain⟨p',h1,q',h2,h3⟩:=E3 h;exact⟨p',Mc h1,q',Mc h2,h3⟩
theorem CP {c:List Rat}{n:Nat}(h:∀y∈c,ht y≤n):∀y∈ed c,ht y≤2*n+4:=by
 have h1:=gP;have h0:=gZ;cases c with
 |nil=>intro y hy;simp only [ed,List.mem_singleton]at hy;rw [hy];omega
 |cons a c =>
  intro y hy;unfold ed at hy;simp only [List.mem_cons,List.mem_append,List.mem_singleton,List.not_mem_nil,or_false]at hy;rcases hy with hy|hy|hy
  ·have:=h a Ms;have:=ef a 1;rw [hy];omega
  ·obtain⟨p,hp,q,hq,rfl⟩:=E3 hy;exact wz p q (h p hp) (h q (Mc hq))
  ·have hg:(a::c).getLast (by simp)∈a::c:=List.getLast_mem _;have:=h _ hg;have:=dp ((a::c).getLast (by simp)) 1;rw [hy];omega
def Mj (c:List Rat) (s:Spn):Prop:=(s.lo=0∨s.lo∈c)∧(s.hi=0∨s.hi∈c)
theorem wR (c:List Rat) (marks:List Bool) (out:List Spn) (i:Nat):(dz c marks out i).length≤out.length+1:=by
 unfold dz;split
 ·omega
 ·split
  ·rw [List.length_set];omega
  ·rw [List.length_append,List.length_singleton];omega
theorem Mj.le {c:List Rat}{s:Spn}{n:Nat}(h:Mj c s) (hn:1≤n) (hc:∀y∈c,ht y≤n):s.le n:=by
 have h0:=gZ;constructor
 ·rcases h.1 with e|e
  ·rw [e];omega
  ·exact hc _ e
 ·rcases h.2 with e|e
  ·rw [e];omega
  ·exact hc _ e
abbrev fgx (f:Fg):List SV:=[lit (.int .i64 (r0 f.1.a)),lit (.int .i64 (r1 f.1.a)),r2 f.1.a,lit (.int .i64 (r0 f.1.b)),lit (.int .i64 (r1 f.1.b)),r2 f.1.b,lit (.int .i64 (r0 f.1.c)),lit (.int .i64 (r1 f.1.c)),r2 f.1.c,
 lit (.int .i64 (r0 f.2.lo)),lit (.int .i64 (r1 f.2.lo)),r2 f.2.lo,lit (.int .i64 (r0 f.2.hi)),lit (.int .i64 (r1 f.2.hi)),r2 f.2.hi,lit (.bool f.2.nl),lit (.bool f.2.nh)]
theorem f8 (f:Fg):(fgx f).length=17:=rfl
abbrev pcs (c:PC):SV:=sl (c.map fgx).flatten c.length
abbrev Spn.none:Spn:=⟨0,0,false,false⟩
theorem BZ {n:Nat}(h:1≤n):Spn.full.le n:=by have:=ij;exact⟨by show ht (0:Rat)≤n;omega,by show ht (0:Rat)≤n;omega⟩
theorem qp {l:Li}{v:Spn}{s:Fg}{c:PC}:gJ l v (s::c)=if(lg l v s.1).2 then gJ l (lg l v s.1).1 c else Option.none:=by
 rw [show gJ l v (s::c)=(match ej l v s.1 with|some w=>gJ l w c|Option.none=>Option.none)from rfl,AL];cases(lg l v s.1).2 <;> simp
theorem z9 {c:PC}{l:Li}{L:Nat}(hc:∀s∈c,s.1.le L) (hl:l.le L) (h1:1≤L) (hU:L≤1000) (hn:c.length≤1000000) :
  Pu Tryz.prog 205 [pcs c,lfl l] (Ab.tup [iv ((iC c l).getD Spn.none),lit (.bool (iC c l).isSome)]):=by
 have c0:=Gh;have e0:r0 (0:Rat)=0:=by decide +kernel
 have e1:r1 (0:Rat)=0:=by decide +kernel
 have e2:r2 (0:Rat)=lit (.pointer none):=if_pos (by decide +kernel);refine Pi Tryz.func205 fun C=>?_
 repeat(first|(refine A1 ⟨?_⟩;intros)|refine W4 c0 ⟨?_⟩)
 rename_i b3 b4 b6
 refine WP.loopS (ι:=Nat×Spn) (fun st=>st.1≤c.length∧st.2.le (50*L)∧gJ l st.2 (c.drop st.1)=iC c l) (fun st=>c.length-st.1)
  (fun st=>fm [(3,lit (.pointer (some ⟨b3,0,none⟩))),(4,lit (.pointer (some ⟨b4,0,none⟩))),(6,lit (.pointer (some ⟨b6,0,none⟩))),(11,pcs c),(12,lit (.int .i64 c.length)),(13,lit (.int .i64 st.1))])
  (fun st=>[(b6,195,ivx st.2),(b4,195,z8),(b3,138,lfc l.a l.b l.c)]) (0,Spn.full) ⟨Nat.zero_le _,BZ om,by rw [List.drop_zero];rfl⟩ lfA Sr ?_
 rintro ⟨k,v⟩ ⟨hk,hv,hp⟩ K hK;simp only at hk hv hp⊢;by_cases hkl:k<c.length
 ·obtain⟨s,hget,hmem,hat,hne⟩:=elt f8 om hkl;have hdr:=f9 hget;rw [hdr,qp]at hp;have c1:=BM hl (hc s hmem) h1 hU hv;have hle:=wX hl (hc s hmem) h1 hv;cases hb:(lg l v s.1).2 with
  |true =>
   rw [hb,if_pos rfl]at hp;rw [hb]at c1;have hgo:=fun F' H'=>hK F' H' (k+1,(lg l v s.1).1) ⟨om,hle,hp⟩ (by simp only;omega)
   clear hK hp hv hle hdr hb hc hl c0;generalize(lg l v s.1).1=w at *;repeat(refine A1 ⟨?_⟩;intros)
   refine Wo (a7 (cs':=fgx s) rfl rfl om om hat hne) ?_;repeat(first|(refine A1 ⟨?_⟩;intros)|(refine Wo (bJ rfl rfl kr rfl) ?_)|(refine Wdo (bJ rfl rfl kr rfl) ?_)|refine W4 c1 ⟨?_⟩)
   exact hgo _ _ lfA (Sc Sr)
  |false =>
   rw [hb,if_neg (by decide)]at hp;rw [hb]at c1;rw [←hp];clear hK hp hv hle hdr hb hc hl c0;generalize(lg l v s.1).1=w at *;unfold Option.getD iv ivx;simp only [Option.isSome_none];rw [e0,e1,e2];repeat(refine A1 ⟨?_⟩;intros)
   refine Wo (a7 (cs':=fgx s) rfl rfl om om hat hne) ?_;repeat(first|(refine A1 ⟨?_⟩;intros)|(refine Wo (bJ rfl rfl kr rfl) ?_)|(refine Wdo (bJ rfl rfl kr rfl) ?_)|refine W4 c1 ⟨?_⟩)
   exact G3
 ·have hke:k=c.length:=by omega
  subst hke;rw [List.drop_length]at hp;rw [←hp];clear hK hp hc hl;repeat(refine A1 ⟨?_⟩;intros)
  exact G3
def or3 (a b c:Int):Int:=if a≠0 then a else if b≠0 then b else c
theorem L4 (a b c:Int):Pu Tryz.prog 239 [sl [lit (.int .i64 a),lit (.int .i64 b),lit (.int .i64 c)] 3] (lit (.int .i64 (or3 a b c))):=by
 have key:∀(i:Nat) (v:Int),[a,b,c][i]? = some v→(([lit (.int .i64 a),lit (.int .i64 b),lit (.int .i64 c)]:List SV).drop (i*1)).take 1=[lit (.int .i64 v)]:=fun i v h=>by
  match i,h with
  |0,h=>cases h;rfl
  |1,h=>cases h;rfl
  |2,h=>cases h;rfl
 unfold or3;refine Pi Tryz.func239 fun C=>?_
 repeat(refine A1 ⟨?_⟩;intros)
 refine WP.unroll 4 ?_;refine WPR.succ ?_;repeat(refine A1 ⟨?_⟩;intros)
 refine Wo (a7 (cs':=[lit (.int .i64 a)]) rfl rfl om om (key 0 a rfl) (by intro h;cases h)) ?_;by_cases ha:a=0
 ·rw [if_neg (fun h=>h ha)];repeat(refine A1 ⟨?_⟩;intros)
  refine Wo (a7 (cs':=[lit (.int .i64 b)]) rfl rfl om om (key 1 b rfl) (by intro h;cases h)) ?_;by_cases hb:b=0
  ·rw [if_neg (fun h=>h hb)];repeat(refine A1 ⟨?_⟩;intros)
   refine Wo (a7 (cs':=[lit (.int .i64 c)]) rfl rfl om om (key 2 c rfl) (by intro h;cases h)) ?_;by_cases hc:c=0
   ·subst hc;exact Z1
   ·exact Z1
  ·rw [if_pos hb];exact Z1
 ·rw [if_pos ha];exact Z1
theorem Jt (a b:Int):((a:Rat)-(b:Rat)).num.sign=(a + -b).sign:=by
 have:(a:Rat)-(b:Rat)=((a + -b:Int):Rat):=by rw [Rat.intCast_add,Rat.intCast_neg];grind
 rw [this,Rat.num_intCast]
theorem JP (l m:Li):im l m=or3 (l.a + -m.a).sign (l.b + -m.b).sign (l.c + -m.c).sign:=rfl
theorem Jp {l m:Li}{L:Nat}(hl:l.le L) (hm:m.le L) (h1:1≤L) (hU:L≤10000):Pu Tryz.prog 214 [lfl l,lfl m] (lit (.int .i64 (im l m))):=by
 obtain⟨a1,a2,a3⟩:=hl.hts h1;obtain⟨b1,b2,b3⟩:=hm.hts h1;have c1:=kS (l.a:Rat) m.a om om;have c2:=kS (l.b:Rat) m.b om om;have c3:=kS (l.c:Rat) m.c om om;rw [Jt]at c1 c2 c3;have c4:=L4 (l.a + -m.a).sign (l.b + -m.b).sign (l.c + -m.c).sign;rw [JP];clear a1 a2 a3 b1 b2 b3;generalize(l.a + -m.a).sign=x at *;generalize(l.b + -m.b).sign=y at *;generalize(l.c + -m.c).sign=z at *;generalize or3 x y z=r at *;refine Pi Tryz.func214 fun C=>?_
 repeat(first|(refine Wo (aX (r:=[(0,[lit (.int .i64 x)]),(1,[lit (.int .i64 y)]),(2,[lit (.int .i64 z)])]) (dC.cons (sv:=lit (.int .i64 x)) rfl inferInstance (dC.cons (sv:=lit (.int .i64 y)) rfl inferInstance (dC.cons (sv:=lit (.int .i64 z)) rfl inferInstance dC.nil)))) ?_)|(refine Wdo (aX (r:=[(0,[lit (.int .i64 x)]),(1,[lit (.int .i64 y)]),(2,[lit (.int .i64 z)])]) (dC.cons (sv:=lit (.int .i64 x)) rfl inferInstance (dC.cons (sv:=lit (.int .i64 y)) rfl inferInstance (dC.cons (sv:=lit (.int .i64 z)) rfl inferInstance dC.nil)))) ?_)|(refine A1 ⟨?_⟩;intros)|refine W4 c1 ⟨?_⟩|refine W4 c2 ⟨?_⟩|refine W4 c3 ⟨?_⟩|refine W4 c4 ⟨?_⟩)
 exact E1
theorem pM {l m:Li}{L:Nat}(hl:l.le L) (hm:m.le L) (h1:1≤L) (hU:L≤10000):Pu Tryz.prog 183 [lfl l,lfl m] (lit (.bool (decide (l=m)))):=by
 have c1:=Jp hl hm h1 hU
 have e:decide (l=m)=decide (im l m=0):=by
  by_cases h:l=m
  ·rw [decide_eq_true h,decide_eq_true (el.2 h)]
  ·rw [decide_eq_false h,decide_eq_false (fun k=>h (el.1 k))]
 rw [e];generalize im l m=z at *;by_cases h:z=0
 ·rw [decide_eq_true h];refine Pi Tryz.func183 fun C=>?_
  exact Y1 c1
 ·rw [decide_eq_false h];refine Pi Tryz.func183 fun C=>?_
  exact Y1 c1
theorem zK {s:Spn}{n:Nat}(h:s.le n) (h1:1≤n):ht (aV s)≤2*n+4:=by
 obtain⟨a,b⟩:=h;have h0:=ij;have h2:=gP;have:=ef s.hi 1;have:=dp s.lo 1;have:=wz s.lo s.hi a b;unfold aV;split
 ·omega
 ·split
  ·omega
  ·split <;> omega
theorem xB (l:Li) (s:Fg) (c:PC):jB l (s::c)=if dt l (atL s.1 (aV s.2))≠0 then dt l (atL s.1 (aV s.2))else if s.1=l then 1 else jB l c:=rfl
theorem DL {c:PC}{l:Li}{L:Nat}(hc:∀s∈c,s.1.le L∧s.2.le (50*L)) (hl:l.le L) (h1:1≤L) (hU:L≤500) (hn:c.length≤1000000) :
  Pu Tryz.prog 206 [pcs c,lfl l] (lit (.int .i64 (jC c l))):=by
 have c0:=z9 (fun s hs=>(hc s hs).1) hl h1 om hn;unfold jC;generalize(iC c l).getD Spn.none=w at *;cases hp:(iC c l).isSome with
 |true =>
  rw [hp]at c0;rw [if_pos rfl];refine Pi Tryz.func206 fun C=>?_
  exact Y1 c0
 |false =>
  rw [hp]at c0;rw [if_neg (by decide)];refine Pi Tryz.func206 fun C=>?_
  repeat(first|(refine A1 ⟨?_⟩;intros)|refine W4 c0 ⟨?_⟩)
  rename_i b3 b5
  refine WP.loopS (ι:=Nat) (fun k=>k≤c.length∧jB l (c.drop k)=jB l c) (fun k=>c.length-k)
   (fun k=>fm [(3,lit (.pointer (some ⟨b3,0,none⟩))),(17,pcs c),(18,lit (.int .i64 c.length)),(19,lit (.int .i64 k))])
   (fun _=>[(b3,138,lfc l.a l.b l.c)]) 0 ⟨Nat.zero_le _,by rw [List.drop_zero]⟩ lfA (by first|exact Sr|exact Sc Sr) ?_
  rintro k ⟨hk,hs⟩ K hK;by_cases hkl:k<c.length
  ·obtain⟨s,hget,hmem,hat,hne⟩:=elt f8 om hkl;have hdr:=f9 hget;obtain⟨k1,k2⟩:=hc s hmem;rw [hdr,xB]at hs;have hsh:=zK k2 om;have d1:=yC s.2 ⟨by have:=k2.1;omega,by have:=k2.2;omega⟩;have d2:=L9 k1 h1 om (t:=aV s.2) om;obtain⟨p1,p2⟩:=JX k1 h1 hsh;have d3:=FZ hl h1 om (p:=atL s.1 (aV s.2)) ⟨om,om⟩;have d4:=pM k1 hl h1 om;clear hsh p1 p2 k1 k2 hc hl c0;generalize atL s.1 (aV s.2)=q at *;generalize aV s.2=t at *;generalize dt l q=z at *;by_cases hz:z=0
   ·rw [if_neg (fun h=>h hz)]at hs;by_cases he:s.1=l
    ·rw [if_pos he]at hs;rw [decide_eq_true he]at d4;rw [←hs];clear hK;repeat(refine A1 ⟨?_⟩;intros)
     refine Wo (a7 (cs':=fgx s) rfl rfl om om hat hne) ?_;repeat(first|(refine A1 ⟨?_⟩;intros)|(refine Wo (bJ rfl rfl kr rfl) ?_)|(refine Wdo (bJ rfl rfl kr rfl) ?_)|refine W4 d1 ⟨?_⟩|refine W4 d2 ⟨?_⟩|refine W4 d3 ⟨?_⟩|refine W4 d4 ⟨?_⟩)
     exact E1
    ·rw [if_neg he]at hs;rw [decide_eq_false he]at d4;have hgo:=fun F' H'=>hK F' H' (k+1) ⟨om,hs⟩ om
     clear hK hs;repeat(refine A1 ⟨?_⟩;intros)
     refine Wo (a7 (cs':=fgx s) rfl rfl om om hat hne) ?_;repeat(first|(refine A1 ⟨?_⟩;intros)|(refine Wo (bJ rfl rfl kr rfl) ?_)|(refine Wdo (bJ rfl rfl kr rfl) ?_)|refine W4 d1 ⟨?_⟩|refine W4 d2 ⟨?_⟩|refine W4 d3 ⟨?_⟩|refine W4 d4 ⟨?_⟩)
     exact hgo _ _ lfA (by first|exact Sr|exact Sc Sr)
   ·rw [if_pos hz]at hs;rw [←hs];clear hK;repeat(refine A1 ⟨?_⟩;intros)
    refine Wo (a7 (cs':=fgx s) rfl rfl om om hat hne) ?_;repeat(first|(refine A1 ⟨?_⟩;intros)|(refine Wo (bJ rfl rfl kr rfl) ?_)|(refine Wdo (bJ rfl rfl kr rfl) ?_)|refine W4 d1 ⟨?_⟩|refine W4 d2 ⟨?_⟩|refine W4 d3 ⟨?_⟩|refine W4 d4 ⟨?_⟩)
    exact E1
  ·have hke:k=c.length:=by omega
   subst hke;rw [List.drop_length]at hs;rw [←hs];clear hK hc hl;exact Z1
theorem xX (v:Pq) (h:hp v 1000000):Pu Tryz.prog 234 [ppq v] (lit (.int .i64 (lc v))):=by
 obtain⟨h1,h2⟩:=h;have c1:=jc v.1 om;have c2:=jc v.2 om;rw [vi];generalize v.1.num.sign=x at *;generalize v.2.num.sign=y at *;clear h1 h2;by_cases a2:0<y
 ·rw [if_neg om,if_pos (.inl a2)];refine Pi Tryz.func234 fun C=>?_
  exact Y2 c1 c2
 ·by_cases a3:y=0
  ·subst a3;by_cases a4:0<x
   ·rw [if_neg om,if_pos (.inr ⟨rfl,a4⟩)];refine Pi Tryz.func234 fun C=>?_
    exact Y2 c1 c2
   ·by_cases a5:x=0
    ·subst a5;rw [if_pos ⟨rfl,rfl⟩];refine Pi Tryz.func234 fun C=>?_
     exact Y2 c1 c2
    ·rw [if_neg om,if_neg om];refine Pi Tryz.func234 fun C=>?_
     exact Y2 c1 c2
  ·rw [if_neg om,if_neg om];refine Pi Tryz.func234 fun C=>?_
   exact Y2 c1 c2
theorem CV (u v:Pq) (h:hp u 400000) (k:hp v 400000):Pu Tryz.prog 210 [ppq u,ppq v] (lit (.int .i64 (qi u v))):=by
 have hx:=mH h k;obtain⟨h1,h2⟩:=h;obtain⟨k1,k2⟩:=k;have c1:=xX u ⟨om,om⟩;have c2:=xX v ⟨om,om⟩;have c3:=CT u.1 u.2 v.1 v.2 om om om om;have c4:=jc (dd u v) om;have hs : -1≤(dd u v).num.sign∧(dd u v).num.sign≤1:=by have:=Int.sign_trichotomy (dd u v).num;omega
 unfold qi;rw [show u.1*v.2-u.2*v.1=dd u v from rfl]at c3;generalize lc u=a at *;generalize lc v=b at *;clear h1 h2 k1 k2 hx;by_cases e:a=b
 ·rw [if_neg (fun k=>k e)];generalize(dd u v).num.sign=z at *;refine Pi Tryz.func210 fun C=>?_
  repeat(first|(refine A1 ⟨?_⟩;intros)|refine W4 c1 ⟨?_⟩|refine W4 c2 ⟨?_⟩|refine W4 c3 ⟨?_⟩|refine W4 c4 ⟨?_⟩)
  exact E1
 ·rw [if_pos e];clear hs;by_cases f:a<b
  ·rw [if_pos f];refine Pi Tryz.func210 fun C=>?_
   exact Y2 c1 c2
  ·rw [if_neg f];refine Pi Tryz.func210 fun C=>?_
   exact Y2 c1 c2
theorem zi {s:Fg}{l:Li}{L:Nat}(h:s.1.le L) (k:l.le L) (h1:1≤L) (hU:L≤10000):Pu Tryz.prog 209 [ag (fgx s),lfl l] (lit (.int .i64 (qi (aK s.1) (aK l)))):=by
 obtain⟨a1,a2,a3⟩:=h.hts h1;obtain⟨b1,b2,b3⟩:=k.hts h1;have c1:=re s.1 (h.gr om);have c2:=re l (k.gr om);have c3:=CV (aK s.1) (aK l) ⟨by show ht (s.1.b:Rat)≤_;omega,by show ht (-(s.1.a:Rat))≤_;rw [cz];omega⟩ ⟨by show ht (l.b:Rat)≤_;omega,by show ht (-(l.a:Rat))≤_;rw [cz];omega⟩;clear a1 a2 a3 b1 b2 b3;refine Pi Tryz.func209 fun C=>?_
 repeat(first|(refine A1 ⟨?_⟩;intros)|(refine Wo (bJ rfl rfl kr rfl) ?_)|(refine Wdo (bJ rfl rfl kr rfl) ?_)|refine W4 c1 ⟨?_⟩|refine W4 c2 ⟨?_⟩|refine W4 c3 ⟨?_⟩)
 exact E1
section
variable {P:Program}{C:Ctx}{n:Nat}{F:Fr}{H:LH}{ops:Array Oper}{K:Fr→LH→Prop}{rest:List Oper}{ty:TypeId}{pos:String}{aft:Array Edge}
theorem gh {T e:TypeId}{sz by_:Nat}{z:List SV}{g:Bool} [hS:TSl P T e] [hT:TY P e sz by_ z g]{x y:Operand}{b k c:Nat}{v:Int}(j:Nat) (hx:ev F x=lit (.slice (some ⟨b,0,none⟩) k c)) (hy:ev F y=lit (.int .i64 v)) (hv:v=(j:Int)) (hj:j≤k) (hc:j<c) :
  OpV P (.slice T x (some y) none none) ty F H (lit (.slice (some ⟨b,j*sz,none⟩) (k-j) (c-j))) :=
 OpV.pure fun m w o a ho _ _ _ h=>by
  have e0:=h x (by simp [Op.operands]);rw [hx,ae]at e0;have e1:=h y (by simp [Op.operands]);rw [hy,ae]at e1;subst hv
  have hb:(Instr.sliceBounds true k c (some (a.eval y)) none none).run P w = .ok (j,k,c) w:=by
   simp [Instr.sliceBounds,iU j k _ e1 hj]
  refine⟨.slice (some ⟨b,j*sz,none⟩) (k-j) (c-j),?_,ae.2 rfl⟩;have hne:¬c=j:=by omega
  simp [execOp,ho,Instr.sliceAt,Instr.slice,underlying,hS.h,e0,hb,hT.run_size,aM,hne]
theorem tW {w:World}{dT sT ty elem:TypeId}{g o dLen dCap sz:Nat}{a:Addr}{sLen sCap:Nat}{cur:Array Value}{t:TypeId}{cs:List Value}
  (hu:P.underlying dT=some (.slice elem)) (hs:∀w,(Go.sizeOf elem).run P w = .ok sz w)
  (hg:w.heap[g]? = some (.cells cur t (0,0))) (hn:cs.length=Nat.min sLen dLen*sz)
  (hsrc:∀j v,cs[j]? = some v→w.cell? (a.add j)=some v) (hfit:o+cs.length≤cur.size) (h1:∀v∈cs,v.oneCell'=true) :
  (Builtin.copy_ #[dT,sT] ty #[.slice (some ⟨g,o,none⟩) dLen dCap, .slice (some a) sLen sCap]).run P w =
   .ok (goInt (Nat.min sLen dLen)) (w.setRow g (cur.toList.take o++cs++cur.toList.drop (o+cs.length)).toArray):=by
 have hl:=run_loadCells_list (P:=P) w a cs hsrc;have hst:=run_storeCells_at P g o t cs 0 cur w hg (by simpa using hfit) h1;simp [Builtin.copy_,run_underlying hu,Builtin.lenOf,Builtin.firstCells,hs,←hn,hl,hst]
theorem pB {w:World}{t t4 ty e:TypeId}{i:TypeInfo}(ht:P.underlying t=some (.slice e)) (ht4:P.underlying t4=some (.slice e)) (hi:P.info? e=some i)
  {g sLen sCap:Nat}{cur:Array Value}(hg:w.heap[g]? = some (.cells cur e (0,0)))
  {a:Addr}{m c:Nat}{news:List Value}(hl:news.length=m*i.size) (hnews:∀j u,news[j]? = some u→w.cell? (a.add j)=some u) (h1:∀u∈news,u.oneCell'=true)
  (hroom:sLen+m≤sCap) (hfit:sLen*i.size+news.length≤cur.size) :
  (Builtin.append_ #[t,t4] ty #[.slice (some ⟨g,0,none⟩) sLen sCap, .slice (some a) m c]).run P w =
   .ok (.slice (some ⟨g,0,none⟩) (sLen+m) sCap) (w.setRow g (cur.toList.take (sLen*i.size)++news++cur.toList.drop (sLen*i.size+news.length)).toArray):=by
 have hf:=run_firstCells_some (P:=P) w i.size m a m c news hl hnews;have hst:=run_storeCells_at P g (sLen*i.size) e news 0 cur w hg (by simpa using hfit) h1;simp only [Nat.add_zero]at hst;simp [Builtin.append_,run_underlying ht,run_underlying ht4,sizeOf,typeInfo,hi,Builtin.lenOf,hroom,hf,Addr.add_lit,hst]
theorem WPL.copyB {d:Nat}{x y:Operand}{T sT e T' T3:TypeId}{sz by_:Nat}{z:List SV}{g:Bool} [hS:TSl P T e] [hT:TY P e sz by_ z g]{b b3 o1 o2 n1 n2 c1 c2:Nat}{cs ss:List SV}{H':LH}
  (hx:ev F x=lit (.slice (some ⟨b,o1,none⟩) n1 c1)) (hy:ev F y=lit (.slice (some ⟨b3,o2,none⟩) n2 c2)) (h3:(b3,T3,ss)∈H)
  (hfit:o1+Nat.min n2 n1*sz≤cs.length) (hsrc:o2+Nat.min n2 n1*sz≤ss.length)
  (hup:au b T' cs (cs.take o1++(ss.drop o2).take (Nat.min n2 n1*sz)++cs.drop (o1+Nat.min n2 n1*sz)) H H')
  (k:WPL P C n ops rest K (upd F d (lit (.int .i64 (Nat.min n2 n1:Nat)))) H') (hd:Nat.blt d n=true) :
  WPL P C n ops (⟨some d, .call ⟨.builtin .copy,#[x,y],#[T,sT]⟩,ty,pos,aft,none⟩::rest) K F H:=by
 unfold WPL;intro a w hs Q hq;refine wpList_plain rfl fun K' hK'=>?_
 obtain⟨hdef,hn,m,h1,h2,h30,h4,h5⟩:=hs
 have hpp:∀x,(ev F x).p m (a.eval x):=fun x=>by
  cases x with
  |tmp t=>exact h5 t
  |const v=>unfold ev lit;rfl
  |global g=>unfold ev lit;rfl
  |func f=>unfold ev lit;rfl
 have e0:=hpp x;rw [hx,ae]at e0;have e1:=hpp y;rw [hy,ae]at e1;obtain⟨hmb,arr,hb,hall⟩:=h2.2 _ hup.mem;obtain⟨_,arr3,hb3,hall3⟩:=h2.2 _ h3;have hlen:=hall.length;have hlen3:=hall3.length;simp only [Array.length_toList]at hlen hlen3
 have hcl:((arr3.toList.drop o2).take (Nat.min n2 n1*sz)).length=Nat.min n2 n1*sz:=by
  rw [List.length_take,List.length_drop,Array.length_toList];omega
 have hsr:∀j u,((arr3.toList.drop o2).take (Nat.min n2 n1*sz))[j]? = some u→w.cell? ((⟨b3,o2,none⟩:Addr).add j)=some u:=fun j u hj=>by
  rw [aM,cF w b3 _ arr3 _ _ hb3];rw [List.getElem?_take]at hj;split at hj
  ·rw [List.getElem?_drop]at hj;simpa using hj
  ·cases hj
 have hrun:=tW (P:=P) (w:=w) (dT:=T) (sT:=sT) (ty:=ty) (elem:=e) (g:=b) (o:=o1) (dLen:=n1) (dCap:=c1) (sz:=sz) (a:=⟨b3,o2,none⟩) (sLen:=n2) (sCap:=c2) hS.h hT.run_size hb hcl hsr (by rw [hcl];omega)
  (fun v hv=>hall3.flat v (List.mem_of_mem_drop (List.mem_of_mem_take hv)))
 unfold Oper.wp
 have hexec:execOp a.eval (⟨some d, .call ⟨.builtin .copy,#[x,y],#[T,sT]⟩,ty,pos,aft,none⟩:Oper)=(do let v←Builtin.copy_ #[T,sT] ty #[a.eval x,a.eval y];pure (.value v)):=by
  simp [execOp,resolve,invoke,builtin]
 rw [hexec,e0,e1];simp only [Sem.run_bind,hrun,Result.andThen_ok,Sem.run_pure];rw [hcl]
 obtain⟨q1,q2,q3,q4⟩:=iX (w':=w.setRow b (arr.toList.take o1++(arr3.toList.drop o2).take (Nat.min n2 n1*sz)++arr.toList.drop (o1+Nat.min n2 n1*sz)).toArray) h1 h2 h30 h4 hup (setRow_heap w b arr _ _ _ hb) (fun j hj=>setRow_other w b j _ hj) rfl rfl rfl (by simp)
  (by simpa using ((hall.take o1).append ((hall3.drop o2).take _)).append (hall.drop _))
 unfold WPL at k;refine hK' _ _ (k (a.put (some d) (.int .i64 (Nat.min n2 n1:Nat))) _ ⟨hdef,by simpa [Act.put] using hn,m,q1,q2,q3,q4,fun t=>?_⟩ Q hq);rw [fD (Nat.lt_of_lt_of_le (Nat.blt_eq.mp hd) hn)];unfold Ab.upd;by_cases ht:t=d
 ·subst ht;rw [if_pos rfl,Nat.beq_refl];exact ae.2 rfl
 ·rw [if_neg ht]
  have:Nat.beq t d=false:=by
   cases hbb:Nat.beq t d with
   |false=>rfl
   |true=>exact absurd (Nat.eq_of_beq_eq_true hbb) ht
  rw [this];exact h5 t
theorem WPL.appIn {T T4 e:TypeId}{sz by_:Nat}{z:List SV}{g:Bool} [hS:TSl P T e] [hS4:TSl P T4 e] [hT:TY P e sz by_ z g]{d:Nat}{x y:Operand}{n0 b b2 c c2:Nat}{T':TypeId}{cs ds tl:List SV}{Rs:LH}
  (hx:ev F x=lit (.slice (some ⟨b,0,none⟩) n0 c)) (hy:ev F y=lit (.slice (some ⟨b2,0,none⟩) 1 c2)) (hcl:cs.length=n0*sz) (htl:tl.length=c*sz-n0*sz) (hroom:n0+1≤c) (hdl:ac b e (cs++tl) H Rs) (hm:(b2,T',ds)∈Rs) (hds:ds.length=sz)
  (k:WPL P C n ops rest K (upd F d (lit (.slice (some ⟨b,0,none⟩) (n0+1) c))) ((b,e,(cs++ds)++tl.drop sz)::Rs)) (hd:Nat.blt d n=true) :
  WPL P C n ops (⟨some d, .call ⟨.builtin .append,#[x,y],#[T,T4]⟩,ty,pos,aft,none⟩::rest) K F H:=by
 unfold WPL;intro a w hs0 Q hq;have hs:=hs0.perm hdl.perm;refine wpList_plain rfl fun K' hK'=>?_
 obtain⟨hdef,hn,m0,h10,h20,h30,h40,h50⟩:=id hs
 have hp0:∀x,(ev F x).p m0 (a.eval x):=fun x=>by
  cases x with
  |tmp t=>exact h50 t
  |const v=>unfold ev lit;rfl
  |global g=>unfold ev lit;rfl
  |func f=>unfold ev lit;rfl
 have e0:=hp0 x;rw [hx,ae]at e0;have e1:=hp0 y;rw [hy,ae]at e1;obtain⟨_,arr2,hb2,hall2⟩:=h20.2 _ (Mc hm);obtain⟨i,v,hi,hsz,hbyt,hz,hzl,hfl,hvs⟩:=hT.run_bytes;have hlen2:=hall2.length;simp only [Array.length_toList]at hlen2
 have hys:∀j u,arr2.toList[j]? = some u→w.cell? ((⟨b2,0,none⟩:Addr).add j)=some u:=fun j u hj=>by
  rw [aM,cF w b2 _ arr2 _ _ hb2];simpa using hj
 have hexec:execOp a.eval (⟨some d, .call ⟨.builtin .append,#[x,y],#[T,T4]⟩,ty,pos,aft,none⟩:Oper)=(do let v←Builtin.append_ #[T,T4] ty #[a.eval x,a.eval y];pure (.value v)):=by
  simp [execOp,resolve,invoke,builtin]
 obtain⟨hmb,arr,hb,hall⟩:=h20.2 _ Ms;have hlen:=hall.length;simp only [List.length_append,hcl,htl,Array.length_toList]at hlen;have hm1:(n0+1)*sz≤c*sz:=Nat.mul_le_mul_right _ hroom;rw [Nat.succ_mul]at hm1;unfold Oper.wp;rw [hexec,e1,e0];have hmul:n0*sz≤c*sz:=Nat.mul_le_mul_right _ om;have hrun:=pB (P:=P) (w:=w) (t:=T) (t4:=T4) (ty:=ty) (e:=e) (i:=i) hS.h hS4.h hi (g:=b) (sLen:=n0) (sCap:=c) hb (a:=⟨b2,0,none⟩) (m:=1) (c:=c2) (news:=arr2.toList) (by rw [Array.length_toList,hlen2,hsz,hds,Nat.one_mul]) hys hall2.flat hroom (by rw [hsz,Array.length_toList,hlen2,hds];omega);simp only [Sem.run_bind,hrun,Result.andThen_ok,Sem.run_pure];unfold WPL at k
 have hfin:av m0 ((cs++ds)++tl.drop sz) (arr.toList.take (n0*i.size)++arr2.toList++arr.toList.drop (n0*i.size+arr2.toList.length)).toArray.toList:=by
  obtain⟨q1,q2⟩:=hall.split;rw [hcl]at q1 q2;rw [hsz,Array.length_toList,hlen2,hds,List.toList_toArray,←List.drop_drop];exact(q1.append hall2).append (q2.drop sz)
 obtain⟨q1,q2,q3,q4⟩:=iX (w':=w.setRow b (arr.toList.take (n0*i.size)++arr2.toList++arr.toList.drop (n0*i.size+arr2.toList.length)).toArray) h10 h20 h30 h40 (.here Rs)
  (setRow_heap w b arr _ e _ hb) (fun j hj=>setRow_other w b j _ hj) rfl rfl rfl (by simp) hfin
 refine hK' _ _ (k (a.put (some d) (.slice (some ⟨b,0,none⟩) (n0+1) c)) _ ⟨hdef,by simpa [Act.put] using hn,m0,q1,q2,q3,q4,fun t=>?_⟩ Q hq);rw [fD (Nat.lt_of_lt_of_le (Nat.blt_eq.mp hd) hn)];unfold Ab.upd;by_cases ht:t=d
 ·subst ht;rw [if_pos rfl,Nat.beq_refl];exact ae.2 rfl
 ·rw [if_neg ht]
  have:Nat.beq t d=false:=by
   cases hbb:Nat.beq t d with
   |false=>rfl
   |true=>exact absurd (Nat.eq_of_beq_eq_true hbb) ht
  rw [this];exact h50 t
theorem WPL.makeR {T e:TypeId}{sz by_:Nat}{z:List SV}{g:Bool} [hS:TSl P T e] [hT:TY P e sz by_ z g]{d:Nat}{x y:Operand}{c:Nat}{v:Int}(hx:ev F x=lit (.int .i64 0)) (hy:ev F y=lit (.int .i64 v)) (hv:v=(c:Int)) (hb:by_*c≤281474976710656) (hc:c≤1000000000) (hd:Nat.blt d n=true)
  (h:∀b,WPL P C n ops rest K (upd F d (lit (.slice (some ⟨b,0,none⟩) 0 c))) ((b,e,List.replicate (c*sz) top)::H)):WPL P C n ops (⟨some d, .makeSlice T x y,ty,pos,aft,none⟩::rest) K F H:=by
 subst hv;unfold WPL at h⊢;intro a w hs Q hq;obtain⟨i,v,hi,hsz,hbyt,hz,hzl,hfl,hvs⟩:=hT.run_bytes;obtain⟨m0,_,hp0⟩:=hs.evp;have e0:=hp0 x;rw [hx,ae]at e0;have e1:=hp0 y;rw [hy,ae]at e1;refine wpList_plain rfl fun K' hK'=>?_
 have hb':(i.bytes:Int)*(c:Int)≤281474976710656:=by
  rw [hbyt];have h2:((by_*c:Nat):Int)≤281474976710656:=by omega
  rwa [Int.natCast_mul]at h2
 have hr:=run_make (P:=P) w T e i v hS.h hi hz .i64 .i64 0 (c:Int) (Int.le_refl _) om hb' om;simp only [Int.toNat_zero,Int.toNat_natCast]at hr;unfold Oper.wp
 have hexec:execOp a.eval (⟨some d, .makeSlice T x y,ty,pos,aft,none⟩:Oper)=(do let v←Instr.makeSlice T (a.eval x) (a.eval y);pure (.value v)):=by
  simp [execOp]
 rw [hexec,e0,e1];simp only [Sem.run_bind,hr,Result.andThen_ok,Sem.run_pure];refine hK' _ _ (h _ _ _ (St.push (Nat.blt_eq.mp hd) hs fun m _=>?_) Q hq);refine av.topL (by rw [Array.length_toList,size_madeCells,hsz]) fun u hu=>?_
 simp only [madeCells,Array.toList_map,Array.toList_range,List.mem_map,List.mem_range]at hu;obtain⟨j,hj,rfl⟩:=hu;have hp:0<v.cells.size:=Nat.pos_of_ne_zero fun e=>by rw [hvs]at e;rw [hsz,e,Nat.mul_zero]at hj;omega
 have hlt:j%v.cells.size<v.cells.size:=Nat.mod_lt _ hp;rw [getElem!_pos v.cells _ hlt];exact List.all_eq_true.1 hfl _ (by simp)
theorem qE {w:World}{tS tR e:TypeId}(ht:P.underlying tS=some (.slice e)){size:Nat}(hz:∀w,(Go.sizeOf e).run P w = .ok size w)
  {b1 o1 l1 c1 b2 o2 l2 c2:Nat}{A1 A2:Array Value}{T1 T2:TypeId}(hne:b1≠b2) (h1:w.heap[b1]? = some (.cells A1 T1 (0,0))) (h2:w.heap[b2]? = some (.cells A2 T2 (0,0))) (hA:A2.size≠0) :
  (Extern.SlicesOverlaps.overlaps #[tS,tS] #[tR] #[.slice (some ⟨b1,o1,none⟩) l1 c1, .slice (some ⟨b2,o2,none⟩) l2 c2]).run P w = .ok (.bool false) w :=
 Go.Lib.run_overlaps_apart w tS tR e ht size hz ⟨b1,o1,none⟩ ⟨b2,o2,none⟩ l1 c1 l2 c2 hne T1 T2 A1.size A2.size (by simp [World.shape?,h1]) (by simp [World.shape?,h2]) hA (by simp [World.frozen?,h1]) (by simp [World.frozen?,h1])
end
section
variable {P:Program}{C:Ctx}{n:Nat}{F:Fr}{H:LH}{ops:Array Oper}{K:Fr→LH→Prop}{rest:List Oper}{ty:TypeId}{pos:String}{aft:Array Edge}
theorem IT {T e:TypeId} [hS:TSl P T e]{x:Operand}{a:Option Addr}{k c:Nat}(hx:ev F x=lit (.slice a k c)):OpV P (.call ⟨.builtin .cap,#[x],#[T]⟩) ty F H (lit (.int .i64 c)) :=
 OpV.pure fun m w o a ho _ _ _ h=>by
  have h0:=h x (by simp [Op.operands,Call.operands]);rw [hx,ae]at h0;refine⟨.int .i64 c,?_,ae.2 rfl⟩;simp [execOp,ho,resolve,invoke,builtin,h0,Builtin.cap_,goInt,underlying,hS.h]
theorem MM {k q i d:Nat}{late:List NO'}{x y:Operand}{T sT e T' T3:TypeId}{sz by_:Nat}{z:List SV}{g:Bool} [hS:TSl P T e] [hT:TY P e sz by_ z g]{b b3 o1 o2 n1 n2 c1 c2:Nat}{cs ss:List SV}{H':LH}{r:List Oper}
  (hx:ev F x=lit (.slice (some ⟨b,o1,none⟩) n1 c1)) (hy:ev F y=lit (.slice (some ⟨b3,o2,none⟩) n2 c2)) (h3:(b3,T3,ss)∈H)
  (hfit:o1+Nat.min n2 n1*sz≤cs.length) (hsrc:o2+Nat.min n2 n1*sz≤ss.length)
  (hup:au b T' cs (cs.take o1++(ss.drop o2).take (Nat.min n2 n1*sz)++cs.drop (o1+Nat.min n2 n1*sz)) H H')
  (hlok:LOk P ops k q n H F late) (h:Stg P C n ops k q late K (i+1) r (upd F d (lit (.int .i64 (Nat.min n2 n1:Nat)))) H')
  (ho:ops[i]? = some ⟨some d, .call ⟨.builtin .copy,#[x,y],#[T,sT]⟩,ty,pos,aft,none⟩:=by exact rfl) (hd:Nat.blt d n=true:=by exact rfl) :
  Stg P C n ops k q late K i (⟨some d, .call ⟨.builtin .copy,#[x,y],#[T,sT]⟩,ty,pos,aft,none⟩::r) F H:=by
 refine⟨hlok,fun s' H2=>s'=lit (.int .i64 (Nat.min n2 n1:Nat))∧H2=H',TSR.of ho rfl fun F1 hF1=>?_,?_⟩
 ·have hx1:ev F1 x=lit (.slice (some ⟨b,o1,none⟩) n1 c1):=by rw [←hx];exact(cG (by simp [Op.operands,Call.operands]) hF1)
  have hy1:ev F1 y=lit (.slice (some ⟨b3,o2,none⟩) n2 c2):=by rw [←hy];exact(cG (by simp [Op.operands,Call.operands]) hF1)
  exact WPL.copyB hx1 hy1 h3 hfit hsrc hup (WPL.nil ⟨_,⟨rfl,rfl⟩,rfl⟩) hd
 ·rintro s' H2 ⟨rfl,rfl⟩;exact h
end
section
variable {F:Fr}{H:LH}{ty:TypeId}
theorem Fv {x y:Operand}{b1 o1 l1 c1 b2 o2 l2 c2:Nat}{tys:Array TypeId}{T1 T2:TypeId}{cs1 cs2:List SV}{R:LH}(hx:ev F x=lit (.slice (some ⟨b1,o1,none⟩) l1 c1)) (hy:ev F y=lit (.slice (some ⟨b2,o2,none⟩) l2 c2)) (hd:ac b1 T1 cs1 H R) (h2:(b2,T2,cs2)∈R) (hn:cs2≠[]) :
  OpV Tryz.prog (.call ⟨.value (.func 236),[x,y].toArray,tys⟩) ty F H (lit (.bool false)) :=
 OpV.pure fun m w o a ho _ _ hH h=>by
  have h0:=h x (by simp [Op.operands,Call.operands]);rw [hx,ae]at h0;have h1:=h y (by simp [Op.operands,Call.operands]);rw [hy,ae]at h1;have h8:=@run_callFunc_extern Tryz.prog 236 _ (Extern.SlicesOverlaps.overlaps #[130,130] #[4]) Tryz.func236 kr kr kr kr;have hp:=hd.perm;have hnd:((b1,T1,cs1)::R).map (·.1) |>.Nodup:=(hp.map (·.1)).nodup_iff.1 hH.1
  have hne:b1≠b2:=fun e=>by
   rw [List.map_cons,List.nodup_cons]at hnd;exact hnd.1 (List.mem_map.2 ⟨_,h2,e.symm⟩)
  obtain⟨_,A1,hb1,_⟩:=hH.2 _ hd.mem;obtain⟨_,A2,hb2,hall2⟩:=hH.2 _ (hp.mem_iff.2 (Mc h2));have hA:A2.size≠0:=fun e=>hn (List.eq_nil_of_length_eq_zero (by have:=hall2.length;rw [Array.length_toList,e]at this;exact this.symm))
  have hsl:TSl Tryz.prog 130 197:=inferInstance;have hty:TY Tryz.prog 197 17 _ _ _:=inferInstance;refine⟨.bool false,?_,ae.2 rfl⟩;have:=h8 #[a.eval x,a.eval y] w;rw [h0,h1,qE hsl.h hty.run_size hne hb1 hb2 hA]at this;simp only [execOp,ho,resolve,Sem.run_bind,Sem.run_pure,Result.andThen_ok];have e1:a.eval (.func 236) = .func (.func 236) #[] #[]:=rfl;simp only [e1,Deferred.ofValue,Sem.run_pure,Result.andThen_ok,invoke,List.map_toArray,List.map_cons,List.map_nil,Array.empty_append,Array.append_empty,h0,h1,this]
end
theorem Gi {α:Type}{A B tl ds:List α}{a s k:Nat}(hA:A.length=a) (hB:B.length=k) (hs:s≤k+tl.length) :
  ((A++B++tl).take (a+s)++((A++B++tl).drop a).take k++(A++B++tl).drop (a+s+k)).take a++ds++((A++B++tl).take (a+s)++((A++B++tl).drop a).take k++(A++B++tl).drop (a+s+k)).drop (a+s)=A++ds++B++tl.drop s:=by
 have e1:(A++B++tl).drop a=B++tl:=by rw [List.append_assoc,←hA,List.drop_left]
 have e2:(B++tl).take k=B:=by rw [←hB,List.take_left]
 have e3:(A++B++tl).drop (a+s+k)=tl.drop s:=by
  rw [show a+s+k=(A++B).length+s by rw [List.length_append];omega,←List.drop_drop,List.drop_left]
 have e4:((A++B++tl).take (a+s)).length=a+s:=by rw [List.length_take,List.length_append,List.length_append];omega
 have e5:((A++B++tl).take (a+s)).take a=A:=by
  rw [List.take_take,show min a (a+s)=a by omega,List.append_assoc,←hA,List.take_left]
 rw [e1,e2,e3];generalize(A++B++tl).take (a+s)=Q at *;clear e1 e2 e3;rw [List.append_assoc Q,List.take_append_of_le_length om,e5,←e4,List.drop_left];simp only [List.append_assoc]
abbrev frT:TypeId:=197
theorem Do (b b2 n c i c2:Nat) (cs tl ds:List SV) (hcl:cs.length=n*17) (htl:tl.length=c*17-n*17) (hds:ds.length=17) (hroom:n+1≤c) (hc:c≤10000000) (hi:i≤n) :
  PuH Tryz.prog 212 [lit (.slice (some ⟨b,0,none⟩) n c),lit (.int .i64 i),lit (.slice (some ⟨b2,0,none⟩) 1 c2)] [(b,frT,cs++tl),(b2,frT,ds)]
   (fun res H=>res=lit (.slice (some ⟨b,0,none⟩) (n+1) c)∧H=[(b,frT,cs.take (i*17)++ds++cs.drop (i*17)++tl.drop 17),(b2,frT,ds)]) noX:=by
 have hm:(n+1)*17≤c*17:=Nat.mul_le_mul_right _ hroom;have hm2:i*17≤n*17:=Nat.mul_le_mul_right _ hi;refine PuH.intro Tryz.func212 rfl kr fun C hC=>?_
 repeat(refine A1 ⟨?_⟩;intros)
 refine Wo (gh i rfl rfl rfl hi om) ?_;by_cases hin:i=n
 ·subst hin;repeat(refine A1 ⟨?_⟩;intros)
  refine WPL.appIn (cs:=cs) (tl:=tl) (ds:=ds) rfl rfl hcl htl hroom (.here _) (List.mem_singleton.2 rfl) hds ?_ rfl;repeat(refine A1 ⟨?_⟩;intros)
  refine cH _ _ (aC (RV.tmp rfl) Lr) Sr ⟨rfl,?_⟩;rw [←hcl,List.take_length,List.drop_length,List.append_nil]
 ·have hge:i*17+17≤n*17:=by omega
  have hsub:(n-i)*17=n*17-i*17:=Nat.sub_mul ..;have hne:cs++tl≠[]:=fun e=>by have:=congrArg List.length e;rw [List.length_append,hcl,htl]at this;simp at this;omega
  repeat(refine A1 ⟨?_⟩;intros)
  refine Wo (IT rfl) ?_;repeat(refine A1 ⟨?_⟩;intros)
  refine Wo (wo (n+1) rfl rfl om om) ?_;repeat(refine A1 ⟨?_⟩;intros)
  refine Wo (gh (i+1) rfl rfl om om om) ?_;repeat(refine A1 ⟨?_⟩;intros)
  refine Wo (Fv rfl rfl (.there _ (.here _)) (List.mem_singleton.2 rfl) hne) ?_;repeat(first|(refine AS ⟨?_⟩;intros)|(refine O1 ⟨?_⟩;intros))
  refine WdL 8 1 ?_;repeat(first|(refine A1 ⟨?_⟩;intros)|(refine Wo (gh (i+1) (k:=n+1) (c:=c) rfl rfl om om om) ?_)|(refine Wdo (gh (i+1) (k:=n+1) (c:=c) rfl rfl om om om) ?_)|(refine Wog (gh (i+1) (k:=n+1) (c:=c) rfl rfl om om om) ?_)|(refine bH (gh (i+1) (k:=n+1) (c:=c) rfl rfl om om om) ?_)|(refine Wo (gh i (k:=n+1) (c:=c) rfl rfl om om om) ?_)|(refine Wdo (gh i (k:=n+1) (c:=c) rfl rfl om om om) ?_)|(refine Wog (gh i (k:=n+1) (c:=c) rfl rfl om om om) ?_)|(refine bH (gh i (k:=n+1) (c:=c) rfl rfl om om om) ?_))
  refine dL0 ?_
  have hmin:Nat.min (n+1-i) (n+1-(i+1))*17=n*17-i*17:=by
   rw [show Nat.min (n+1-i) (n+1-(i+1))=n-i from Nat.min_eq_right om |>.trans om,hsub]
  have hlen:(cs++tl).length=c*17:=by rw [List.length_append,hcl,htl];omega
  have hi1:(i+1)*17=i*17+17:=by omega
  refine MM (cs:=cs++tl) (ss:=cs++tl) rfl rfl List.mem_cons_self (by rw [hmin,hlen,hi1];omega) (by rw [hmin,hlen];omega) (.here _) ?_ ?_
  ·(repeat(first|exact LOk.nil|refine Lsk ?_|refine Lcv ?_))
  refine Gn ?_ ?_
  ·(repeat(first|exact LOk.nil|refine Lsk ?_|refine Lcv ?_))
  rw [hmin,hi1];repeat(first|(refine AS ⟨?_⟩;intros)|(refine O1 ⟨?_⟩;intros))
  refine Wo (gh i (k:=n+1) (c:=c) rfl rfl om om om) ?_;repeat(refine A1 ⟨?_⟩;intros)
  have hX:((cs++tl).take (i*17+17)++((cs++tl).drop (i*17)).take (n*17-i*17)++(cs++tl).drop (i*17+17+(n*17-i*17))).length=c*17:=by
   simp only [List.length_append,List.length_take,List.length_drop,hcl,htl];omega
  have hmin2:Nat.min 1 (n+1-i)*17=17:=by
   rw [show Nat.min 1 (n+1-i)=1 from Nat.min_eq_left om]
  refine WPL.copyB (ss:=ds) rfl rfl (by first|exact Ms|exact Mc Ms) (by rw [hmin2,hX];omega) (by rw [hmin2,hds];omega) (.here _) ?_ rfl;rw [hmin2];repeat(refine A1 ⟨?_⟩;intros)
  refine cH _ _ (aC (RV.tmp rfl) Lr) Sr ⟨rfl,?_⟩;have hcs:cs=cs.take (i*17)++cs.drop (i*17):=(List.take_append_drop _ _).symm;have key:=Gi (A:=cs.take (i*17)) (B:=cs.drop (i*17)) (tl:=tl) (ds:=ds) (a:=i*17) (s:=17) (k:=n*17-i*17) (by rw [List.length_take];omega) (by rw [List.length_drop];omega) om;rw [←hcs]at key;rw [show(ds.drop 0).take 17=ds by rw [List.drop_zero,←hds,List.take_length],key]
end Go.Ab
