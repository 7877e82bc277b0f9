/- Texts laid one behind the other: RLn, RgM, GBase, Gm, Cvx. -/
import Derived.Test.YtpeidlcjlfkpcaaGreatDoorB13
set_option linter.all false
set_option maxHeartbeats 16000000
namespace Go.Ab
open Go.Proofs
variable [Base]
theorem Iu {a b:Int}(c:Int) (ha:il a≤1000000) (hb:il b≤1000000) (hc:il c≤1000000) (h:a≠0∨b≠0):Pu Tryz.prog 59 [int a,int b,int c] (Ab.tup [lq (ju a b c),lit (.bool true)]):=by
 have hg:=SP c h;have hg1:Nat.gcd a.natAbs b.natAbs≠0:=fun e=>by rw [nH]at e;omega
 have k1:=mr (a:=a.natAbs) (b:=b.natAbs) (n:=1000000) ha hb;have c1:=qo a.natAbs b.natAbs (show il a≤_ by omega) (show il b≤_ by omega);have c2:=qo (Nat.gcd a.natAbs b.natAbs) c.natAbs om (show il c≤_ by omega);have k2:=mr (a:=Nat.gcd a.natAbs b.natAbs) (b:=c.natAbs) (n:=1000000) k1 hc;have e:=Ag c h;have ea:=congrArg Li.a e;have eb:=congrArg Li.b e;have ec:=congrArg Li.c e;clear e;simp only at ea eb ec;generalize ju a b c=l at *;have hn1:=lV hg1;generalize Nat.gcd a.natAbs b.natAbs=g1 at *;generalize Nat.gcd g1 c.natAbs=g at *;have d1:=kR a.natAbs g hg (show il a≤_ by omega) om;have d2:=kR b.natAbs g hg (show il b≤_ by omega) om;have d3:=kR c.natAbs g hg (show il c≤_ by omega) om;have m1:=dH (decide (a<0)) (a.natAbs/g) (aU (cI (dw _ _)) (show il a≤_ by omega));have m2:=dH (decide (b<0)) (b.natAbs/g) (aU (cI (dw _ _)) (show il b≤_ by omega));have m3:=dH (decide (c<0)) (c.natAbs/g) (aU (cI (dw _ _)) (show il c≤_ by omega));rw [←ea]at m1;rw [←eb]at m2;rw [←ec]at m3;clear ea eb ec ha hb hc hg hg1 k1 k2 h;refine Pi Tryz.func59 fun C=>?_
 repeat(first|(refine A1 ⟨?_⟩;intros)|refine W4 c1 ⟨?_⟩|refine W4 c2 ⟨?_⟩|refine W4 d1 ⟨?_⟩|refine W4 d2 ⟨?_⟩|refine W4 d3 ⟨?_⟩|refine W4 m1 ⟨?_⟩|refine W4 m2 ⟨?_⟩|refine W4 m3 ⟨?_⟩)
 exact G3
theorem l9 (a:Int):Pu Tryz.prog 190 [int a] (rq (a:Rat)):=by
 rw [tH];refine Pi Tryz.func190 fun C=>?_
 refine A2 ⟨?_⟩;intros;exact cV (bJ (RV.cellA rfl cL rfl rfl) (Le.ag ⟨Le.refl _,Le.refl _,gz,trivial⟩))
theorem wV (x y u v:Rat) (hx:ht x≤100000) (hy:ht y≤100000) (hu:ht u≤100000) (hv:ht v≤100000):Pu Tryz.prog 52 [rp x y,rp u v] (rp (x-u) (y-v)):=by
 have o:=vR (-1) om om;have h1:ht ((-1:Int):Rat)≤1:=FE _ om;have a:=qD x y ((-1:Int):Rat) u v om om om om om;have e:∀x u:Rat,x+((-1:Int):Rat)*u=x-u:=fun x u=>by rw [show((-1:Int):Rat) = -1 from rfl];grind
 rw [e,e]at a;refine Pi Tryz.func52 fun C=>?_
 exact X2 o a
theorem oz (l:Li) (h:l.le 1000000):Pu Tryz.prog 140 [lq l] (rp (l.b:Rat) (-(l.a:Rat))):=by
 have q1:=l9 l.b;have q2:=l9 l.a;have o:=mJ (l.a:Rat) (by rw [gZ];have:=h.a;omega);refine Pi Tryz.func140 fun C=>?_
 refine D3 q1 q2 o ⟨?_⟩;intros;exact G1
theorem uq (l:Li) (h:l.le 1000000):Pu Tryz.prog 64 [lq l] (lq l.neg):=by
 have m1:=nT l.a (show il l.a≤_ by have:=h.a;omega);have m2:=nT l.b (show il l.b≤_ by have:=h.b;omega);have m3:=nT l.c (show il l.c≤_ by have:=h.c;omega);refine Pi Tryz.func64 fun C=>?_
 refine D3 m1 m2 m3 ⟨?_⟩;intros;exact G1
theorem QF (l:Li) (h:l.le 1000000):Pu Tryz.prog 73 [lq l] (lq l):=by
 have m1:=tC l.a (by have:=h.a;omega);have m2:=tC l.b (by have:=h.b;omega);have m3:=tC l.c (by have:=h.c;omega);refine Pi Tryz.func73 fun C=>?_
 refine D3 m1 m2 m3 ⟨?_⟩;intros;exact G1
theorem Kv (l:Li) (h:l.le 1000000):Pu Tryz.prog 33 [lq l,lq l] (lit (.bool true)):=by
 have m1:=Bn (decide (l.a<0)) (dgs l.a.natAbs) (show il l.a≤_ by have:=h.a;omega);have m2:=Bn (decide (l.b<0)) (dgs l.b.natAbs) (show il l.b≤_ by have:=h.b;omega);have m3:=Bn (decide (l.c<0)) (dgs l.c.natAbs) (show il l.c≤_ by have:=h.c;omega);refine Pi Tryz.func33 fun C=>?_
 exact Y3 m1 m2 m3
theorem Br (x y u v:Rat) (hx:ht x≤1000000) (hy:ht y≤1000000) (hu:ht u≤1000000) (hv:ht v≤1000000) (h1:ht (x*u)≤3000000) (h2:ht (y*v)≤3000000):Pu Tryz.prog 235 [rp x y,rp u v] (rq (x*u+y*v)):=by
 have t1:=cZ x u om om;have t2:=cZ y v om om;have p:=jc (x*u) (y*v) h1 h2;refine Pi Tryz.func235 fun C=>?_
 refine D3 t1 t2 p ⟨?_⟩;intros;exact G1
theorem sa (x y u v:Rat) (hx:ht x≤100000) (hy:ht y≤100000) (hu:ht u≤100000) (hv:ht v≤100000):Pu Tryz.prog 109 [rp x y,rp u v] (rq (x*v-y*u)):=by
 have h1:=be x v;have h2:=be y u;have t1:=cZ x v om om;have t2:=cZ y u om om;have p:=mh (x*v) (y*u) om om;refine Pi Tryz.func109 fun C=>?_
 refine D3 t1 t2 p ⟨?_⟩;intros;exact G1
theorem pw {a:Rat}(m:Nat){n:Nat}(h:n=a.den*m):a*((n:Int):Rat)=((a.num*m:Int):Rat):=by
 subst h
 have h1:a*(a.den:Rat)=(a.num:Rat):=by
  conv=>lhs;lhs;rw [←io a]
  rw [show(a.den:Rat)=mkRat (a.den:Int) 1 from(jA _).symm,lA,cB];have:=tc (n:=a.num) (d:=1) a.den_nz;rw [aY]at this;rw [this,jA]
 rw [show(((a.den*m:Nat):Int):Rat)=(a.den:Rat)*(m:Rat)from by push_cast;rfl,←ik,h1];push_cast
 rfl
theorem AE (m:Nat):LeL [ag [lit (.bool false),nat m,lit (.slice none 0 0)]] [rq ((m:Int):Rat)]:=by
 rw [tH];refine⟨Le.ag ⟨?_,?_,gz,trivial⟩,trivial⟩
 ·rw [aa om];exact Le.refl _
 ·rw [im];exact Le.refl _
theorem tD {x y u v:Rat}{L:Nat}(hL:L≤10000) (hx:ht x≤L) (hy:ht y≤L) (hu:ht u≤L) (hv:ht v≤L) (h:u-x≠0∨v-y≠0):Pu Tryz.prog 25 [rp x y,rp u v] (Ab.tup [lq (thr x y u v),lit (.bool true)]):=by
 have s:=wV u v x y om om om om;have k1:=gh u x;have k2:=gh v y;have k3:=fI (v-y);have n1:=mJ (v-y) om;have k4:=be (-(v-y)) x;have k5:=be (u-x) y;have t1:=cZ (-(v-y)) x om om;have t2:=cZ (u-x) y om om;have k6:=fo (-(v-y)*x) ((u-x)*y);have p1:=jc (-(v-y)*x) ((u-x)*y) om om;have n2:=mJ (-(v-y)*x+(u-x)*y) om;have k7:=fI (-(v-y)*x+(u-x)*y)
 have hab : -(v-y)≠0∨u-x≠0:=by
  rcases h with h|h
  ·exact .inr h
  ·exact .inl fun e=>h (by rw [←Rat.neg_neg (v-y),e];rfl)
 unfold thr;generalize -(v-y)=a at *;generalize u-x=b at *;generalize -(a*x+b*y)=c at *;have e1:=fh a;have e2:=fh b;have e3:=fh c;have l1:=eh a;have l2:=eh b;have l3:=eh c;have l4:=ew a.den b.den;have l5:=ew (a.den*b.den) c.den;have q1:=i4 a.den b.den om om;have q2:=i4 (a.den*b.den) c.den om om;have m1:=dH false (a.den*b.den*c.den) om;rw [Bh,xf]at m1;obtain⟨m,hm⟩:∃m,m=a.den*b.den*c.den:=⟨_,rfl⟩
 have fa:=pw (a:=a) (b.den*c.den) (n:=m) (by rw [hm,aI]);have fb:=pw (a:=b) (a.den*c.den) (n:=m) (by rw [hm,aE a.den,aI]);have fc:=pw (a:=c) (a.den*b.den) (n:=m) (by rw [hm,aE])
 have hmp:(0:Rat)<((m:Int):Rat):=by
  have:0<m:=by rw [hm];exact kG (kG a.den_pos b.den_pos) c.den_pos
  exact_mod_cast this
 rw [←hm]at q2 m1 l5;have hmh:ht ((m:Int):Rat)≤max (dgs m).length 1:=by rw [gZ];exact au _
 have g1:=(cZ a ((m:Int):Rat) om om).arg (l':=[rq a,ag [lit (.bool false),nat m,lit (.slice none 0 0)]]) ⟨Le.refl _,AE m⟩;have g2:=(cZ b ((m:Int):Rat) om om).arg (l':=[rq b,ag [lit (.bool false),nat m,lit (.slice none 0 0)]]) ⟨Le.refl _,AE m⟩;have g3:=(cZ c ((m:Int):Rat) om om).arg (l':=[rq c,ag [lit (.bool false),nat m,lit (.slice none 0 0)]]) ⟨Le.refl _,AE m⟩;have o1:=be a ((m:Int):Rat);have o2:=be b ((m:Int):Rat);have o3:=be c ((m:Int):Rat);have ep:ju a b c=ju (((m:Int):Rat)*a) (((m:Int):Rat)*b) (((m:Int):Rat)*c):=(yg _ _ _ _ hmp).symm;rw [eK _ a,eK _ b,eK _ c]at ep
 have hne:a*((m:Int):Rat)≠0∨b*((m:Int):Rat)≠0:=by
  have h0:((m:Int):Rat)≠0:=fun e=>by rw [e]at hmp;exact absurd hmp (by decide)
  rcases hab with h|h
  ·exact .inl fun e=>by rcases dQ.1 e with e|e;exact h e;exact h0 e
  ·exact .inr fun e=>by rcases dQ.1 e with e|e;exact h e;exact h0 e
 rw [fa]at g1 o1;rw [fb]at g2 o2;rw [fc]at g3 o3;rw [fa,fb,fc]at ep;rw [fa,fb]at hne;rw [ep];clear fa fb fc ep hmp hab h hm;generalize a.num*((b.den*c.den:Nat):Int)=A at *;generalize b.num*((a.den*c.den:Nat):Int)=B at *;generalize c.num*((a.den*b.den:Nat):Int)=C' at *;rw [gZ]at o1 o2 o3
 have hne':A≠0∨B≠0:=by
  rcases hne with h|h
  ·exact .inl fun e=>h (by rw [e];rfl)
  ·exact .inr fun e=>h (by rw [e];rfl)
 have mk:=Iu C' (a:=A) (b:=B) om om om hne';simp only [tH]at g1 g2 g3;generalize ju (A:Rat) (B:Rat) (C':Rat)=r at *;clear o1 o2 o3 hmh k1 k2 k3 k4 k5 k6 k7 l1 l2 l3 l4 l5 hne hne' hx hy hu hv;refine Pi Tryz.func25 fun C=>?_
 repeat(first|(refine AS ⟨?_⟩;intros)|(refine O1 ⟨?_⟩;intros)|(refine Wcx (s) ?_)|(refine iE (s) ?_)|(refine Wcx (n1) ?_)|(refine iE (n1) ?_))
 refine WdL 7 1 ?_;refine D1 n1 ⟨?_⟩;intros;refine dL2 fun b7 b8=>?_
 refine Gs (sv:=rq a) (cs':=[lit (.bool (decide (a.num<0))),nat a.num.natAbs,dg (oX a.den)]) rfl rfl rfl (by first|exact .here _|exact .there _ (.here _)) rfl rfl ?_ ?_
 ·(repeat(first|exact LOk.nil|refine Lsk ?_|refine Lcv ?_))
 refine Gn ?_ ?_
 ·(repeat(first|exact LOk.nil|refine Lsk ?_|refine Lcv ?_))
 repeat(first|(refine A1 ⟨?_⟩;intros)|(refine Wo (dX rfl rfl kr rfl) ?_)|(refine Wdo (dX rfl rfl kr rfl) ?_)|refine W4 s ⟨?_⟩|refine W4 n1 ⟨?_⟩|refine W4 t1 ⟨?_⟩|refine W4 t2 ⟨?_⟩|refine W4 p1 ⟨?_⟩|refine W4 n2 ⟨?_⟩|refine W4 e1 ⟨?_⟩|refine W4 e2 ⟨?_⟩|refine W4 e3 ⟨?_⟩|refine W4 q1 ⟨?_⟩|refine W4 q2 ⟨?_⟩|refine W4 m1 ⟨?_⟩|refine W4 g1 ⟨?_⟩|refine W4 g2 ⟨?_⟩|refine W4 g3 ⟨?_⟩|refine W4 mk ⟨?_⟩)
 exact G3
abbrev Pq:=Rat×Rat
def yj (p q:Pq):Int:=if p.1=q.1 then(p.2-q.2).num.sign else(p.1-q.1).num.sign
def plt (p q:Pq):Bool:=decide (yj p q<0)
theorem Ak {p q:Pq}:yj p q=0↔p=q:=by
 obtain⟨x,y⟩:=p;obtain⟨u,v⟩:=q;unfold yj;simp only [cP];split
 ·next h=>rw [jj];exact⟨fun e=>⟨h,e⟩,fun e=>e.2⟩
 ·next h=>rw [jj];exact⟨fun e=>absurd e h,fun e=>e.1⟩
def pat (out:List Pq) (p:Pq):Nat:=(out.takeWhile fun o=>plt o p).length
def sJ (out:List Pq) (p:Pq):List Pq:=if out[pat out p]? = some p then out else out.take (pat out p)++p::out.drop (pat out p)
def srt (l:List Pq):List Pq:=l.foldl sJ []
theorem Ki (l:List Pq) (p:Pq):srt (l++[p])=sJ (srt l) p:=by unfold srt;rw [kE];rfl
theorem Kh {l:List Pq}{k:Nat}{p:Pq}(h:l[k]? = some p):srt (l.take (k+1))=sJ (srt (l.take k)) p:=by
 obtain⟨h1,h2⟩:=bI.1 h;rw [tu h1,h2,Ki]
theorem QX (out:List Pq) (p:Pq):pat out p≤out.length:=(List.takeWhile_sublist _).length_le
theorem wT {α:Type}{f:α→Bool}:∀{l:List α}{a:α},l[(l.takeWhile f).length]? = some a→f a=false
 | [],a,h=>by simp at h
 |b::l,a,h=>by
  rw [t9]at h;cases hb:f b with
  |true =>
   rw [if_pos hb]at h;exact wT (by simpa using h)
  |false =>
   rw [if_neg (by rw [hb];decide)]at h;simp at h;rw [←h];exact hb
theorem JX {α:Type}{f:α→Bool}:∀{l:List α}{j:Nat}{a:α},l[j]? = some a→j<(l.takeWhile f).length→f a=true
 | [],j,a,h,_=>by simp at h
 |b::l,j,a,h,hj=>by
  rw [t9]at hj;cases hb:f b with
  |false=>rw [if_neg (by rw [hb];decide)]at hj;simp at hj
  |true =>
   rw [if_pos hb,aF]at hj;cases j with
   |zero=>simp at h;rw [←h];exact hb
   |succ j=>exact JX (by simpa using h) om
theorem L4 {out:List Pq}{p o:Pq}{j:Nat}(hj:j≤pat out p) (ho:out[j]? = some o):(plt o p=true→j+1≤pat out p)∧(plt o p=false→j=pat out p):=by
 constructor
 ·intro h;rcases aJ j (pat out p)with hl|hl
  ·exact hl
  ·have e:j=pat out p:=by omega
   rw [e]at ho;have:=wT (f:=fun o=>plt o p) ho;rw [h]at this;cases this
 ·intro h;rcases aJ j (pat out p)with hl|hl
  ·have:=JX (f:=fun o=>plt o p) ho hl;rw [h]at this;cases this
  ·omega
theorem L2 (out:List Pq) (p:Pq):(sJ out p).length≤out.length+1:=by
 unfold sJ;split
 ·omega
 ·rw [ac,aF,aC,cO];omega
theorem Gk:∀(l:List Pq),(srt l).length≤l.length:=by
 have h:∀(l out:List Pq),(l.foldl sJ out).length≤out.length+l.length:=by
  intro l;induction l with
  |nil=>intro out;simp
  |cons a l ih=>intro out;have:=ih (sJ out a);have:=L2 out a;simp only [gX,aF];omega
 intro l;have:=h l [];simpa [srt] using this
theorem L1 {out:List Pq}{p q:Pq}:q∈sJ out p↔q=p∨q∈out:=by
 unfold sJ;split
 ·next h =>
  have hm:=bn h;constructor
  ·exact .inr
  ·rintro (rfl|h')
   ·exact hm
   ·exact h'
 ·rw [az,ak];constructor
  ·rintro (h|h|h)
   ·exact .inr (gP h)
   ·exact .inl h
   ·exact .inr (kM h)
  ·rintro (h|h)
   ·exact .inr (.inl h)
   ·rw [←gO (pat out p) out,az]at h;rcases h with h|h
    ·exact .inl h
    ·exact .inr (.inr h)
theorem Gj (l:List Pq) (q:Pq):q∈srt l↔q∈l:=by
 have h:∀(l out:List Pq),q∈l.foldl sJ out↔q∈out∨q∈l:=by
  intro l;induction l with
  |nil=>intro out;simp
  |cons a l ih =>
   intro out;rw [gX,ih,L1,ak];constructor
   ·rintro ((h|h)|h)
    ·exact .inr (.inl h)
    ·exact .inl h
    ·exact .inr (.inr h)
   ·rintro (h|h|h)
    ·exact .inl (.inr h)
    ·exact .inl (.inl h)
    ·exact .inr h
 unfold srt;rw [h];simp
def dst (l:List Pq):List Pq:=l.foldl (fun out p=>if p∈out then out else out++[p]) []
theorem Av {α:Type} [DecidableEq α]:∀{a b:List α},a.Nodup→(∀q∈a,q∈b)→a.length≤b.length
 | [],b,_,_=>an _
 |x::a,b,h,hs=>by
  obtain⟨h1,h2⟩:=iI.1 h;have hx:=hs x Ms;have:=Av (b:=b.erase x) h2 fun q hq=>(List.mem_erase_of_ne (fun e=>h1 (by rw [←e];exact hq))).2 (hs q (Mc hq))
  rw [List.length_erase_of_mem hx]at this;have:0<b.length:=List.length_pos_of_mem hx;rw [aF];omega
theorem Li.le.gr {l:Li}{L L':Nat}(h:l.le L) (k:L≤L'):l.le L':=⟨aU h.a k,aU h.b k,aU h.c k⟩
theorem iG (z:Int){L:Nat}(h:il z≤L):ht (z:Rat)≤max L 1:=by
 rw [gZ];omega
def Li.bf (l:Li):Rat := -((l.c:Rat)/((l.b:Rat)*l.b + -(l.a:Rat) * -(l.a:Rat)))
theorem Li.bf_ht {l:Li}(h:l.le 1):ht l.bf≤10:=by
 unfold Li.bf;have ha:ht (l.a:Rat)≤1:=by have:=iG l.a h.a;omega
 have hb:ht (l.b:Rat)≤1:=by have:=iG l.b h.b;omega
 have hc:ht (l.c:Rat)≤1:=by have:=iG l.c h.c;omega
 have h1:=be (l.b:Rat) l.b;have h2:=be (-(l.a:Rat)) (-(l.a:Rat));have h3:=fo ((l.b:Rat)*l.b) (-(l.a:Rat) * -(l.a:Rat));have h4:=yN ((l.b:Rat)*l.b + -(l.a:Rat) * -(l.a:Rat));have h5:=be (l.c:Rat) ((l.b:Rat)*l.b + -(l.a:Rat) * -(l.a:Rat))⁻¹;rw [fI]at h2⊢;rw [iY];omega
theorem ye {l:Li}(hok:l.ok) (h:l.le 1):Pu Tryz.prog 188 [lq l] (rp (l.bf*l.a) (l.bf*l.b)):=by
 have hf:=Li.bf_ht h;have ha:ht (l.a:Rat)≤1:=by have:=iG l.a h.a;omega
 have hb:ht (l.b:Rat)≤1:=by have:=iG l.b h.b;omega
 have hc:ht (l.c:Rat)≤1:=by have:=iG l.c h.c;omega
 have h1:=be (l.b:Rat) l.b;have h2:=be (-(l.a:Rat)) (-(l.a:Rat));have h3:=fo ((l.b:Rat)*l.b) (-(l.a:Rat) * -(l.a:Rat));have ha':ht (-(l.a:Rat))≤1:=by rw [fI];exact ha
 have hn:=Li.n_pos hok
 have hne:((l.b:Rat)*l.b + -(l.a:Rat) * -(l.a:Rat)).num≠0:=fun e=>by
  have:(l.b:Rat)*l.b + -(l.a:Rat) * -(l.a:Rat)=0:=ga.1 e;rw [this]at hn;exact absurd hn (by decide)
 have c1:=oz l (h.gr om);have c2:=l9 l.c;have c3:=Br (l.b:Rat) (-(l.a:Rat)) l.b (-(l.a:Rat)) om om om om om om;have c4:=pg (l.c:Rat) ((l.b:Rat)*l.b + -(l.a:Rat) * -(l.a:Rat)) om om hne;have hq:ht ((l.c:Rat)/((l.b:Rat)*l.b + -(l.a:Rat) * -(l.a:Rat)))≤10:=by rw [←fI];exact hf
 have c5:=mJ ((l.c:Rat)/((l.b:Rat)*l.b + -(l.a:Rat) * -(l.a:Rat))) om;rw [show -((l.c:Rat)/((l.b:Rat)*l.b + -(l.a:Rat) * -(l.a:Rat)))=l.bf from rfl]at c5;have c6:=l9 l.a;have c7:=l9 l.b;have c8:=cZ l.bf (l.a:Rat) om om;have c9:=cZ l.bf (l.b:Rat) om om;clear hf ha hb hc h1 h2 h3 ha' hn hne hq;refine Pi Tryz.func188 fun C=>?_
 repeat(first|(refine A1 ⟨?_⟩;intros)|refine W4 c1 ⟨?_⟩|refine W4 c2 ⟨?_⟩|refine W4 c3 ⟨?_⟩|refine W4 c4 ⟨?_⟩|refine W4 c5 ⟨?_⟩|refine W4 c6 ⟨?_⟩|refine W4 c7 ⟨?_⟩|refine W4 c8 ⟨?_⟩|refine W4 c9 ⟨?_⟩)
 exact G1
abbrev Li.sm (l:Li):Prop:=l.ok∧l.le 1
abbrev hp (p:Pq) (n:Nat):Prop:=ht p.1≤n∧ht p.2≤n
theorem Li.sm.ht {l:Li}(h:l.sm):ht (l.a:Rat)≤1∧ht (l.b:Rat)≤1∧ht (l.c:Rat)≤1:=by
 have ha:=iG l.a h.2.a;have hb:=iG l.b h.2.b;have hc:=iG l.c h.2.c;omega
theorem qC (x y:Rat):Ab.ht (x/y)≤Ab.ht x+Ab.ht y+2:=by
 rw [iY];have:=be x y⁻¹;have:=yN y;omega
def uZ (p q:Pq):Rat:=p.1*q.1+p.2*q.2
def gi (p q:Pq):Rat:=p.1*q.2-p.2*q.1
def cM (l:Li):Pq:=((l.b:Rat),-(l.a:Rat))
def af (l:Li) (p:Pq):Rat:=(l.a:Rat)*p.1+(l.b:Rat)*p.2+(l.c:Rat)
def gR (l:Li) (p:Pq):Int:=(af l p).num.sign
def iQ (p:Pq) (k:Rat) (v:Pq):Pq:=(p.1+k*v.1,p.2+k*v.2)
def bX (l:Li):Pq:=(l.bf*l.a,l.bf*l.b)
def atL (l:Li) (t:Rat):Pq:=iQ (bX l) t (cM l)
def fp (l:Li) (p:Pq):Rat:=uZ p (cM l)/uZ (cM l) (cM l)
def gW (l m:Li):Rat:=(l.a:Rat)*m.b-m.a*l.b
def dY (l m:Li):Pq:=(((l.b:Rat)*m.c-m.b*l.c)/gW l m,((m.a:Rat)*l.c-l.a*m.c)/gW l m)
def yz (l m:Li):Option Pq:=if gW l m=0 then none else some (dY l m)
def rF (l m:Li):Int:=if(l.a + -m.a).sign≠0 then(l.a + -m.a).sign else if(l.b + -m.b).sign≠0 then(l.b + -m.b).sign else(l.c + -m.c).sign
def Q3 (l:Li):Bool:=decide (l.a<0∨l.a=0∧l.b<0)
def lX (l:Li):Li:=if Q3 l then l.neg else l
def qQ (v:Pq):Int:=if v.1=0∧v.2=0 then 0 else if 0<v.2∨v.2=0∧0<v.1 then 1 else 2
def wq (u v:Pq):Int:=if qQ u≠qQ v then(if qQ u<qQ v then -1 else 1)else -(gi u v).num.sign
def uC (a b c:Pq):Int:=(gi (b.1-a.1,b.2-a.2) (c.1-a.1,c.2-a.2)).num.sign
theorem ic {l:Li}(h:l.sm):hp (cM l) 1:=by
 obtain⟨h1,h2,_⟩:=h.ht;exact⟨h2,by show Ab.ht (-(l.a:Rat))≤1;rw [fI];exact h1⟩
theorem xl {p q:Pq}{n m:Nat}(h:hp p n) (k:hp q m):Ab.ht (uZ p q)≤2*n+2*m+3:=by
 have:=be p.1 q.1;have:=be p.2 q.2;have:=fo (p.1*q.1) (p.2*q.2);unfold uZ;omega
theorem sB {p q:Pq}{n m:Nat}(h:hp p n) (k:hp q m):Ab.ht (gi p q)≤2*n+2*m+3:=by
 have:=be p.1 q.2;have:=be p.2 q.1;have:=gh (p.1*q.2) (p.2*q.1);unfold gi;omega
theorem Bd {l:Li}{p:Pq}{n:Nat}(h:l.sm) (k:hp p n):Ab.ht (af l p)≤2*n+7:=by
 obtain⟨h1,h2,h3⟩:=h.ht;have:=be (l.a:Rat) p.1;have:=be (l.b:Rat) p.2;have:=fo ((l.a:Rat)*p.1) ((l.b:Rat)*p.2);have:=fo ((l.a:Rat)*p.1+(l.b:Rat)*p.2) (l.c:Rat);unfold af;omega
theorem vm {p v:Pq}{k:Rat}{n m j:Nat}(h:hp p n) (hk:Ab.ht k≤j) (hv:hp v m):hp (iQ p k v) (n+j+m+2):=by
 have:=be k v.1;have:=be k v.2;have:=fo p.1 (k*v.1);have:=fo p.2 (k*v.2);unfold iQ;constructor <;> simp only <;> omega
theorem vk {l:Li}(h:l.sm):hp (bX l) 12:=by
 obtain⟨h1,h2,h3⟩:=h.ht;have:=Li.bf_ht h.2;have:=be l.bf (l.a:Rat);have:=be l.bf (l.b:Rat);unfold bX;constructor <;> simp only <;> omega
theorem Ng {l:Li}{t:Rat}{n:Nat}(h:l.sm) (k:Ab.ht t≤n):hp (atL l t) (n+15):=by
 have:=vm (vk h) k (ic h);unfold atL;exact⟨om,om⟩
theorem qv {l:Li}{p:Pq}{n:Nat}(h:l.sm) (k:hp p n):Ab.ht (fp l p)≤2*n+14:=by
 have h1:=xl k (ic h);have h2:=xl (ic h) (ic h);have:=qC (uZ p (cM l)) (uZ (cM l) (cM l));unfold fp;omega
theorem HL {l m:Li}(h:l.sm) (k:m.sm):Ab.ht (gW l m)≤7:=by
 obtain⟨h1,h2,h3⟩:=h.ht;obtain⟨k1,k2,k3⟩:=k.ht;have:=be (l.a:Rat) m.b;have:=be (m.a:Rat) l.b;have:=gh ((l.a:Rat)*m.b) (m.a*l.b);unfold gW;omega
theorem rx {l m:Li}(h:l.sm) (k:m.sm):hp (dY l m) 16:=by
 have hd:=HL h k;obtain⟨h1,h2,h3⟩:=h.ht;obtain⟨k1,k2,k3⟩:=k.ht;have:=be (l.b:Rat) m.c;have:=be (m.b:Rat) l.c;have:=gh ((l.b:Rat)*m.c) (m.b*l.c);have:=be (m.a:Rat) l.c;have:=be (l.a:Rat) m.c;have:=gh ((m.a:Rat)*l.c) (l.a*m.c);have:=qC ((l.b:Rat)*m.c-m.b*l.c) (gW l m);have:=qC ((m.a:Rat)*l.c-l.a*m.c) (gW l m);unfold dY;constructor <;> simp only <;> omega
theorem Li.sm.neg {l:Li}(h:l.sm):l.neg.sm:=by
 obtain⟨h1,h2⟩:=h;refine⟨⟨?_,?_⟩,?_,?_,?_⟩
 ·show Nat.gcd (Nat.gcd (-l.a).natAbs (-l.b).natAbs) (-l.c).natAbs=1
  rw [jC,jC,jC];exact h1.1
 ·rcases h1.2 with k|k
  ·left;show -l.a≠0;omega
  ·right;show -l.b≠0;omega
 ·show il (-l.a)≤1;rw [iP];exact h2.a
 ·show il (-l.b)≤1;rw [iP];exact h2.b
 ·show il (-l.c)≤1;rw [iP];exact h2.c
theorem lW {l m:Li}:rF l m=0↔l=m:=by
 unfold rF;obtain⟨a,b,c⟩:=l;obtain⟨d,e,f⟩:=m;simp only [Li.mk.injEq];by_cases h1:(a + -d).sign=0
 ·rw [if_neg (fun h=>h h1)];have:=gc.1 h1;by_cases h2:(b + -e).sign=0
  ·rw [if_neg (fun h=>h h2)];have:=gc.1 h2;rw [gc];omega
  ·rw [if_pos h2];have:b + -e≠0:=fun k=>h2 (gc.2 k)
   rw [gc];omega
 ·rw [if_pos h1];have:a + -d≠0:=fun k=>h1 (gc.2 k)
  rw [gc];omega
instance:DecidableEq Li:=fun l m=>decidable_of_iff (rF l m=0) lW
theorem e7 {x:Rat}:x.num.sign=0↔x=0:=by rw [gc];exact ga
section
variable {α:Type}
def lQ (lt:α→α→Bool) (out:List α) (x:α):Nat:=(out.takeWhile fun o=>lt o x).length
def DQ (lt:α→α→Bool) (out:List α) (x:α):List α:=out.take (lQ lt out x)++x::out.drop (lQ lt out x)
def lS [DecidableEq α] (lt:α→α→Bool) (out:List α) (x:α):List α:=if out[lQ lt out x]? = some x then out else DQ lt out x
theorem se (lt:α→α→Bool) (out:List α) (x:α):lQ lt out x≤out.length:=(List.takeWhile_sublist _).length_le
theorem sd {lt:α→α→Bool}{out:List α}{x o:α}{j:Nat}(hj:j≤lQ lt out x) (ho:out[j]? = some o):(lt o x=true→j+1≤lQ lt out x)∧(lt o x=false→j=lQ lt out x):=by
 constructor
 ·intro h;by_cases he:j=lQ lt out x
  ·unfold lQ at he;rw [he]at ho;have:=wT ho;rw [h]at this;cases this
  ·omega
 ·intro h;by_cases he:j<lQ lt out x
  ·have:=JX ho he;rw [h]at this;cases this
  ·omega
theorem Mg {lt:α→α→Bool}{out:List α}{x y:α}:y∈DQ lt out x↔y=x∨y∈out:=by
 unfold DQ;have e:y∈out↔y∈out.take (lQ lt out x)∨y∈out.drop (lQ lt out x):=by rw [←az,gO]
 rw [az,ak,e];constructor
 ·rintro (h|h|h)
  ·exact .inr (.inl h)
  ·exact .inl h
  ·exact .inr (.inr h)
 ·rintro (h|h|h)
  ·exact .inr (.inl h)
  ·exact .inl h
  ·exact .inr (.inr h)
theorem Mh (lt:α→α→Bool) (out:List α) (x:α):(DQ lt out x).length=out.length+1:=by
 have:=se lt out x;unfold DQ;rw [ac,aF,aC,cO];omega
theorem pG [DecidableEq α]{lt:α→α→Bool}{out:List α}{x y:α}:y∈lS lt out x↔y=x∨y∈out:=by
 unfold lS;split
 ·rename_i h;constructor
  ·exact .inr
  ·rintro (e|e)
   ·rw [e];exact bn h
   ·exact e
 ·exact Mg
theorem pH [DecidableEq α] (lt:α→α→Bool) (out:List α) (x:α):(lS lt out x).length≤out.length+1:=by
 unfold lS;split
 ·omega
 ·rw [Mh];omega
theorem AR {β:Type}{f:List β→α→List β}{g:α→β}(h:∀out x y,y∈f out x↔y=g x∨y∈out):∀(l:List α) (out:List β) (y:β),y∈l.foldl f out↔(∃x∈l,y=g x)∨y∈out
 | [],out,y=>by simp
 |a::l,out,y=>by
  rw [gX,AR h l,h];simp only [ak,exists_eq_or_imp];constructor
  ·rintro (h|h|h)
   ·exact .inl (.inr h)
   ·exact .inl (.inl h)
   ·exact .inr h
  ·rintro ((h|h)|h)
   ·exact .inr (.inl h)
   ·exact .inl h
   ·exact .inr (.inr h)
theorem AT {β:Type}{f:List β→α→List β}(h:∀out x,(f out x).length≤out.length+1):∀(l:List α) (out:List β),(l.foldl f out).length≤out.length+l.length
 | [],out=>by simp
 |a::l,out=>by
  have:=AT h l (f out a);have:=h out a;rw [gX,aF];omega
theorem qG {β:Type}{f:β→α→β}{l:List α}{k:Nat}{a:α}{b:β}(h:l[k]? = some a):(l.take (k+1)).foldl f b=f ((l.take k).foldl f b) a:=by
 rw [ji h,kE];rfl
end
abbrev rlt (x y:Rat):Bool:=decide ((x-y).num.sign<0)
abbrev llt (l m:Li):Bool:=decide (rF l m<0)
def wd (l:List Li):List Li:=l.foldl (fun out x=>lS llt out (lX x)) []
theorem MO {l:List Li}{y:Li}:y∈wd l↔∃x∈l,y=lX x:=by
 unfold wd;rw [AR (f:=fun out x=>lS llt out (lX x)) (g:=lX) (fun out x y=>pG)];simp
theorem MP (l:List Li):(wd l).length≤l.length:=by
 have:=AT (f:=fun out x=>lS llt out (lX x)) (fun out x=>pH llt out (lX x)) l [];unfold wd;simpa using this
structure Spn where
 lo:Rat
 hi:Rat
 nl:Bool
 nh:Bool
abbrev Spn.full:Spn:=⟨0,0,true,true⟩
abbrev Spn.le (s:Spn) (n:Nat):Prop:=ht s.lo≤n∧ht s.hi≤n
def JB (s:Spn) (t:Rat):Int :=
 let a:Int:=if s.nl then 1 else(t-s.lo).num.sign
 let b:Int:=if s.nh then -1 else(t-s.hi).num.sign
 if 0<a∧b<0 then 2 else if(a=0∧b≤0)∨(b=0∧0≤a)then 1 else 0
def wm:List Spn→Rat→Int
 | [],_=>0
 |s::l,t=>if JB s t=0 then wm l t else JB s t
abbrev inL (l:List Spn) (t:Rat):Bool:=decide (wm l t=2)
def mD (out:List Rat) (s:Spn):List Rat :=
 let o1:=if s.nl then out else lS rlt out s.lo
 if s.nh then o1 else lS rlt o1 s.hi
def fW (l:List Spn):List Rat:=l.foldl mD []
def mQ (x y:Rat):Rat:=(x+y)/2
def iN:List Rat→List Rat
 | []=>[0]
 |c::cs=>(c-1)::(List.zipWith mQ (c::cs) cs++[(c::cs).getLast (by simp)+1])
def opB (op:Int) (x y:Bool):Bool:=if op=2 then x&&y else if op=3 then x && !y else if op=4 then x != y else x||y
theorem y8 {x:Rat}:0<x.num↔0<x:=by
 have h1:0≤x.num↔0≤x:=pX;have h2:x.num=0↔x=0:=ga;constructor
 ·intro h;have:=h1.1 om;have:x≠0:=fun e=>by have:=h2.2 e;omega
  grind
 ·intro h;have:=h1.2 (f8 h);have:x.num≠0:=fun e=>by have:=h2.1 e;grind
  omega
theorem CN {s:Rat}(h:0<s):s*(s.den:Rat)=((s.num.toNat:Nat):Rat):=by
 have h0:=y8.2 h
 have e:((s.num.toNat:Nat):Rat)=((s.num:Int):Rat):=by
  rw [←t8,Int.toNat_of_nonneg om]
 rw [e];have h2:((s.den:Nat):Rat)≠0:=fun e=>s.den_nz (Rat.natCast_inj.1 (e.trans rfl))
 have h3:s=(s.num:Rat)/(s.den:Nat):=(io s).symm.trans (Rat.mkRat_eq_div ..);grind
theorem oO {α:Type}(A B:α→Rat):∀(c:List α),(∀j∈c,0<A j)→∃e:Rat,0<e∧∀j∈c,∀t,0<t→t≤e→0<A j+t*B j
 | [],_=>⟨1,by decide,fun j h=>by cases h⟩
 |a::c,h=>by
  obtain⟨e,he,hc⟩:=oO A B c (fun j hj=>h j (Mc hj));have ha:=h a Ms;by_cases hb:0≤B a
  ·refine⟨e,he,fun j hj t ht hte=>?_⟩;rcases ak.1 hj with rfl|hj
   ·have:=dk (f8 ht) hb;grind
   ·exact hc j hj t ht hte
  ·have hb':0 < - B a:=by grind
   obtain⟨u,hu⟩:∃u:Rat,u*(2 * - B a)=A a:=⟨A a/(2 * - B a),by grind⟩
   have hu0:0<u:=by
    rcases g9 (a:=u) (b:=0)with k|k
    ·have:=dk (show 0≤-u by grind) (f8 hb');grind
    ·grind
   have key:∀j∈a::c,∀t,0<t→t≤e→t≤u→0<A j+t*B j:=fun j hj t ht h1 h2=>by
    rcases ak.1 hj with rfl|hj
    ·have:=dk (show 0≤u-t by grind) (f8 hb');grind
    ·exact hc j hj t ht h1
   rcases g9 (a:=e) (b:=u)with k|k
   ·exact⟨e,he,fun j hj t ht h1=>key j hj t ht h1 (by grind)⟩
   ·exact⟨u,hu0,fun j hj t ht h1=>key j hj t ht (by grind) h1⟩
theorem G5 {α:Type}(f:α→Rat):∀(l:List α),l≠[]→∃a∈l,∀b∈l,f a≤f b
 | [],h=>absurd rfl h
 | [a],_=>⟨a,Ms,fun b hb=>by rw [ar]at hb;subst hb;exact bP⟩
 |a::b::l,_=>by
  obtain⟨m,hm,hmin⟩:=G5 f (b::l) (by simp);rcases g9 (a:=(f a)) (b:=(f m))with k|k
  ·refine⟨a,Ms,fun x hx=>?_⟩;rcases ak.1 hx with rfl|hx
   ·exact bP
   ·have:=hmin x hx;grind
  ·refine⟨m,Mc hm,fun x hx=>?_⟩;rcases ak.1 hx with rfl|hx
   ·exact k
   ·exact hmin x hx
theorem Li.prop_eq {l m:Li}(hl:l.ok) (hm:m.ok){s t:Nat}(hs:0<s) (ha:s*l.a=t*m.a) (hb:s*l.b=t*m.b) (hc:s*l.c=t*m.c):l=m:=by
 have h1:s=t:=by
  have e:=congrArg Int.natAbs ha;have f:=congrArg Int.natAbs hb;have g:=congrArg Int.natAbs hc;rw [fx,fx,im,im]at e f g;have k1:Nat.gcd (Nat.gcd (s*l.a.natAbs) (s*l.b.natAbs)) (s*l.c.natAbs)=s:=by rw [nC,nC,hl.1,cB]
  have k2:Nat.gcd (Nat.gcd (t*m.a.natAbs) (t*m.b.natAbs)) (t*m.c.natAbs)=t:=by rw [nC,nC,hm.1,cB]
  rw [e,f,g]at k1;omega
 subst h1;have hz:(s:Int)≠0:=by omega
 obtain⟨a,b,c⟩:=l;obtain⟨d,e,f⟩:=m;simp only at ha hb hc;rw [Int.mul_eq_mul_left_iff hz]at ha hb hc;rw [ha,hb,hc]
theorem Li.prop_eqR {l m:Li}(hl:l.ok) (hm:m.ok){s t:Rat}(hs:0<s) (ht:0<t) (ha:s*l.a=t*m.a) (hb:s*l.b=t*m.b) (hc:s*l.c=t*m.c):l=m:=by
 have q1:=CN hs;have q2:=CN ht
 have key:∀x y:Int,s*x=t*y→((s.num.toNat*t.den:Nat):Int)*x=((t.num.toNat*s.den:Nat):Int)*y:=fun x y h=>by
  refine Rat.intCast_inj.1 ?_;rw [iX,iX,t8,t8,Rat.natCast_mul,Rat.natCast_mul,←q1,←q2];grind
 have h0:=y8.2 hs;exact Li.prop_eq hl hm (s:=s.num.toNat*t.den) (t:=t.num.toNat*s.den) (kG om t.den_pos) (key _ _ ha) (key _ _ hb) (key _ _ hc)
theorem GD (x:Rat):0≤x*x:=by
 rcases g9 (a:=x) (b:=0)with h|h
 ·have:=dk (show 0≤-x by grind) (show 0≤-x by grind);grind
 ·exact dk h h
theorem QT (x y z:Rat):x*(y*z)=z*(y*x):=by grind
theorem qq {n x y:Rat}(h:n≠0) (k:n*x=n*y):x=y:=by
 have:n*(x-y)=0:=by grind
 rcases dQ.1 this with e|e
 ·exact absurd e h
 ·grind
theorem KO {u1 u2 ja jb ma mb A B bj bm:Rat}(n0:u1*u1+u2*u2≠0) (d1:ja*u1+jb*u2=A) (d2:ma*u1+mb*u2=B) (w1:bj=ja * -u2+jb*u1) (w2:bm=ma * -u2+mb*u1) (e1:B*bj=A*bm) :
  B*ja=A*ma∧B*jb=A*mb:=by
 have p1:(u1*u1+u2*u2)*ja=u1*A-u2*bj:=by rw [←d1,w1];grind
 have p2:(u1*u1+u2*u2)*ma=u1*B-u2*bm:=by rw [←d2,w2];grind
 have p3:(u1*u1+u2*u2)*jb=u2*A+u1*bj:=by rw [←d1,w1];grind
 have p4:(u1*u1+u2*u2)*mb=u2*B+u1*bm:=by rw [←d2,w2];grind
 clear d1 d2 w1 w2;generalize u1*u1+u2*u2=n at *;constructor
 ·refine qq n0 ?_;have:n*(B*ja)=B*(n*ja):=by grind
  rw [this,p1];have:n*(A*ma)=A*(n*ma):=by grind
  rw [this,p2];have:B*(u1*A-u2*bj)=B*(u1*A)-u2*(B*bj):=by grind
  rw [this,e1];grind
 ·refine qq n0 ?_;have:n*(B*jb)=B*(n*jb):=by grind
  rw [this,p3];have:n*(A*mb)=A*(n*mb):=by grind
  rw [this,p4];have:B*(u2*A+u1*bj)=B*(u2*A)+u1*(B*bj):=by grind
  rw [this,e1];grind
theorem Tv {j m:Li}{A B:Rat}{r:Pq}(ea:B*j.a=A*m.a) (eb:B*j.b=A*m.b) (h:af j r=0) (k:af m r=0):B*j.c=A*m.c:=by
 unfold af at h k;have h1:(j.c:Rat) = -(j.a*r.1+j.b*r.2):=by grind
 have h2:(m.c:Rat) = -(m.a*r.1+m.b*r.2):=by grind
 rw [h1,h2];have:B * -(j.a*r.1+j.b*r.2) = -((B*j.a)*r.1+(B*j.b)*r.2):=by grind
 rw [this,ea,eb];grind
theorem KP {s Q P:Rat}(h:s*(Q-P)=Q) (hq:0<Q) (hp:P≤0):0<s∧s≤1:=by
 constructor
 ·rcases g9 (a:=s) (b:=0)with k|k
  ·have:=dk (show 0≤-s by grind) (show 0≤Q-P by grind);grind
  ·by_cases e:s=0
   ·rw [e]at h;grind
   ·grind
 ·rcases g9 (a:=s) (b:=1)with k|k
  ·exact k
  ·by_cases e:s=1
   ·grind
   ·have:=ez (show 0<s-1 by grind) (show 0<Q-P by grind);grind
theorem EU {s Q P:Rat}(h0:0<s) (h1:s≤1) (hq:0<Q) (hp:0<P):0<Q+s*(P-Q):=by
 have a:=dk (show 0≤1-s by grind) (f8 hq);have b:=ez h0 hp;grind
theorem SB {s t Q P:Rat}(h:t*(Q-P)=Q) (hq:0<Q) (hp:P≤0) (hs:s≤t):0≤Q+s*(P-Q):=by
 have a:=dk (show 0≤t-s by grind) (show 0≤Q-P by grind);grind
theorem GC {s Q P:Rat}(h:s*(Q-P)=Q):Q+s*(P-Q)=0:=by
 have:Q+s*(P-Q)=Q-s*(Q-P):=by grind
 rw [this,h];grind
theorem QS {P Q:Rat}(hq:0<Q) (hp:P≤0):Q/(Q-P)*(Q-P)=Q:=g8 (by grind)
theorem O0 {P Q:Rat}(hq:0<Q):P/Q*Q=P:=g8 (by grind)
theorem ov (j:Li) (p q:Pq) (s:Rat):af j (q.1+s*(p.1-q.1),q.2+s*(p.2-q.2))=af j q+s*(af j p-af j q):=by unfold af;grind
theorem Cr (j:Li) (q r:Pq) (x y:Rat):af j (r.1+x*(q.1-r.1)-y*(q.2-r.2),r.2+x*(q.2-r.2)+y*(q.1-r.1))=af j r+x*(af j q-af j r)+y*((j.a:Rat) * -(q.2-r.2)+(j.b:Rat)*(q.1-r.1)):=by unfold af;simp only;grind
theorem Gb (j:Li) (q r:Pq) (h:af j r=0):(j.a:Rat)*(q.1-r.1)+j.b*(q.2-r.2)=af j q:=by unfold af at *;grind
theorem Qj {x y:Rat}(h:x*x+y*y=0):x=0∧y=0:=by
 have a1:=GD x;have a2:=GD y;have b1:x*x=0:=by grind
 have b2:y*y=0:=by grind
 exact⟨by rcases dQ.1 b1 with h|h <;> exact h,by rcases dQ.1 b2 with h|h <;> exact h⟩
theorem Tp {e g Q B:Rat}(h:g*Q=B):0+e*g*(Q-0) + -e*B=0:=by rw [←h];grind
theorem Tt {e g k Q B:Rat}(he:0<e) (hq:0<Q) (hk:k<g) (h:k*Q=B):0<0+e*g*(Q-0) + -e*B:=by
 have:=ez (ez he hq) (show 0<g-k by grind);rw [←h];grind
theorem Tu {e g Q V B:Rat}(h:0<V+e*(g*(Q-V)-B)):0<V+e*g*(Q-V) + -e*B:=by
 have:V+e*g*(Q-V) + -e*B=V+e*(g*(Q-V)-B):=by grind
 rw [this];exact h
theorem Qk {x y:Rat}(h:x≤y) (k:x≠y):x<y:=by grind
theorem QR {x y:Rat}(h : -x≤-y):y≤x:=by grind
theorem EE {j m:Li}(hj:j.ok) (hm:m.ok){q r:Pq}(q1:0<af j q) (q2:0<af m q) (h0:af j r=0) (hmr:af m r=0){g B C:Rat}(g1:g*af j q=B) (g2:g*af m q=C)
  (w1:B=(j.a:Rat) * -(q.2-r.2)+(j.b:Rat)*(q.1-r.1)) (w2:C=(m.a:Rat) * -(q.2-r.2)+(m.b:Rat)*(q.1-r.1)):j=m:=by
 have d1:=Gb j q r h0;have d2:=Gb m q r hmr
 have n0:(q.1-r.1)*(q.1-r.1)+(q.2-r.2)*(q.2-r.2)≠0:=fun h=>by
  obtain⟨a,b⟩:=Qj h;rw [a,b,nB,nB]at d2;rw [←d2]at q2;exact absurd q2 (by rw [pU];decide)
 have e1:af m q*B=af j q*C:=by rw [←g1,←g2];exact QT _ _ _
 obtain⟨ea,eb⟩:=KO n0 d1 d2 w1 w2 e1;exact Li.prop_eqR hj hm q2 q1 ea eb (Tv ea eb h0 hmr)
theorem cvx {c:List Li}(hok:∀l∈c,l.ok){q p:Pq}(hq:∀l∈c,0<af l q){k:Li}(hk:k∈c) (hp:af k p≤0) :
  ∃m∈c,af m p≤0∧∃r,af m r=0∧∀j∈c,j≠m→0<af j r:=by
 obtain⟨S,hS⟩:∃S:Li→Rat,∀j∈c,af j p≤0→S j*(af j q-af j p)=af j q :=
  ⟨fun j=>af j q/(af j q-af j p),fun j hj h=>QS (hq j hj) h⟩
 obtain⟨k,hk',hmin⟩:=G5 S (c.filter fun j=>decide (af j p≤0)) (fun e=>by
  have:k∈c.filter fun j=>decide (af j p≤0):=cW.2 ⟨hk,a9 hp⟩
  rw [e]at this;cases this)
 rw [cW,cC]at hk';obtain⟨hk,hp⟩:=hk';have hs:=hS k hk hp;have hqk:=hq k hk;have hmin:∀j∈c,af j p≤0→S k≤S j:=fun j hj h=>hmin j (cW.2 ⟨hj,a9 h⟩)
 generalize S k=s at *;obtain⟨hs0,hs1⟩:=KP hs hqk hp;obtain⟨r,hr⟩:∃r:Pq,r=(q.1+s*(p.1-q.1),q.2+s*(p.2-q.2)):=⟨_,rfl⟩
 have hv:∀j,af j r=af j q+s*(af j p-af j q):=fun j=>by rw [hr];exact ov j p q s
 have hnn:∀j∈c,0≤af j r:=fun j hj=>by
  rw [hv];by_cases h:af j p≤0
  ·exact SB (hS j hj h) (hq j hj) h (hmin j hj h)
  ·exact f8 (EU hs0 hs1 (hq j hj) (nz.1 h))
 have hz:∀j∈c,af j r=0→af j p≤0:=fun j hj h=>by
  by_cases h':af j p≤0
  ·exact h'
  ·have:=EU hs0 hs1 (hq j hj) (nz.1 h');rw [←hv,h]at this;exact absurd this (by decide)
 have hkr:af k r=0:=by rw [hv];exact GC hs
 clear hS hmin hs0 hs1 hs hv hr;obtain⟨B,hB⟩:∃B:Li→Rat,∀j,B j=(j.a:Rat) * -(q.2-r.2)+(j.b:Rat)*(q.1-r.1):=⟨_,fun _=>rfl⟩
 obtain⟨G,hG⟩:∃G:Li→Rat,∀j∈c,G j*af j q=B j:=⟨fun j=>B j/af j q,fun j hj=>O0 (hq j hj)⟩
 obtain⟨m,hm',hmax⟩:=G5 (fun j => - G j) (c.filter fun j=>decide (af j r=0)) (fun e=>by
  have:k∈c.filter fun j=>decide (af j r=0):=cW.2 ⟨hk,a9 hkr⟩
  rw [e]at this;cases this)
 rw [cW,cC]at hm';obtain⟨hm,hmr⟩:=hm';have hmax:∀j∈c,af j r=0→G j≤G m:=fun j hj h=>QR (hmax j (cW.2 ⟨hj,a9 h⟩))
 obtain⟨e,he,hsm⟩:=oO (fun j=>af j r) (fun j=>G m*(af j q-af j r)-B j) (c.filter fun j=>decide (0<af j r)) (fun j hj=>by
  rw [cW,cC]at hj;exact hj.2)
 refine⟨m,hm,hz m hm hmr,_,(Cr m q r (e*G m) (-e)).trans ?_,fun j hj hne=>?_⟩
 ·rw [hmr,←hB];exact Tp (hG m hm)
 ·rw [Cr j q r (e*G m) (-e),←hB];by_cases h0:af j r=0
  ·rw [h0];by_cases heq:G j=G m
   ·refine absurd ?_ hne;exact EE (hok j hj) (hok m hm) (hq j hj) (hq m hm) h0 hmr (heq▸hG j hj) (hG m hm) (hB j) (hB m)
   ·exact Tt he (hq j hj) (Qk (hmax j hj h0) heq) (hG j hj)
  ·exact Tu (hsm j (cW.2 ⟨hj,a9 (Qk (hnn j hj) (fun e=>h0 e.symm))⟩) e he bP)
def Inn (c:List Li) (q:Pq):Prop:=∀l∈c,0<af l q
def Edg (c:List Li) (m:Li):Prop:=∃r,af m r=0∧∀j∈c,j≠m→0<af j r
theorem fU (j m:Li) (r:Pq) (e:Rat):af j (r.1+e*m.a,r.2+e*m.b)=af j r+e*((j.a:Rat)*m.a+j.b*m.b):=by unfold af;grind
theorem jr {m:Li}(h:m.ok):0<(m.a:Rat)*m.a+m.b*m.b:=by
 have a1:=GD (m.a:Rat);have a2:=GD (m.b:Rat)
 have:(m.a:Rat)*m.a+m.b*m.b≠0:=fun e=>by
  obtain⟨a,b⟩:=Qj e;have ha:m.a=0:=ii.1 a;have hb:m.b=0:=ii.1 b;rcases h.2 with h|h
  ·exact h ha
  ·exact h hb
 grind
theorem Edg.inn {c:List Li}{m:Li}(hm:m.ok) (h:Edg c m):∃q,Inn c q∧0<af m q:=by
 obtain⟨r,hr,hj⟩:=h
 obtain⟨e,he,hs⟩:=oO (fun j=>af j r) (fun j=>(j.a:Rat)*m.a+j.b*m.b) (c.filter fun j=>decide (j≠m)) (fun j h=>by
  rw [cW,cC]at h;exact hj j h.1 h.2)
 have hme:0<af m (r.1+e*m.a,r.2+e*m.b):=by
  rw [fU,hr,nA];exact ez he (jr hm)
 refine⟨(r.1+e*m.a,r.2+e*m.b),fun j h=>?_,hme⟩;by_cases hjm:j=m
 ·rw [hjm];exact hme
 ·rw [fU];exact hs j (cW.2 ⟨h,a9 hjm⟩) e he bP
theorem Inn.kept {c d:List Li}(hok:∀l∈c,l.ok){q p:Pq}(hq:Inn c q) (hd:∀m∈c,Edg c m→m∈d) (hp:Inn d p):Inn c p:=fun k hk=>by
 by_cases h:af k p≤0
 ·obtain⟨m,hm,h1,h2⟩:=cvx hok hq hk h;exact absurd (hp m (hd m hm h2)) (ig.2 h1)
 ·exact nz.1 h
theorem AQ {l:Li}(h:l.ok):∃p,af l p=0 :=
 ⟨(-(l.c:Rat)*l.a/((l.a:Rat)*l.a+l.b*l.b),-(l.c:Rat)*l.b/((l.a:Rat)*l.a+l.b*l.b)),by
  have:=jr h;unfold af;simp only;grind⟩
theorem Inn.edge {c:List Li}(hok:∀l∈c,l.ok){q:Pq}(hq:Inn c q) (hc:c≠[]):∃m∈c,Edg c m:=by
 obtain⟨k,hk⟩:=t7 c hc;obtain⟨p,hp⟩:=AQ (hok k hk);obtain⟨m,hm,_,h⟩:=cvx hok hq hk (show af k p≤0 by rw [hp];exact bP);exact⟨m,hm,h⟩
end Go.Ab
