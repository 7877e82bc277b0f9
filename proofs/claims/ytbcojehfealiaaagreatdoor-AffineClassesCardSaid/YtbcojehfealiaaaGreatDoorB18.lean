/- Texts laid one behind the other: RLn, GBase, Gm, Cvx, Ex. -/
import Derived.Test.YtbcojehfealiaaaGreatDoorB17
set_option linter.all false
set_option maxHeartbeats 16000000
namespace Go.Ab
open Go.Proofs
variable [Base]
theorem AB {a b:Int}(c:Int) (ha:il a≤1000000) (hb:il b≤1000000) (hc:il c≤1000000) (h:a≠0∨b≠0):Pu Tryz.prog 176 [int a,int b,int c] (Ab.tup [lq (dD a b c),lit (.bool true)]):=by
 have hg:=IS c h;have hg1:Nat.gcd a.natAbs b.natAbs≠0:=fun e=>by rw [Nat.gcd_eq_zero_iff]at e;omega
 have k1:=iw (a:=a.natAbs) (b:=b.natAbs) (n:=1000000) ha hb;have c1:=li a.natAbs b.natAbs (show il a≤_ by omega) (show il b≤_ by omega);have c2:=li (Nat.gcd a.natAbs b.natAbs) c.natAbs om (show il c≤_ by omega);have k2:=iw (a:=Nat.gcd a.natAbs b.natAbs) (b:=c.natAbs) (n:=1000000) k1 hc;have e:=sC c h;have ea:=congrArg Li.a e;have eb:=congrArg Li.b e;have ec:=congrArg Li.c e;clear e;simp only at ea eb ec;generalize dD a b c=l at *;have hn1:=lL hg1;generalize Nat.gcd a.natAbs b.natAbs=g1 at *;generalize Nat.gcd g1 c.natAbs=g at *;have d1:=eT a.natAbs g hg (show il a≤_ by omega) om;have d2:=eT b.natAbs g hg (show il b≤_ by omega) om;have d3:=eT c.natAbs g hg (show il c≤_ by omega) om;have m1:=aZ (decide (a<0)) (a.natAbs/g) (Nat.le_trans (aD (Nat.div_le_self _ _)) (show il a≤_ by omega));have m2:=aZ (decide (b<0)) (b.natAbs/g) (Nat.le_trans (aD (Nat.div_le_self _ _)) (show il b≤_ by omega));have m3:=aZ (decide (c<0)) (c.natAbs/g) (Nat.le_trans (aD (Nat.div_le_self _ _)) (show il c≤_ by omega));rw [←ea]at m1;rw [←eb]at m2;rw [←ec]at m3;clear ea eb ec ha hb hc hg hg1 k1 k2 h;refine Pi Tryz.func176 fun C=>?_
 repeat(first|(refine A1 ⟨?_⟩;intros)|refine W4 c1 ⟨?_⟩|refine W4 c2 ⟨?_⟩|refine W4 d1 ⟨?_⟩|refine W4 d2 ⟨?_⟩|refine W4 d3 ⟨?_⟩|refine W4 m1 ⟨?_⟩|refine W4 m2 ⟨?_⟩|refine W4 m3 ⟨?_⟩)
 exact G3
theorem fp (a:Int):Pu Tryz.prog 123 [int a] (rq (a:Rat)):=by
 rw [nW];refine Pi Tryz.func123 fun C=>?_
 repeat(refine A1 ⟨?_⟩;intros)
 exact aM (ax (RV.cellA rfl List.mem_cons_self rfl rfl) (Le.ag ⟨Le.refl _,Le.refl _,dX,trivial⟩))
theorem tL (x y u v:Rat) (hx:ht x≤100000) (hy:ht y≤100000) (hu:ht u≤100000) (hv:ht v≤100000):Pu Tryz.prog 175 [rp x y,rp u v] (rp (x-u) (y-v)):=by
 have o:=nX (-1) om om;have h1:ht ((-1:Int):Rat)≤1:=uG _ om;have a:=kM x y ((-1:Int):Rat) u v om om om om om;have e:∀x u:Rat,x+((-1:Int):Rat)*u=x-u:=fun x u=>by rw [show((-1:Int):Rat) = -1 from rfl];grind
 rw [e,e]at a;refine Pi Tryz.func175 fun C=>?_
 exact X2 o a
theorem i9 (l:Li) (h:l.le 1000000):Pu Tryz.prog 126 [lq l] (rp (l.b:Rat) (-(l.a:Rat))):=by
 have q1:=fp l.b;have q2:=fp l.a;have o:=jh (l.a:Rat) (by rw [bU];have:=h.a;omega);refine Pi Tryz.func126 fun C=>?_
 repeat(first|(refine A1 ⟨?_⟩;intros)|refine W4 q1 ⟨?_⟩|refine W4 q2 ⟨?_⟩|refine W4 o ⟨?_⟩)
 exact G1
theorem mB (l:Li) (h:l.le 1000000):Pu Tryz.prog 83 [lq l] (lq l.neg):=by
 have m1:=gJ l.a (show il l.a≤_ by have:=h.a;omega);have m2:=gJ l.b (show il l.b≤_ by have:=h.b;omega);have m3:=gJ l.c (show il l.c≤_ by have:=h.c;omega);refine Pi Tryz.func83 fun C=>?_
 repeat(first|(refine A1 ⟨?_⟩;intros)|refine W4 m1 ⟨?_⟩|refine W4 m2 ⟨?_⟩|refine W4 m3 ⟨?_⟩)
 exact G1
theorem Hp (l:Li) (h:l.le 1000000):Pu Tryz.prog 78 [lq l] (lq l):=by
 have m1:=ld l.a (by have:=h.a;omega);have m2:=ld l.b (by have:=h.b;omega);have m3:=ld l.c (by have:=h.c;omega);refine Pi Tryz.func78 fun C=>?_
 repeat(first|(refine A1 ⟨?_⟩;intros)|refine W4 m1 ⟨?_⟩|refine W4 m2 ⟨?_⟩|refine W4 m3 ⟨?_⟩)
 exact G1
theorem tP (x y u v:Rat) (hx:ht x≤1000000) (hy:ht y≤1000000) (hu:ht u≤1000000) (hv:ht v≤1000000) (h1:ht (x*u)≤3000000) (h2:ht (y*v)≤3000000):Pu Tryz.prog 179 [rp x y,rp u v] (rq (x*u+y*v)):=by
 have t1:=aT x u om om;have t2:=aT y v om om;have p:=ee (x*u) (y*v) h1 h2;refine Pi Tryz.func179 fun C=>?_
 repeat(first|(refine A1 ⟨?_⟩;intros)|refine W4 t1 ⟨?_⟩|refine W4 t2 ⟨?_⟩|refine W4 p ⟨?_⟩)
 exact G1
theorem kC (x y u v:Rat) (hx:ht x≤100000) (hy:ht y≤100000) (hu:ht u≤100000) (hv:ht v≤100000):Pu Tryz.prog 137 [rp x y,rp u v] (rq (x*v-y*u)):=by
 have h1:=af x v;have h2:=af y u;have t1:=aT x v om om;have t2:=aT y u om om;have p:=dP (x*v) (y*u) om om;refine Pi Tryz.func137 fun C=>?_
 repeat(first|(refine A1 ⟨?_⟩;intros)|refine W4 t1 ⟨?_⟩|refine W4 t2 ⟨?_⟩|refine W4 p ⟨?_⟩)
 exact G1
theorem qO {a:Rat}(m:Nat){n:Nat}(h:n=a.den*m):a*((n:Int):Rat)=((a.num*m:Int):Rat):=by
 subst h
 have h1:a*(a.den:Rat)=(a.num:Rat):=by
  conv=>lhs;lhs;rw [←Rat.mkRat_self a]
  rw [show(a.den:Rat)=mkRat (a.den:Int) 1 from(Rat.mkRat_one _).symm,Rat.mkRat_mul_mkRat,Nat.mul_one];have:=Rat.mkRat_mul_right (n:=a.num) (d:=1) a.den_nz;rw [Nat.one_mul]at this;rw [this,Rat.mkRat_one]
 rw [show(((a.den*m:Nat):Int):Rat)=(a.den:Rat)*(m:Rat)from by push_cast;rfl,←Rat.mul_assoc,h1];push_cast
 rfl
theorem Dn (m:Nat):LeL [ag [lit (.bool false),nat m,lit (.slice none 0 0)]] [rq ((m:Int):Rat)]:=by
 rw [nW];refine⟨Le.ag ⟨?_,?_,dX,trivial⟩,trivial⟩
 ·rw [decide_eq_false om];exact Le.refl _
 ·rw [Int.natAbs_natCast];exact Le.refl _
theorem q9 {x y u v:Rat}{L:Nat}(hL:L≤10000) (hx:ht x≤L) (hy:ht y≤L) (hu:ht u≤L) (hv:ht v≤L) (h:u-x≠0∨v-y≠0):Pu Tryz.prog 118 [rp x y,rp u v] (Ab.tup [lq (thr x y u v),lit (.bool true)]):=by
 have s:=tL u v x y om om om om;have k1:=dG u x;have k2:=dG v y;have k3:=cN (v-y);have n1:=jh (v-y) om;have k4:=af (-(v-y)) x;have k5:=af (u-x) y;have t1:=aT (-(v-y)) x om om;have t2:=aT (u-x) y om om;have k6:=aO (-(v-y)*x) ((u-x)*y);have p1:=ee (-(v-y)*x) ((u-x)*y) om om;have n2:=jh (-(v-y)*x+(u-x)*y) om;have k7:=cN (-(v-y)*x+(u-x)*y)
 have hab : -(v-y)≠0∨u-x≠0:=by
  rcases h with h|h
  ·exact .inr h
  ·exact .inl fun e=>h (by rw [←Rat.neg_neg (v-y),e];rfl)
 unfold thr;generalize -(v-y)=a at *;generalize u-x=b at *;generalize -(a*x+b*y)=c at *;have e1:=cl a;have e2:=cl b;have e3:=cl c;have l1:=bZ a;have l2:=bZ b;have l3:=bZ c;have l4:=bI a.den b.den;have l5:=bI (a.den*b.den) c.den;have q1:=dQ a.den b.den om om;have q2:=dQ (a.den*b.den) c.den om om;have m1:=aZ false (a.den*b.den*c.den) om;rw [xi,uB]at m1;obtain⟨m,hm⟩:∃m,m=a.den*b.den*c.den:=⟨_,rfl⟩
 have fa:=qO (a:=a) (b.den*c.den) (n:=m) (by rw [hm,Nat.mul_assoc]);have fb:=qO (a:=b) (a.den*c.den) (n:=m) (by rw [hm,Nat.mul_comm a.den,Nat.mul_assoc]);have fc:=qO (a:=c) (a.den*b.den) (n:=m) (by rw [hm,Nat.mul_comm])
 have hmp:(0:Rat)<((m:Int):Rat):=by
  have:0<m:=by rw [hm];exact Nat.mul_pos (Nat.mul_pos a.den_pos b.den_pos) c.den_pos
  exact_mod_cast this
 rw [←hm]at q2 m1 l5;have hmh:ht ((m:Int):Rat)≤max (dgs m).length 1:=by rw [bU];exact Nat.le_refl _
 have g1:=(aT a ((m:Int):Rat) om om).arg (l':=[rq a,ag [lit (.bool false),nat m,lit (.slice none 0 0)]]) ⟨Le.refl _,Dn m⟩;have g2:=(aT b ((m:Int):Rat) om om).arg (l':=[rq b,ag [lit (.bool false),nat m,lit (.slice none 0 0)]]) ⟨Le.refl _,Dn m⟩;have g3:=(aT c ((m:Int):Rat) om om).arg (l':=[rq c,ag [lit (.bool false),nat m,lit (.slice none 0 0)]]) ⟨Le.refl _,Dn m⟩;have o1:=af a ((m:Int):Rat);have o2:=af b ((m:Int):Rat);have o3:=af c ((m:Int):Rat);have ep:dD a b c=dD (((m:Int):Rat)*a) (((m:Int):Rat)*b) (((m:Int):Rat)*c):=(mL _ _ _ _ hmp).symm;rw [Rat.mul_comm _ a,Rat.mul_comm _ b,Rat.mul_comm _ c]at ep
 have hne:a*((m:Int):Rat)≠0∨b*((m:Int):Rat)≠0:=by
  have h0:((m:Int):Rat)≠0:=fun e=>by rw [e]at hmp;exact absurd hmp (by decide)
  rcases hab with h|h
  ·exact .inl fun e=>by rcases Rat.mul_eq_zero.1 e with e|e;exact h e;exact h0 e
  ·exact .inr fun e=>by rcases Rat.mul_eq_zero.1 e with e|e;exact h e;exact h0 e
 rw [fa]at g1 o1;rw [fb]at g2 o2;rw [fc]at g3 o3;rw [fa,fb,fc]at ep;rw [fa,fb]at hne;rw [ep];clear fa fb fc ep hmp hab h hm;generalize a.num*((b.den*c.den:Nat):Int)=A at *;generalize b.num*((a.den*c.den:Nat):Int)=B at *;generalize c.num*((a.den*b.den:Nat):Int)=C' at *;rw [bU]at o1 o2 o3
 have hne':A≠0∨B≠0:=by
  rcases hne with h|h
  ·exact .inl fun e=>h (by rw [e];rfl)
  ·exact .inr fun e=>h (by rw [e];rfl)
 have mk:=AB C' (a:=A) (b:=B) om om om hne';simp only [nW]at g1 g2 g3;generalize dD (A:Rat) (B:Rat) (C':Rat)=r at *;clear o1 o2 o3 hmh k1 k2 k3 k4 k5 k6 k7 l1 l2 l3 l4 l5 hne hne' hx hy hu hv;refine Pi Tryz.func118 fun C=>?_
 repeat(first|(refine AS ⟨?_⟩;intros)|(refine O1 ⟨?_⟩;intros)|(refine Wcx (s) ?_)|(refine dq (s) ?_)|(refine Wcx (n1) ?_)|(refine dq (n1) ?_))
 refine WdL 7 1 ?_;repeat(first|(refine A1 ⟨?_⟩;intros)|refine W4 n1 ⟨?_⟩)
 refine dL2 fun b7 b8=>?_
 refine Gs (sv:=rq a) (cs':=[lit (.bool (decide (a.num<0))),nat a.num.natAbs,dg (gb a.den)]) rfl rfl rfl (by first|exact .here _|exact .there _ (.here _)) rfl rfl ?_ ?_
 ·(repeat(first|exact LOk.nil|refine Lsk ?_|refine Lcv ?_))
 refine Gn ?_ ?_
 ·(repeat(first|exact LOk.nil|refine Lsk ?_|refine Lcv ?_))
 repeat(first|(refine A1 ⟨?_⟩;intros)|(refine Wo (sJ rfl rfl kr rfl) ?_)|(refine Wdo (sJ rfl rfl kr rfl) ?_)|refine W4 s ⟨?_⟩|refine W4 n1 ⟨?_⟩|refine W4 t1 ⟨?_⟩|refine W4 t2 ⟨?_⟩|refine W4 p1 ⟨?_⟩|refine W4 n2 ⟨?_⟩|refine W4 e1 ⟨?_⟩|refine W4 e2 ⟨?_⟩|refine W4 e3 ⟨?_⟩|refine W4 q1 ⟨?_⟩|refine W4 q2 ⟨?_⟩|refine W4 m1 ⟨?_⟩|refine W4 g1 ⟨?_⟩|refine W4 g2 ⟨?_⟩|refine W4 g3 ⟨?_⟩|refine W4 mk ⟨?_⟩)
 exact G3
theorem Li.le.gr {l:Li}{L L':Nat}(h:l.le L) (k:L≤L'):l.le L':=⟨Nat.le_trans h.a k,Nat.le_trans h.b k,Nat.le_trans h.c k⟩
theorem eA (z:Int){L:Nat}(h:il z≤L):ht (z:Rat)≤max L 1:=by
 rw [bU];omega
def Li.bf (l:Li):Rat := -((l.c:Rat)/((l.b:Rat)*l.b + -(l.a:Rat) * -(l.a:Rat)))
theorem Li.bf_ht {l:Li}(h:l.le 1):ht l.bf≤10:=by
 unfold Li.bf;have ha:ht (l.a:Rat)≤1:=by have:=eA l.a h.a;omega
 have hb:ht (l.b:Rat)≤1:=by have:=eA l.b h.b;omega
 have hc:ht (l.c:Rat)≤1:=by have:=eA l.c h.c;omega
 have h1:=af (l.b:Rat) l.b;have h2:=af (-(l.a:Rat)) (-(l.a:Rat));have h3:=aO ((l.b:Rat)*l.b) (-(l.a:Rat) * -(l.a:Rat));have h4:=ly ((l.b:Rat)*l.b + -(l.a:Rat) * -(l.a:Rat));have h5:=af (l.c:Rat) ((l.b:Rat)*l.b + -(l.a:Rat) * -(l.a:Rat))⁻¹;rw [cN]at h2⊢;rw [Rat.div_def];omega
theorem qx {l:Li}(hok:l.ok) (h:l.le 1):Pu Tryz.prog 125 [lq l] (rp (l.bf*l.a) (l.bf*l.b)):=by
 have hf:=Li.bf_ht h;have ha:ht (l.a:Rat)≤1:=by have:=eA l.a h.a;omega
 have hb:ht (l.b:Rat)≤1:=by have:=eA l.b h.b;omega
 have hc:ht (l.c:Rat)≤1:=by have:=eA l.c h.c;omega
 have h1:=af (l.b:Rat) l.b;have h2:=af (-(l.a:Rat)) (-(l.a:Rat));have h3:=aO ((l.b:Rat)*l.b) (-(l.a:Rat) * -(l.a:Rat));have ha':ht (-(l.a:Rat))≤1:=by rw [cN];exact ha
 have hn:=Li.n_pos hok
 have hne:((l.b:Rat)*l.b + -(l.a:Rat) * -(l.a:Rat)).num≠0:=fun e=>by
  have:(l.b:Rat)*l.b + -(l.a:Rat) * -(l.a:Rat)=0:=Rat.num_eq_zero.1 e;rw [this]at hn;exact absurd hn (by decide)
 have c1:=i9 l (h.gr om);have c2:=fp l.c;have c3:=tP (l.b:Rat) (-(l.a:Rat)) l.b (-(l.a:Rat)) om om om om om om;have c4:=iM (l.c:Rat) ((l.b:Rat)*l.b + -(l.a:Rat) * -(l.a:Rat)) om om hne;have hq:ht ((l.c:Rat)/((l.b:Rat)*l.b + -(l.a:Rat) * -(l.a:Rat)))≤10:=by rw [←cN];exact hf
 have c5:=jh ((l.c:Rat)/((l.b:Rat)*l.b + -(l.a:Rat) * -(l.a:Rat))) om;rw [show -((l.c:Rat)/((l.b:Rat)*l.b + -(l.a:Rat) * -(l.a:Rat)))=l.bf from rfl]at c5;have c6:=fp l.a;have c7:=fp l.b;have c8:=aT l.bf (l.a:Rat) om om;have c9:=aT l.bf (l.b:Rat) om om;clear hf ha hb hc h1 h2 h3 ha' hn hne hq;refine Pi Tryz.func125 fun C=>?_
 repeat(first|(refine A1 ⟨?_⟩;intros)|refine W4 c1 ⟨?_⟩|refine W4 c2 ⟨?_⟩|refine W4 c3 ⟨?_⟩|refine W4 c4 ⟨?_⟩|refine W4 c5 ⟨?_⟩|refine W4 c6 ⟨?_⟩|refine W4 c7 ⟨?_⟩|refine W4 c8 ⟨?_⟩|refine W4 c9 ⟨?_⟩)
 exact G1
abbrev Li.sm (l:Li):Prop:=l.ok∧l.le 1
abbrev hp (p:Pq) (n:Nat):Prop:=ht p.1≤n∧ht p.2≤n
theorem Li.sm.ht {l:Li}(h:l.sm):ht (l.a:Rat)≤1∧ht (l.b:Rat)≤1∧ht (l.c:Rat)≤1:=by
 have ha:=eA l.a h.2.a;have hb:=eA l.b h.2.b;have hc:=eA l.c h.2.c;omega
theorem lz (x y:Rat):Ab.ht (x/y)≤Ab.ht x+Ab.ht y+2:=by
 rw [Rat.div_def];have:=af x y⁻¹;have:=ly y;omega
def nt (p q:Pq):Rat:=p.1*q.1+p.2*q.2
def a7 (p q:Pq):Rat:=p.1*q.2-p.2*q.1
def dirL (l:Li):Pq:=((l.b:Rat),-(l.a:Rat))
def a6 (l:Li) (p:Pq):Rat:=(l.a:Rat)*p.1+(l.b:Rat)*p.2+(l.c:Rat)
def cM (l:Li) (p:Pq):Int:=(a6 l p).num.sign
def cP (p:Pq) (k:Rat) (v:Pq):Pq:=(p.1+k*v.1,p.2+k*v.2)
def aV (l:Li):Pq:=(l.bf*l.a,l.bf*l.b)
def atL (l:Li) (t:Rat):Pq:=cP (aV l) t (dirL l)
def bO (l:Li) (p:Pq):Rat:=nt p (dirL l)/nt (dirL l) (dirL l)
def cO (l m:Li):Rat:=(l.a:Rat)*m.b-m.a*l.b
def be (l m:Li):Pq:=(((l.b:Rat)*m.c-m.b*l.c)/cO l m,((m.a:Rat)*l.c-l.a*m.c)/cO l m)
def ie (l m:Li):Option Pq:=if cO l m=0 then none else some (be l m)
def lN (l m:Li):Int:=if(l.a + -m.a).sign≠0 then(l.a + -m.a).sign else if(l.b + -m.b).sign≠0 then(l.b + -m.b).sign else(l.c + -m.c).sign
def GF (l:Li):Bool:=decide (l.a<0∨l.a=0∧l.b<0)
def f7 (l:Li):Li:=if GF l then l.neg else l
def iu (v:Pq):Int:=if v.1=0∧v.2=0 then 0 else if 0<v.2∨v.2=0∧0<v.1 then 1 else 2
def fE (u v:Pq):Int:=if iu u≠iu v then(if iu u<iu v then -1 else 1)else -(a7 u v).num.sign
def mQ (a b c:Pq):Int:=(a7 (b.1-a.1,b.2-a.2) (c.1-a.1,c.2-a.2)).num.sign
theorem cZ {l:Li}(h:l.sm):hp (dirL l) 1:=by
 obtain⟨h1,h2,_⟩:=h.ht;exact⟨h2,by show Ab.ht (-(l.a:Rat))≤1;rw [cN];exact h1⟩
theorem pH {p q:Pq}{n m:Nat}(h:hp p n) (k:hp q m):Ab.ht (nt p q)≤2*n+2*m+3:=by
 have:=af p.1 q.1;have:=af p.2 q.2;have:=aO (p.1*q.1) (p.2*q.2);unfold nt;omega
theorem kQ {p q:Pq}{n m:Nat}(h:hp p n) (k:hp q m):Ab.ht (a7 p q)≤2*n+2*m+3:=by
 have:=af p.1 q.2;have:=af p.2 q.1;have:=dG (p.1*q.2) (p.2*q.1);unfold a7;omega
theorem tx {l:Li}{p:Pq}{n:Nat}(h:l.sm) (k:hp p n):Ab.ht (a6 l p)≤2*n+7:=by
 obtain⟨h1,h2,h3⟩:=h.ht;have:=af (l.a:Rat) p.1;have:=af (l.b:Rat) p.2;have:=aO ((l.a:Rat)*p.1) ((l.b:Rat)*p.2);have:=aO ((l.a:Rat)*p.1+(l.b:Rat)*p.2) (l.c:Rat);unfold a6;omega
theorem pR {p v:Pq}{k:Rat}{n m j:Nat}(h:hp p n) (hk:Ab.ht k≤j) (hv:hp v m):hp (cP p k v) (n+j+m+2):=by
 have:=af k v.1;have:=af k v.2;have:=aO p.1 (k*v.1);have:=aO p.2 (k*v.2);unfold cP;constructor <;> simp only <;> omega
theorem nJ {l:Li}(h:l.sm):hp (aV l) 12:=by
 obtain⟨h1,h2,h3⟩:=h.ht;have:=Li.bf_ht h.2;have:=af l.bf (l.a:Rat);have:=af l.bf (l.b:Rat);unfold aV;constructor <;> simp only <;> omega
theorem yw {l:Li}{t:Rat}{n:Nat}(h:l.sm) (k:Ab.ht t≤n):hp (atL l t) (n+15):=by
 have:=pR (nJ h) k (cZ h);unfold atL;exact⟨om,om⟩
theorem jo {l:Li}{p:Pq}{n:Nat}(h:l.sm) (k:hp p n):Ab.ht (bO l p)≤2*n+14:=by
 have h1:=pH k (cZ h);have h2:=pH (cZ h) (cZ h);have:=lz (nt p (dirL l)) (nt (dirL l) (dirL l));unfold bO;omega
theorem zY {l m:Li}(h:l.sm) (k:m.sm):Ab.ht (cO l m)≤7:=by
 obtain⟨h1,h2,h3⟩:=h.ht;obtain⟨k1,k2,k3⟩:=k.ht;have:=af (l.a:Rat) m.b;have:=af (m.a:Rat) l.b;have:=dG ((l.a:Rat)*m.b) (m.a*l.b);unfold cO;omega
theorem iT {l m:Li}(h:l.sm) (k:m.sm):hp (be l m) 16:=by
 have hd:=zY h k;obtain⟨h1,h2,h3⟩:=h.ht;obtain⟨k1,k2,k3⟩:=k.ht;have:=af (l.b:Rat) m.c;have:=af (m.b:Rat) l.c;have:=dG ((l.b:Rat)*m.c) (m.b*l.c);have:=af (m.a:Rat) l.c;have:=af (l.a:Rat) m.c;have:=dG ((m.a:Rat)*l.c) (l.a*m.c);have:=lz ((l.b:Rat)*m.c-m.b*l.c) (cO l m);have:=lz ((m.a:Rat)*l.c-l.a*m.c) (cO l m);unfold be;constructor <;> simp only <;> omega
theorem De {l m:Li}{p:Pq}(h:l.sm) (k:m.sm) (e:ie l m=some p):hp p 16:=by
 unfold ie at e;split at e
 ·cases e
 ·cases e;exact iT h k
theorem Li.sm.neg {l:Li}(h:l.sm):l.neg.sm:=by
 obtain⟨h1,h2⟩:=h;refine⟨⟨?_,?_⟩,?_,?_,?_⟩
 ·show Nat.gcd (Nat.gcd (-l.a).natAbs (-l.b).natAbs) (-l.c).natAbs=1
  rw [Int.natAbs_neg,Int.natAbs_neg,Int.natAbs_neg];exact h1.1
 ·rcases h1.2 with k|k
  ·left;show -l.a≠0;omega
  ·right;show -l.b≠0;omega
 ·show il (-l.a)≤1;rw [eV];exact h2.a
 ·show il (-l.b)≤1;rw [eV];exact h2.b
 ·show il (-l.c)≤1;rw [eV];exact h2.c
theorem Bt {l:Li}(h:l.sm):(f7 l).sm:=by
 unfold f7;split
 ·exact h.neg
 ·exact h
theorem eB {l m:Li}:lN l m=0↔l=m:=by
 unfold lN;obtain⟨a,b,c⟩:=l;obtain⟨d,e,f⟩:=m;simp only [Li.mk.injEq];by_cases h1:(a + -d).sign=0
 ·rw [if_neg (fun h=>h h1)];have:=Int.sign_eq_zero_iff_zero.1 h1;by_cases h2:(b + -e).sign=0
  ·rw [if_neg (fun h=>h h2)];have:=Int.sign_eq_zero_iff_zero.1 h2;rw [Int.sign_eq_zero_iff_zero];omega
  ·rw [if_pos h2];have:b + -e≠0:=fun k=>h2 (Int.sign_eq_zero_iff_zero.2 k)
   rw [Int.sign_eq_zero_iff_zero];omega
 ·rw [if_pos h1];have:a + -d≠0:=fun k=>h1 (Int.sign_eq_zero_iff_zero.2 k)
  rw [Int.sign_eq_zero_iff_zero];omega
instance:DecidableEq Li:=fun l m=>decidable_of_iff (lN l m=0) eB
theorem bh {x:Rat}:x.num.sign=0↔x=0:=by rw [Int.sign_eq_zero_iff_zero];exact Rat.num_eq_zero
section
variable {α:Type}
def fN (lt:α→α→Bool) (out:List α) (x:α):Nat:=(out.takeWhile fun o=>lt o x).length
def ws (lt:α→α→Bool) (out:List α) (x:α):List α:=out.take (fN lt out x)++x::out.drop (fN lt out x)
def fP [DecidableEq α] (lt:α→α→Bool) (out:List α) (x:α):List α:=if out[fN lt out x]? = some x then out else ws lt out x
theorem kG (lt:α→α→Bool) (out:List α) (x:α):fN lt out x≤out.length:=(List.takeWhile_sublist _).length_le
theorem kF {lt:α→α→Bool}{out:List α}{x o:α}{j:Nat}(hj:j≤fN lt out x) (ho:out[j]? = some o):(lt o x=true→j+1≤fN lt out x)∧(lt o x=false→j=fN lt out x):=by
 constructor
 ·intro h;by_cases he:j=fN lt out x
  ·unfold fN at he;rw [he]at ho;have:=pe ho;rw [h]at this;cases this
  ·omega
 ·intro h;by_cases he:j<fN lt out x
  ·have:=BO ho he;rw [h]at this;cases this
  ·omega
theorem Dq {lt:α→α→Bool}{out:List α}{x y:α}:y∈ws lt out x↔y=x∨y∈out:=by
 unfold ws;have e:y∈out↔y∈out.take (fN lt out x)∨y∈out.drop (fN lt out x):=by rw [←List.mem_append,List.take_append_drop]
 rw [List.mem_append,List.mem_cons,e];constructor
 ·rintro (h|h|h)
  ·exact .inr (.inl h)
  ·exact .inl h
  ·exact .inr (.inr h)
 ·rintro (h|h|h)
  ·exact .inr (.inl h)
  ·exact .inl h
  ·exact .inr (.inr h)
theorem Ds (lt:α→α→Bool) (out:List α) (x:α):(ws lt out x).length=out.length+1:=by
 have:=kG lt out x;unfold ws;rw [List.length_append,List.length_cons,List.length_take,List.length_drop];omega
theorem iY [DecidableEq α]{lt:α→α→Bool}{out:List α}{x y:α}:y∈fP lt out x↔y=x∨y∈out:=by
 unfold fP;split
 ·rename_i h;constructor
  ·exact .inr
  ·rintro (e|e)
   ·rw [e];exact List.mem_of_getElem? h
   ·exact e
 ·exact Dq
theorem iZ [DecidableEq α] (lt:α→α→Bool) (out:List α) (x:α):(fP lt out x).length≤out.length+1:=by
 unfold fP;split
 ·omega
 ·rw [Ds];omega
theorem td {β:Type}{f:List β→α→List β}{g:α→β}(h:∀out x y,y∈f out x↔y=g x∨y∈out):∀(l:List α) (out:List β) (y:β),y∈l.foldl f out↔(∃x∈l,y=g x)∨y∈out
 | [],out,y=>by simp
 |a::l,out,y=>by
  rw [List.foldl_cons,td h l,h];simp only [List.mem_cons,exists_eq_or_imp];constructor
  ·rintro (h|h|h)
   ·exact .inl (.inr h)
   ·exact .inl (.inl h)
   ·exact .inr h
  ·rintro ((h|h)|h)
   ·exact .inr (.inl h)
   ·exact .inl h
   ·exact .inr (.inr h)
theorem te {β:Type}{f:List β→α→List β}(h:∀out x,(f out x).length≤out.length+1):∀(l:List α) (out:List β),(l.foldl f out).length≤out.length+l.length
 | [],out=>by simp
 |a::l,out=>by
  have:=te h l (f out a);have:=h out a;rw [List.foldl_cons,List.length_cons];omega
theorem jx {β:Type}{f:β→α→β}{l:List α}{k:Nat}{a:α}{b:β}(h:l[k]? = some a):(l.take (k+1)).foldl f b=f ((l.take k).foldl f b) a:=by
 rw [cF h,List.foldl_append];rfl
end
abbrev rlt (x y:Rat):Bool:=decide ((x-y).num.sign<0)
abbrev llt (l m:Li):Bool:=decide (lN l m<0)
def jO (l:List Li):List Li:=l.foldl (fun out x=>fP llt out (f7 x)) []
theorem wJ {l:List Li}{y:Li}:y∈jO l↔∃x∈l,y=f7 x:=by
 unfold jO;rw [td (f:=fun out x=>fP llt out (f7 x)) (g:=f7) (fun out x y=>iY)];simp
theorem wK (l:List Li):(jO l).length≤l.length:=by
 have:=te (f:=fun out x=>fP llt out (f7 x)) (fun out x=>iZ llt out (f7 x)) l [];unfold jO;simpa using this
structure Spn where
 lo:Rat
 hi:Rat
 nl:Bool
 nh:Bool
abbrev Spn.full:Spn:=⟨0,0,true,true⟩
abbrev Spn.le (s:Spn) (n:Nat):Prop:=ht s.lo≤n∧ht s.hi≤n
def Br (s:Spn) (t:Rat):Int :=
 let a:Int:=if s.nl then 1 else(t-s.lo).num.sign
 let b:Int:=if s.nh then -1 else(t-s.hi).num.sign
 if 0<a∧b<0 then 2 else if(a=0∧b≤0)∨(b=0∧0≤a)then 1 else 0
def oJ:List Spn→Rat→Int
 | [],_=>0
 |s::l,t=>if Br s t=0 then oJ l t else Br s t
abbrev inL (l:List Spn) (t:Rat):Bool:=decide (oJ l t=2)
def gt (out:List Rat) (s:Spn):List Rat :=
 let o1:=if s.nl then out else fP rlt out s.lo
 if s.nh then o1 else fP rlt o1 s.hi
def cq (l:List Spn):List Rat:=l.foldl gt []
def gP (x y:Rat):Rat:=(x+y)/2
def dC:List Rat→List Rat
 | []=>[0]
 |c::cs=>(c-1)::(List.zipWith gP (c::cs) cs++[(c::cs).getLast (by simp)+1])
def opB (op:Int) (x y:Bool):Bool:=if op=2 then x&&y else if op=3 then x && !y else if op=4 then x != y else x||y
theorem qn {x:Rat}:0<x.num↔0<x:=by
 have h1:0≤x.num↔0≤x:=Rat.num_nonneg;have h2:x.num=0↔x=0:=Rat.num_eq_zero;constructor
 ·intro h;have:=h1.1 om;have:x≠0:=fun e=>by have:=h2.2 e;omega
  grind
 ·intro h;have:=h1.2 (Rat.le_of_lt h);have:x.num≠0:=fun e=>by have:=h2.1 e;grind
  omega
theorem vG {s:Rat}(h:0<s):s*(s.den:Rat)=((s.num.toNat:Nat):Rat):=by
 have h0:=qn.2 h
 have e:((s.num.toNat:Nat):Rat)=((s.num:Int):Rat):=by
  rw [←Rat.intCast_natCast,Int.toNat_of_nonneg om]
 rw [e];have h2:((s.den:Nat):Rat)≠0:=fun e=>s.den_nz (Rat.natCast_inj.1 (e.trans rfl))
 have h3:s=(s.num:Rat)/(s.den:Nat):=(Rat.mkRat_self s).symm.trans (Rat.mkRat_eq_div ..);grind
theorem fo {α:Type}(A B:α→Rat):∀(c:List α),(∀j∈c,0<A j)→∃e:Rat,0<e∧∀j∈c,∀t,0<t→t≤e→0<A j+t*B j
 | [],_=>⟨1,by decide,fun j h=>by cases h⟩
 |a::c,h=>by
  obtain⟨e,he,hc⟩:=fo A B c (fun j hj=>h j (Mc hj));have ha:=h a Ms;by_cases hb:0≤B a
  ·refine⟨e,he,fun j hj t ht hte=>?_⟩;rcases List.mem_cons.1 hj with rfl|hj
   ·have:=Rat.mul_nonneg (Rat.le_of_lt ht) hb;grind
   ·exact hc j hj t ht hte
  ·have hb':0 < - B a:=by grind
   obtain⟨u,hu⟩:∃u:Rat,u*(2 * - B a)=A a:=⟨A a/(2 * - B a),by grind⟩
   have hu0:0<u:=by
    rcases Rat.le_total (a:=u) (b:=0)with k|k
    ·have:=Rat.mul_nonneg (show 0≤-u by grind) (Rat.le_of_lt hb');grind
    ·grind
   have key:∀j∈a::c,∀t,0<t→t≤e→t≤u→0<A j+t*B j:=fun j hj t ht h1 h2=>by
    rcases List.mem_cons.1 hj with rfl|hj
    ·have:=Rat.mul_nonneg (show 0≤u-t by grind) (Rat.le_of_lt hb');grind
    ·exact hc j hj t ht h1
   rcases Rat.le_total (a:=e) (b:=u)with k|k
   ·exact⟨e,he,fun j hj t ht h1=>key j hj t ht h1 (by grind)⟩
   ·exact⟨u,hu0,fun j hj t ht h1=>key j hj t ht (by grind) h1⟩
theorem yx {α:Type}(f:α→Rat):∀(l:List α),l≠[]→∃a∈l,∀b∈l,f a≤f b
 | [],h=>absurd rfl h
 | [a],_=>⟨a,Ms,fun b hb=>by rw [List.mem_singleton]at hb;subst hb;exact Rat.le_refl⟩
 |a::b::l,_=>by
  obtain⟨m,hm,hmin⟩:=yx f (b::l) (by simp);rcases Rat.le_total (a:=(f a)) (b:=(f m))with k|k
  ·refine⟨a,Ms,fun x hx=>?_⟩;rcases List.mem_cons.1 hx with rfl|hx
   ·exact Rat.le_refl
   ·have:=hmin x hx;grind
  ·refine⟨m,Mc hm,fun x hx=>?_⟩;rcases List.mem_cons.1 hx with rfl|hx
   ·exact k
   ·exact hmin x hx
theorem Li.prop_eq {l m:Li}(hl:l.ok) (hm:m.ok){s t:Nat}(hs:0<s) (ha:s*l.a=t*m.a) (hb:s*l.b=t*m.b) (hc:s*l.c=t*m.c):l=m:=by
 have h1:s=t:=by
  have e:=congrArg Int.natAbs ha;have f:=congrArg Int.natAbs hb;have g:=congrArg Int.natAbs hc;rw [Int.natAbs_mul,Int.natAbs_mul,Int.natAbs_natCast,Int.natAbs_natCast]at e f g;have k1:Nat.gcd (Nat.gcd (s*l.a.natAbs) (s*l.b.natAbs)) (s*l.c.natAbs)=s:=by rw [Nat.gcd_mul_left,Nat.gcd_mul_left,hl.1,Nat.mul_one]
  have k2:Nat.gcd (Nat.gcd (t*m.a.natAbs) (t*m.b.natAbs)) (t*m.c.natAbs)=t:=by rw [Nat.gcd_mul_left,Nat.gcd_mul_left,hm.1,Nat.mul_one]
  rw [e,f,g]at k1;omega
 subst h1;have hz:(s:Int)≠0:=by omega
 obtain⟨a,b,c⟩:=l;obtain⟨d,e,f⟩:=m;simp only at ha hb hc;rw [Int.mul_eq_mul_left_iff hz]at ha hb hc;rw [ha,hb,hc]
theorem Li.prop_eqR {l m:Li}(hl:l.ok) (hm:m.ok){s t:Rat}(hs:0<s) (ht:0<t) (ha:s*l.a=t*m.a) (hb:s*l.b=t*m.b) (hc:s*l.c=t*m.c):l=m:=by
 have q1:=vG hs;have q2:=vG ht
 have key:∀x y:Int,s*x=t*y→((s.num.toNat*t.den:Nat):Int)*x=((t.num.toNat*s.den:Nat):Int)*y:=fun x y h=>by
  refine Rat.intCast_inj.1 ?_;rw [Rat.intCast_mul,Rat.intCast_mul,Rat.intCast_natCast,Rat.intCast_natCast,Rat.natCast_mul,Rat.natCast_mul,←q1,←q2];grind
 have h0:=qn.2 hs;exact Li.prop_eq hl hm (s:=s.num.toNat*t.den) (t:=t.num.toNat*s.den) (Nat.mul_pos om t.den_pos) (key _ _ ha) (key _ _ hb) (key _ _ hc)
theorem yT (x:Rat):0≤x*x:=by
 rcases Rat.le_total (a:=x) (b:=0)with h|h
 ·have:=Rat.mul_nonneg (show 0≤-x by grind) (show 0≤-x by grind);grind
 ·exact Rat.mul_nonneg h h
theorem HF (x y z:Rat):x*(y*z)=z*(y*x):=by grind
theorem jk {n x y:Rat}(h:n≠0) (k:n*x=n*y):x=y:=by
 have:n*(x-y)=0:=by grind
 rcases Rat.mul_eq_zero.1 this with e|e
 ·exact absurd e h
 ·grind
theorem Ct {u1 u2 ja jb ma mb A B bj bm:Rat}(n0:u1*u1+u2*u2≠0) (d1:ja*u1+jb*u2=A) (d2:ma*u1+mb*u2=B) (w1:bj=ja * -u2+jb*u1) (w2:bm=ma * -u2+mb*u1) (e1:B*bj=A*bm) :
  B*ja=A*ma∧B*jb=A*mb:=by
 have p1:(u1*u1+u2*u2)*ja=u1*A-u2*bj:=by rw [←d1,w1];grind
 have p2:(u1*u1+u2*u2)*ma=u1*B-u2*bm:=by rw [←d2,w2];grind
 have p3:(u1*u1+u2*u2)*jb=u2*A+u1*bj:=by rw [←d1,w1];grind
 have p4:(u1*u1+u2*u2)*mb=u2*B+u1*bm:=by rw [←d2,w2];grind
 clear d1 d2 w1 w2;generalize u1*u1+u2*u2=n at *;constructor
 ·refine jk n0 ?_;have:n*(B*ja)=B*(n*ja):=by grind
  rw [this,p1];have:n*(A*ma)=A*(n*ma):=by grind
  rw [this,p2];have:B*(u1*A-u2*bj)=B*(u1*A)-u2*(B*bj):=by grind
  rw [this,e1];grind
 ·refine jk n0 ?_;have:n*(B*jb)=B*(n*jb):=by grind
  rw [this,p3];have:n*(A*mb)=A*(n*mb):=by grind
  rw [this,p4];have:B*(u2*A+u1*bj)=B*(u2*A)+u1*(B*bj):=by grind
  rw [this,e1];grind
theorem Ji {j m:Li}{A B:Rat}{r:Pq}(ea:B*j.a=A*m.a) (eb:B*j.b=A*m.b) (h:a6 j r=0) (k:a6 m r=0):B*j.c=A*m.c:=by
 unfold a6 at h k;have h1:(j.c:Rat) = -(j.a*r.1+j.b*r.2):=by grind
 have h2:(m.c:Rat) = -(m.a*r.1+m.b*r.2):=by grind
 rw [h1,h2];have:B * -(j.a*r.1+j.b*r.2) = -((B*j.a)*r.1+(B*j.b)*r.2):=by grind
 rw [this,ea,eb];grind
theorem Cu {s Q P:Rat}(h:s*(Q-P)=Q) (hq:0<Q) (hp:P≤0):0<s∧s≤1:=by
 constructor
 ·rcases Rat.le_total (a:=s) (b:=0)with k|k
  ·have:=Rat.mul_nonneg (show 0≤-s by grind) (show 0≤Q-P by grind);grind
  ·by_cases e:s=0
   ·rw [e]at h;grind
   ·grind
 ·rcases Rat.le_total (a:=s) (b:=1)with k|k
  ·exact k
  ·by_cases e:s=1
   ·grind
   ·have:=Rat.mul_pos (show 0<s-1 by grind) (show 0<Q-P by grind);grind
theorem xH {s Q P:Rat}(h0:0<s) (h1:s≤1) (hq:0<Q) (hp:0<P):0<Q+s*(P-Q):=by
 have a:=Rat.mul_nonneg (show 0≤1-s by grind) (Rat.le_of_lt hq);have b:=Rat.mul_pos h0 hp;grind
theorem IH {s t Q P:Rat}(h:t*(Q-P)=Q) (hq:0<Q) (hp:P≤0) (hs:s≤t):0≤Q+s*(P-Q):=by
 have a:=Rat.mul_nonneg (show 0≤t-s by grind) (show 0≤Q-P by grind);grind
theorem yS {s Q P:Rat}(h:s*(Q-P)=Q):Q+s*(P-Q)=0:=by
 have:Q+s*(P-Q)=Q-s*(Q-P):=by grind
 rw [this,h];grind
theorem HE {P Q:Rat}(hq:0<Q) (hp:P≤0):Q/(Q-P)*(Q-P)=Q:=Rat.div_mul_cancel (by grind)
theorem EY {P Q:Rat}(hq:0<Q):P/Q*Q=P:=Rat.div_mul_cancel (by grind)
theorem i7 (j:Li) (p q:Pq) (s:Rat):a6 j (q.1+s*(p.1-q.1),q.2+s*(p.2-q.2))=a6 j q+s*(a6 j p-a6 j q):=by unfold a6;grind
theorem vg (j:Li) (q r:Pq) (x y:Rat):a6 j (r.1+x*(q.1-r.1)-y*(q.2-r.2),r.2+x*(q.2-r.2)+y*(q.1-r.1))=a6 j r+x*(a6 j q-a6 j r)+y*((j.a:Rat) * -(q.2-r.2)+(j.b:Rat)*(q.1-r.1)):=by unfold a6;simp only;grind
theorem yC (j:Li) (q r:Pq) (h:a6 j r=0):(j.a:Rat)*(q.1-r.1)+j.b*(q.2-r.2)=a6 j q:=by unfold a6 at *;grind
theorem H5 {x y:Rat}(h:x*x+y*y=0):x=0∧y=0:=by
 have a1:=yT x;have a2:=yT y;have b1:x*x=0:=by grind
 have b2:y*y=0:=by grind
 exact⟨by rcases Rat.mul_eq_zero.1 b1 with h|h <;> exact h,by rcases Rat.mul_eq_zero.1 b2 with h|h <;> exact h⟩
theorem Jf {e g Q B:Rat}(h:g*Q=B):0+e*g*(Q-0) + -e*B=0:=by rw [←h];grind
theorem Jg {e g k Q B:Rat}(he:0<e) (hq:0<Q) (hk:k<g) (h:k*Q=B):0<0+e*g*(Q-0) + -e*B:=by
 have:=Rat.mul_pos (Rat.mul_pos he hq) (show 0<g-k by grind);rw [←h];grind
theorem Jh {e g Q V B:Rat}(h:0<V+e*(g*(Q-V)-B)):0<V+e*g*(Q-V) + -e*B:=by
 have:V+e*g*(Q-V) + -e*B=V+e*(g*(Q-V)-B):=by grind
 rw [this];exact h
theorem H6 {x y:Rat}(h:x≤y) (k:x≠y):x<y:=by grind
theorem HD {x y:Rat}(h : -x≤-y):y≤x:=by grind
theorem xr {j m:Li}(hj:j.ok) (hm:m.ok){q r:Pq}(q1:0<a6 j q) (q2:0<a6 m q) (h0:a6 j r=0) (hmr:a6 m r=0){g B C:Rat}(g1:g*a6 j q=B) (g2:g*a6 m q=C)
  (w1:B=(j.a:Rat) * -(q.2-r.2)+(j.b:Rat)*(q.1-r.1)) (w2:C=(m.a:Rat) * -(q.2-r.2)+(m.b:Rat)*(q.1-r.1)):j=m:=by
 have d1:=yC j q r h0;have d2:=yC m q r hmr
 have n0:(q.1-r.1)*(q.1-r.1)+(q.2-r.2)*(q.2-r.2)≠0:=fun h=>by
  obtain⟨a,b⟩:=H5 h;rw [a,b,Rat.mul_zero,Rat.mul_zero]at d2;rw [←d2]at q2;exact absurd q2 (by rw [Rat.add_zero];decide)
 have e1:a6 m q*B=a6 j q*C:=by rw [←g1,←g2];exact HF _ _ _
 obtain⟨ea,eb⟩:=Ct n0 d1 d2 w1 w2 e1;exact Li.prop_eqR hj hm q2 q1 ea eb (Ji ea eb h0 hmr)
theorem cvx {c:List Li}(hok:∀l∈c,l.ok){q p:Pq}(hq:∀l∈c,0<a6 l q){k:Li}(hk:k∈c) (hp:a6 k p≤0) :
  ∃m∈c,a6 m p≤0∧∃r,a6 m r=0∧∀j∈c,j≠m→0<a6 j r:=by
 obtain⟨S,hS⟩:∃S:Li→Rat,∀j∈c,a6 j p≤0→S j*(a6 j q-a6 j p)=a6 j q :=
  ⟨fun j=>a6 j q/(a6 j q-a6 j p),fun j hj h=>HE (hq j hj) h⟩
 obtain⟨k,hk',hmin⟩:=yx S (c.filter fun j=>decide (a6 j p≤0)) (fun e=>by
  have:k∈c.filter fun j=>decide (a6 j p≤0):=List.mem_filter.2 ⟨hk,decide_eq_true hp⟩
  rw [e]at this;cases this)
 rw [List.mem_filter,decide_eq_true_eq]at hk';obtain⟨hk,hp⟩:=hk';have hs:=hS k hk hp;have hqk:=hq k hk;have hmin:∀j∈c,a6 j p≤0→S k≤S j:=fun j hj h=>hmin j (List.mem_filter.2 ⟨hj,decide_eq_true h⟩)
 generalize S k=s at *;obtain⟨hs0,hs1⟩:=Cu hs hqk hp;obtain⟨r,hr⟩:∃r:Pq,r=(q.1+s*(p.1-q.1),q.2+s*(p.2-q.2)):=⟨_,rfl⟩
 have hv:∀j,a6 j r=a6 j q+s*(a6 j p-a6 j q):=fun j=>by rw [hr];exact i7 j p q s
 have hnn:∀j∈c,0≤a6 j r:=fun j hj=>by
  rw [hv];by_cases h:a6 j p≤0
  ·exact IH (hS j hj h) (hq j hj) h (hmin j hj h)
  ·exact Rat.le_of_lt (xH hs0 hs1 (hq j hj) (Rat.not_le.1 h))
 have hz:∀j∈c,a6 j r=0→a6 j p≤0:=fun j hj h=>by
  by_cases h':a6 j p≤0
  ·exact h'
  ·have:=xH hs0 hs1 (hq j hj) (Rat.not_le.1 h');rw [←hv,h]at this;exact absurd this (by decide)
 have hkr:a6 k r=0:=by rw [hv];exact yS hs
 clear hS hmin hs0 hs1 hs hv hr;obtain⟨B,hB⟩:∃B:Li→Rat,∀j,B j=(j.a:Rat) * -(q.2-r.2)+(j.b:Rat)*(q.1-r.1):=⟨_,fun _=>rfl⟩
 obtain⟨G,hG⟩:∃G:Li→Rat,∀j∈c,G j*a6 j q=B j:=⟨fun j=>B j/a6 j q,fun j hj=>EY (hq j hj)⟩
 obtain⟨m,hm',hmax⟩:=yx (fun j => - G j) (c.filter fun j=>decide (a6 j r=0)) (fun e=>by
  have:k∈c.filter fun j=>decide (a6 j r=0):=List.mem_filter.2 ⟨hk,decide_eq_true hkr⟩
  rw [e]at this;cases this)
 rw [List.mem_filter,decide_eq_true_eq]at hm';obtain⟨hm,hmr⟩:=hm';have hmax:∀j∈c,a6 j r=0→G j≤G m:=fun j hj h=>HD (hmax j (List.mem_filter.2 ⟨hj,decide_eq_true h⟩))
 obtain⟨e,he,hsm⟩:=fo (fun j=>a6 j r) (fun j=>G m*(a6 j q-a6 j r)-B j) (c.filter fun j=>decide (0<a6 j r)) (fun j hj=>by
  rw [List.mem_filter,decide_eq_true_eq]at hj;exact hj.2)
 refine⟨m,hm,hz m hm hmr,_,(vg m q r (e*G m) (-e)).trans ?_,fun j hj hne=>?_⟩
 ·rw [hmr,←hB];exact Jf (hG m hm)
 ·rw [vg j q r (e*G m) (-e),←hB];by_cases h0:a6 j r=0
  ·rw [h0];by_cases heq:G j=G m
   ·refine absurd ?_ hne;exact xr (hok j hj) (hok m hm) (hq j hj) (hq m hm) h0 hmr (heq▸hG j hj) (hG m hm) (hB j) (hB m)
   ·exact Jg he (hq j hj) (H6 (hmax j hj h0) heq) (hG j hj)
  ·exact Jh (hsm j (List.mem_filter.2 ⟨hj,decide_eq_true (H6 (hnn j hj) (fun e=>h0 e.symm))⟩) e he Rat.le_refl)
def Inn (c:List Li) (q:Pq):Prop:=∀l∈c,0<a6 l q
def Edg (c:List Li) (m:Li):Prop:=∃r,a6 m r=0∧∀j∈c,j≠m→0<a6 j r
theorem bS (j m:Li) (r:Pq) (e:Rat):a6 j (r.1+e*m.a,r.2+e*m.b)=a6 j r+e*((j.a:Rat)*m.a+j.b*m.b):=by unfold a6;grind
theorem cW {m:Li}(h:m.ok):0<(m.a:Rat)*m.a+m.b*m.b:=by
 have a1:=yT (m.a:Rat);have a2:=yT (m.b:Rat)
 have:(m.a:Rat)*m.a+m.b*m.b≠0:=fun e=>by
  obtain⟨a,b⟩:=H5 e;have ha:m.a=0:=Rat.intCast_eq_zero_iff.1 a;have hb:m.b=0:=Rat.intCast_eq_zero_iff.1 b;rcases h.2 with h|h
  ·exact h ha
  ·exact h hb
 grind
theorem Edg.inn {c:List Li}{m:Li}(hm:m.ok) (h:Edg c m):∃q,Inn c q∧0<a6 m q:=by
 obtain⟨r,hr,hj⟩:=h
 obtain⟨e,he,hs⟩:=fo (fun j=>a6 j r) (fun j=>(j.a:Rat)*m.a+j.b*m.b) (c.filter fun j=>decide (j≠m)) (fun j h=>by
  rw [List.mem_filter,decide_eq_true_eq]at h;exact hj j h.1 h.2)
 have hme:0<a6 m (r.1+e*m.a,r.2+e*m.b):=by
  rw [bS,hr,Rat.zero_add];exact Rat.mul_pos he (cW hm)
 refine⟨(r.1+e*m.a,r.2+e*m.b),fun j h=>?_,hme⟩;by_cases hjm:j=m
 ·rw [hjm];exact hme
 ·rw [bS];exact hs j (List.mem_filter.2 ⟨h,decide_eq_true hjm⟩) e he Rat.le_refl
theorem Inn.kept {c d:List Li}(hok:∀l∈c,l.ok){q p:Pq}(hq:Inn c q) (hd:∀m∈c,Edg c m→m∈d) (hp:Inn d p):Inn c p:=fun k hk=>by
 by_cases h:a6 k p≤0
 ·obtain⟨m,hm,h1,h2⟩:=cvx hok hq hk h;exact absurd (hp m (hd m hm h2)) (Rat.not_lt.2 h1)
 ·exact Rat.not_le.1 h
theorem tc {l:Li}(h:l.ok):∃p,a6 l p=0 :=
 ⟨(-(l.c:Rat)*l.a/((l.a:Rat)*l.a+l.b*l.b),-(l.c:Rat)*l.b/((l.a:Rat)*l.a+l.b*l.b)),by
  have:=cW h;unfold a6;simp only;grind⟩
theorem Inn.edge {c:List Li}(hok:∀l∈c,l.ok){q:Pq}(hq:Inn c q) (hc:c≠[]):∃m∈c,Edg c m:=by
 obtain⟨k,hk⟩:=List.exists_mem_of_ne_nil c hc;obtain⟨p,hp⟩:=tc (hok k hk);obtain⟨m,hm,_,h⟩:=cvx hok hq hk (show a6 k p≤0 by rw [hp];exact Rat.le_refl);exact⟨m,hm,h⟩
section
variable {P:Program}{F:Fr}{H:LH}{ty:TypeId}
theorem aP.exAt {m:Mem}{α:Type}{g:α→SV}:∀{pre post:List SV}{vs:List Value},aP m (pre++ex g::post) vs→∃x,aP m (pre++g x::post) vs
 | [],_,[],h=>h.elim
 | [],_,v::vs,h=>by
  have h1:=h.1;unfold ex at h1;obtain⟨x,hx⟩:=h1;exact⟨x,hx,h.2⟩
 |_::_,_,[],h=>h.elim
 |s::pre,post,v::vs,h=>by
  obtain⟨x,hx⟩:=aP.exAt (pre:=pre) (post:=post) h.2;exact⟨x,h.1,hx⟩
theorem Hh {α:Type}{m:Mem}{v:Value}{g:α→SV}(x:α) (h:(g x).p m v):(ex g).p m v:=by unfold ex;exact⟨x,h⟩
theorem Le.exL {α:Type}{g:α→SV}{s:SV}(h:∀x,Le (g x) s):Le (Ab.ex g) s:=fun m v hv=>by
 unfold Ab.ex at hv;obtain⟨x,hx⟩:=hv;exact h x m v hx
theorem Pu.exAt {f:FuncId}{α:Type}(pre post:List SV){g r:α→SV}(x0:α) (h:∀x,Pu P f (pre++g x::post) (r x)):Pu P f (pre++ex g::post) (ex r):=by
 unfold Pu at *
 exact⟨(h x0).1,fun m w vs hm ha=>by
  obtain⟨x,hx⟩:=ha.exAt;exact((h x).2 m w vs hm hx).mono fun _ _ ⟨v,m',e,hp,k⟩=>⟨v,m',e,Hh x hp,k⟩⟩
theorem OpV.mono' {op:Op}{s s':SV}(h:OpV P op ty F H s) (k:Le s s'):OpV P op ty F H s':=by
 unfold OpV at *;exact fun m w o a ho hty h1 h2 h3 K Q hK=>h m w o a ho hty h1 h2 h3 K Q fun v m' w' hp=>hK v m' w' (k _ _ hp)
theorem OpV.exc {op:Op}{α:Type}(t:Nat){f:α→SV}{s:SV}(x0:α) (hf:F t=ex f) (h:∀x,OpV P op ty (upd F t (f x)) H s):OpV P op ty F H s:=by
  unfold OpV at *;intro m w o a ho hty h1 h2 h3 K Q hK
  have key:∃x:α,(.tmp t∈op.operands→(f x).p m (a.eval (.tmp t))):=by
   by_cases ht : .tmp t∈op.operands
   ·have h0:=h3 t ht;rw [hf]at h0;unfold ex at h0;obtain⟨x,hx⟩:=h0;exact⟨x,fun _=>hx⟩
   ·exact⟨x0,fun k=>(ht k).elim⟩
  obtain⟨x,hx⟩:=key;refine h x m w o a ho hty h1 h2 (fun t' ht'=>?_) K Q hK;by_cases e:t'=t
  ·subst e;rw [aA];exact hx ht'
  ·rw [au e];exact h3 t' ht'
theorem OpV.exd {op:Op}{α:Type}(t:Nat){f g:α→SV}(x0:α) (hf:F t=ex f) (h:∀x,OpV P op ty (upd F t (f x)) H (g x)):OpV P op ty F H (ex g) :=
 OpV.exc t x0 hf fun x=>(h x).mono' fun _ _ hp=>Hh x hp
end
end Go.Ab
