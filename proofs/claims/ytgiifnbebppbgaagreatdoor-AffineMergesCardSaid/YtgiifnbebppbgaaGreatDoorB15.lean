/- Texts laid one behind the other: RLn, RgM, GBase, Gm, Cvx. -/
import Derived.Test.YtgiifnbebppbgaaGreatDoorB12
import Derived.Test.YtgiifnbebppbgaaGreatDoorB13
import Derived.Test.YtgiifnbebppbgaaGreatDoorLate
set_option linter.unusedSectionVars false
set_option linter.unusedVariables false
set_option linter.unusedSimpArgs false
namespace Go.Ab
open Go.Proofs
variable [Base]
theorem rmakeL_pu {a b:Int}(c:Int) (ha:il a≤1000000) (hb:il b≤1000000) (hc:il c≤1000000) (h:a≠0∨b≠0):Pu Tryz.prog 137 [int a,int b,int c] (Ab.tup [lq (prim a b c),lit (.bool true)]):=by
 have hg:=g_ne c h
 have hg1:Nat.gcd a.natAbs b.natAbs≠0:=fun e=>by rw [Nat.gcd_eq_zero_iff]at e;omega
 have k1:=dlen_gcd_le (a:=a.natAbs) (b:=b.natAbs) (n:=1000000) ha hb
 have c1:=rcommon_pu a.natAbs b.natAbs (show il a≤_ by omega) (show il b≤_ by omega)
 have c2:=rcommon_pu (Nat.gcd a.natAbs b.natAbs) c.natAbs (by omega) (show il c≤_ by omega)
 have k2:=dlen_gcd_le (a:=Nat.gcd a.natAbs b.natAbs) (b:=c.natAbs) (n:=1000000) k1 hc
 have e:=prim_ints c h
 have ea:=congrArg Li.a e
 have eb:=congrArg Li.b e
 have ec:=congrArg Li.c e
 clear e
 simp only at ea eb ec
 generalize prim a b c=l at *
 have hn1:=dgs_ne_nil hg1
 generalize Nat.gcd a.natAbs b.natAbs=g1 at *
 generalize Nat.gcd g1 c.natAbs=g at *
 have d1:=rdivide_pu a.natAbs g hg (show il a≤_ by omega) (by omega)
 have d2:=rdivide_pu b.natAbs g hg (show il b≤_ by omega) (by omega)
 have d3:=rdivide_pu c.natAbs g hg (show il c≤_ by omega) (by omega)
 have m1:=rmake_pu (decide (a<0)) (a.natAbs/g) (Nat.le_trans (len_mono (Nat.div_le_self _ _)) (show il a≤_ by omega))
 have m2:=rmake_pu (decide (b<0)) (b.natAbs/g) (Nat.le_trans (len_mono (Nat.div_le_self _ _)) (show il b≤_ by omega))
 have m3:=rmake_pu (decide (c<0)) (c.natAbs/g) (Nat.le_trans (len_mono (Nat.div_le_self _ _)) (show il c≤_ by omega))
 rw [←ea]at m1
 rw [←eb]at m2
 rw [←ec]at m3
 clear ea eb ec ha hb hc hg hg1 k1 k2 h
 refine Pu.intro Tryz.func137 rfl (by kernel_rfl) fun C=>?_
 repeat(first|(refine A1 ⟨?_⟩;intros)|refine W4 c1 ⟨?_⟩|refine W4 c2 ⟨?_⟩|refine W4 d1 ⟨?_⟩|refine W4 d2 ⟨?_⟩|refine W4 d3 ⟨?_⟩|refine W4 m1 ⟨?_⟩|refine W4 m2 ⟨?_⟩|refine W4 m3 ⟨?_⟩)
 ((first|refine endR ?_|refine endN ?_);exact end2 RVa (RV.tmp rfl) (Le.refl _))
theorem rgq_pu (a:Int):Pu Tryz.prog 119 [int a] (rq (a:Rat)):=by
 rw [rq_int]
 refine Pu.intro Tryz.func119 rfl (by kernel_rfl) fun C=>?_
 repeat(refine A1 ⟨?_⟩;intros)
 exact endR (end1 (RV.cellA rfl List.mem_cons_self rfl rfl) (Le.ag ⟨Le.refl _,Le.refl _,le_nil,trivial⟩))
theorem rsub_pt (x y u v:Rat) (hx:ht x≤100000) (hy:ht y≤100000) (hu:ht u≤100000) (hv:ht v≤100000):Pu Tryz.prog 135 [rp x y,rp u v] (rp (x-u) (y-v)):=by
 have o:=rof_pu (-1) (by omega) (by omega)
 have h1:ht ((-1:Int):Rat)≤1:=ht_int _ (by omega)
 have a:=gadd_pu x y ((-1:Int):Rat) u v (by omega) (by omega) (by omega) (by omega) (by omega)
 have e:∀x u:Rat,x+((-1:Int):Rat)*u=x-u:=fun x u=>by rw [show((-1:Int):Rat) = -1 from rfl];grind
 rw [e,e]at a
 refine Pu.intro Tryz.func135 rfl (by kernel_rfl) fun C=>?_
 repeat(first|(refine A1 ⟨?_⟩;intros)|refine W4 o ⟨?_⟩|refine W4 a ⟨?_⟩)
 ((first|refine endR ?_|refine endN ?_);refine end1 RVa (Le.refl _))
theorem rdir_pu (l:Li) (h:l.le 1000000):Pu Tryz.prog 122 [lq l] (rp (l.b:Rat) (-(l.a:Rat))):=by
 have q1:=rgq_pu l.b
 have q2:=rgq_pu l.a
 have o:=ropp_pu (l.a:Rat) (by rw [ht_of_int];have:=h.a;omega)
 refine Pu.intro Tryz.func122 rfl (by kernel_rfl) fun C=>?_
 repeat(first|(refine A1 ⟨?_⟩;intros)|refine W4 q1 ⟨?_⟩|refine W4 q2 ⟨?_⟩|refine W4 o ⟨?_⟩)
 ((first|refine endR ?_|refine endN ?_);refine end1 RVa (Le.refl _))
theorem rrev_pu (l:Li) (h:l.le 1000000):Pu Tryz.prog 106 [lq l] (lq l.neg):=by
 have m1:=rminus_int l.a (show il l.a≤_ by have:=h.a;omega)
 have m2:=rminus_int l.b (show il l.b≤_ by have:=h.b;omega)
 have m3:=rminus_int l.c (show il l.c≤_ by have:=h.c;omega)
 refine Pu.intro Tryz.func106 rfl (by kernel_rfl) fun C=>?_
 repeat(first|(refine A1 ⟨?_⟩;intros)|refine W4 m1 ⟨?_⟩|refine W4 m2 ⟨?_⟩|refine W4 m3 ⟨?_⟩)
 ((first|refine endR ?_|refine endN ?_);refine end1 RVa (Le.refl _))
theorem toL_pu (l:Li) (h:l.le 1000000):Pu Tryz.prog 101 [lq l] (lq l):=by
 have m1:=toI_pu l.a (by have:=h.a;omega)
 have m2:=toI_pu l.b (by have:=h.b;omega)
 have m3:=toI_pu l.c (by have:=h.c;omega)
 refine Pu.intro Tryz.func101 rfl (by kernel_rfl) fun C=>?_
 repeat(first|(refine A1 ⟨?_⟩;intros)|refine W4 m1 ⟨?_⟩|refine W4 m2 ⟨?_⟩|refine W4 m3 ⟨?_⟩)
 ((first|refine endR ?_|refine endN ?_);refine end1 RVa (Le.refl _))
theorem rdot_pu (x y u v:Rat) (hx:ht x≤1000000) (hy:ht y≤1000000) (hu:ht u≤1000000) (hv:ht v≤1000000) (h1:ht (x*u)≤3000000) (h2:ht (y*v)≤3000000):Pu Tryz.prog 184 [rp x y,rp u v] (rq (x*u+y*v)):=by
 have t1:=rtimes_pu x u (by omega) (by omega)
 have t2:=rtimes_pu y v (by omega) (by omega)
 have p:=rplus_pu (x*u) (y*v) h1 h2
 refine Pu.intro Tryz.func184 rfl (by kernel_rfl) fun C=>?_
 repeat(first|(refine A1 ⟨?_⟩;intros)|refine W4 t1 ⟨?_⟩|refine W4 t2 ⟨?_⟩|refine W4 p ⟨?_⟩)
 ((first|refine endR ?_|refine endN ?_);refine end1 RVa (Le.refl _))
theorem rcross_pu (x y u v:Rat) (hx:ht x≤100000) (hy:ht y≤100000) (hu:ht u≤100000) (hv:ht v≤100000):Pu Tryz.prog 172 [rp x y,rp u v] (rq (x*v-y*u)):=by
 have h1:=ht_mul x v
 have h2:=ht_mul y u
 have t1:=rtimes_pu x v (by omega) (by omega)
 have t2:=rtimes_pu y u (by omega) (by omega)
 have p:=rqsub_pu (x*v) (y*u) (by omega) (by omega)
 refine Pu.intro Tryz.func172 rfl (by kernel_rfl) fun C=>?_
 repeat(first|(refine A1 ⟨?_⟩;intros)|refine W4 t1 ⟨?_⟩|refine W4 t2 ⟨?_⟩|refine W4 p ⟨?_⟩)
 ((first|refine endR ?_|refine endN ?_);refine end1 RVa (Le.refl _))
theorem mul_dens {a:Rat}(m:Nat){n:Nat}(h:n=a.den*m):a*((n:Int):Rat)=((a.num*m:Int):Rat):=by
 subst h
 have h1:a*(a.den:Rat)=(a.num:Rat):=by
  conv=>lhs;lhs;rw [←Rat.mkRat_self a]
  rw [show(a.den:Rat)=mkRat (a.den:Int) 1 from(Rat.mkRat_one _).symm,Rat.mkRat_mul_mkRat,Nat.mul_one]
  have:=Rat.mkRat_mul_right (n:=a.num) (d:=1) a.den_nz
  rw [Nat.one_mul]at this
  rw [this,Rat.mkRat_one]
 rw [show(((a.den*m:Nat):Int):Rat)=(a.den:Rat)*(m:Rat)from by push_cast;rfl,←Rat.mul_assoc,h1]
 push_cast
 rfl
theorem leRaw (m:Nat):LeL [ag [lit (.bool false),nat m,lit (.slice none 0 0)]] [rq ((m:Int):Rat)]:=by
 rw [rq_int]
 refine⟨Le.ag ⟨?_,?_,le_nil,trivial⟩,trivial⟩
 ·rw [decide_eq_false (by omega)];exact Le.refl _
 ·rw [Int.natAbs_natCast];exact Le.refl _
set_option maxHeartbeats 1000000 in
theorem through_pu {x y u v:Rat}{L:Nat}(hL:L≤10000) (hx:ht x≤L) (hy:ht y≤L) (hu:ht u≤L) (hv:ht v≤L) (h:u-x≠0∨v-y≠0):Pu Tryz.prog 73 [rp x y,rp u v] (Ab.tup [lq (thr x y u v),lit (.bool true)]):=by
 have s:=rsub_pt u v x y (by omega) (by omega) (by omega) (by omega)
 have k1:=ht_sub u x
 have k2:=ht_sub v y
 have k3:=ht_neg (v-y)
 have n1:=ropp_pu (v-y) (by omega)
 have k4:=ht_mul (-(v-y)) x
 have k5:=ht_mul (u-x) y
 have t1:=rtimes_pu (-(v-y)) x (by omega) (by omega)
 have t2:=rtimes_pu (u-x) y (by omega) (by omega)
 have k6:=ht_add (-(v-y)*x) ((u-x)*y)
 have p1:=rplus_pu (-(v-y)*x) ((u-x)*y) (by omega) (by omega)
 have n2:=ropp_pu (-(v-y)*x+(u-x)*y) (by omega)
 have k7:=ht_neg (-(v-y)*x+(u-x)*y)
 have hab : -(v-y)≠0∨u-x≠0:=by
  rcases h with h|h
  ·exact .inr h
  ·exact .inl fun e=>h (by rw [←Rat.neg_neg (v-y),e];rfl)
 unfold thr
 generalize -(v-y)=a at *
 generalize u-x=b at *
 generalize -(a*x+b*y)=c at *
 have e1:=rden_pu a
 have e2:=rden_pu b
 have e3:=rden_pu c
 have l1:=ht_den a
 have l2:=ht_den b
 have l3:=ht_den c
 have l4:=dlen_mul a.den b.den
 have l5:=dlen_mul (a.den*b.den) c.den
 have q1:=rprod_pu a.den b.den (by omega) (by omega)
 have q2:=rprod_pu (a.den*b.den) c.den (by omega) (by omega)
 have m1:=rmake_pu false (a.den*b.den*c.den) (by omega)
 rw [sv_nat,int_nat]at m1
 obtain⟨m,hm⟩:∃m,m=a.den*b.den*c.den:=⟨_,rfl⟩
 have fa:=mul_dens (a:=a) (b.den*c.den) (n:=m) (by rw [hm,Nat.mul_assoc])
 have fb:=mul_dens (a:=b) (a.den*c.den) (n:=m) (by rw [hm,Nat.mul_comm a.den,Nat.mul_assoc])
 have fc:=mul_dens (a:=c) (a.den*b.den) (n:=m) (by rw [hm,Nat.mul_comm])
 have hmp:(0:Rat)<((m:Int):Rat):=by
  have:0<m:=by rw [hm];exact Nat.mul_pos (Nat.mul_pos a.den_pos b.den_pos) c.den_pos
  exact_mod_cast this
 rw [←hm]at q2 m1 l5
 have hmh:ht ((m:Int):Rat)≤max (dgs m).length 1:=by rw [ht_of_int];exact Nat.le_refl _
 have g1:=(rtimes_pu a ((m:Int):Rat) (by omega) (by omega)).arg (l':=[rq a,ag [lit (.bool false),nat m,lit (.slice none 0 0)]]) ⟨Le.refl _,leRaw m⟩
 have g2:=(rtimes_pu b ((m:Int):Rat) (by omega) (by omega)).arg (l':=[rq b,ag [lit (.bool false),nat m,lit (.slice none 0 0)]]) ⟨Le.refl _,leRaw m⟩
 have g3:=(rtimes_pu c ((m:Int):Rat) (by omega) (by omega)).arg (l':=[rq c,ag [lit (.bool false),nat m,lit (.slice none 0 0)]]) ⟨Le.refl _,leRaw m⟩
 have o1:=ht_mul a ((m:Int):Rat)
 have o2:=ht_mul b ((m:Int):Rat)
 have o3:=ht_mul c ((m:Int):Rat)
 have ep:prim a b c=prim (((m:Int):Rat)*a) (((m:Int):Rat)*b) (((m:Int):Rat)*c):=(prim_mul _ _ _ _ hmp).symm
 rw [Rat.mul_comm _ a,Rat.mul_comm _ b,Rat.mul_comm _ c]at ep
 have hne:a*((m:Int):Rat)≠0∨b*((m:Int):Rat)≠0:=by
  have h0:((m:Int):Rat)≠0:=fun e=>by rw [e]at hmp;exact absurd hmp (by decide)
  rcases hab with h|h
  ·exact .inl fun e=>by rcases Rat.mul_eq_zero.1 e with e|e;exact h e;exact h0 e
  ·exact .inr fun e=>by rcases Rat.mul_eq_zero.1 e with e|e;exact h e;exact h0 e
 rw [fa]at g1 o1
 rw [fb]at g2 o2
 rw [fc]at g3 o3
 rw [fa,fb,fc]at ep
 rw [fa,fb]at hne
 rw [ep]
 clear fa fb fc ep hmp hab h hm
 generalize a.num*((b.den*c.den:Nat):Int)=A at *
 generalize b.num*((a.den*c.den:Nat):Int)=B at *
 generalize c.num*((a.den*b.den:Nat):Int)=C' at *
 rw [ht_of_int]at o1 o2 o3
 have hne':A≠0∨B≠0:=by
  rcases hne with h|h
  ·exact .inl fun e=>h (by rw [e];rfl)
  ·exact .inr fun e=>h (by rw [e];rfl)
 have mk:=rmakeL_pu C' (a:=A) (b:=B) (by omega) (by omega) (by omega) hne'
 simp only [rq_int]at g1 g2 g3
 generalize prim (A:Rat) (B:Rat) (C':Rat)=r at *
 clear o1 o2 o3 hmh k1 k2 k3 k4 k5 k6 k7 l1 l2 l3 l4 l5 hne hne' hx hy hu hv
 refine Pu.intro Tryz.func73 rfl (by kernel_rfl) fun C=>?_
 repeat(first|(refine AS ⟨?_⟩;intros)|(refine O1 ⟨?_⟩;intros)|(refine Wcx (s) ?_)|(refine Wcgx (s) ?_)|(refine Wcx (n1) ?_)|(refine Wcgx (n1) ?_))
 refine WdL 7 1 ?_
 repeat(first|(refine A1 ⟨?_⟩;intros)|refine W4 n1 ⟨?_⟩)
 refine dL2 fun b7 b8=>?_
 refine Gs (sv:=rq a) (cs':=[lit (.bool (decide (a.num<0))),nat a.num.natAbs,dg (dden a.den)]) rfl rfl rfl (by first|exact .here _|exact .there _ (.here _)) rfl rfl ?_ ?_
 ·(repeat(first|exact LOk.nil|refine Lsk ?_|refine Lcv ?_))
 refine Gn ?_ ?_
 ·(repeat(first|exact LOk.nil|refine Lsk ?_|refine Lcv ?_))
 repeat(first|(refine A1 ⟨?_⟩;intros)|(refine Wo (ov_fieldA rfl rfl (by kernel_rfl) rfl) ?_)|(refine Wdo (ov_fieldA rfl rfl (by kernel_rfl) rfl) ?_)|refine W4 s ⟨?_⟩|refine W4 n1 ⟨?_⟩|refine W4 t1 ⟨?_⟩|refine W4 t2 ⟨?_⟩|refine W4 p1 ⟨?_⟩|refine W4 n2 ⟨?_⟩|refine W4 e1 ⟨?_⟩|refine W4 e2 ⟨?_⟩|refine W4 e3 ⟨?_⟩|refine W4 q1 ⟨?_⟩|refine W4 q2 ⟨?_⟩|refine W4 m1 ⟨?_⟩|refine W4 g1 ⟨?_⟩|refine W4 g2 ⟨?_⟩|refine W4 g3 ⟨?_⟩|refine W4 mk ⟨?_⟩)
 ((first|refine endR ?_|refine endN ?_);exact end2 RVa (RV.tmp rfl) (Le.refl _))
abbrev Pq:=Rat×Rat
def pcmp (p q:Pq):Int:=if p.1=q.1 then(p.2-q.2).num.sign else(p.1-q.1).num.sign
def plt (p q:Pq):Bool:=decide (pcmp p q<0)
theorem pcmp_zero {p q:Pq}:pcmp p q=0↔p=q:=by
 obtain⟨x,y⟩:=p
 obtain⟨u,v⟩:=q
 unfold pcmp
 simp only [Prod.mk.injEq]
 split
 ·next h=>rw [sub_sign_zero];exact⟨fun e=>⟨h,e⟩,fun e=>e.2⟩
 ·next h=>rw [sub_sign_zero];exact⟨fun e=>absurd e h,fun e=>e.1⟩
def pat (out:List Pq) (p:Pq):Nat:=(out.takeWhile fun o=>plt o p).length
def pins (out:List Pq) (p:Pq):List Pq:=if out[pat out p]? = some p then out else out.take (pat out p)++p::out.drop (pat out p)
def srt (l:List Pq):List Pq:=l.foldl pins []
theorem srt_snoc (l:List Pq) (p:Pq):srt (l++[p])=pins (srt l) p:=by unfold srt;rw [List.foldl_append];rfl
theorem srt_take {l:List Pq}{k:Nat}{p:Pq}(h:l[k]? = some p):srt (l.take (k+1))=pins (srt (l.take k)) p:=by
 obtain⟨h1,h2⟩:=List.getElem?_eq_some_iff.1 h
 rw [List.take_succ_eq_append_getElem h1,h2,srt_snoc]
theorem pat_le (out:List Pq) (p:Pq):pat out p≤out.length:=(List.takeWhile_sublist _).length_le
theorem tw_next {α:Type}{f:α→Bool}:∀{l:List α}{a:α},l[(l.takeWhile f).length]? = some a→f a=false
 | [],a,h=>by simp at h
 |b::l,a,h=>by
  rw [List.takeWhile_cons]at h
  cases hb:f b with
  |true =>
   rw [if_pos hb]at h
   exact tw_next (by simpa using h)
  |false =>
   rw [if_neg (by rw [hb];decide)]at h
   simp at h
   rw [←h];exact hb
theorem tw_lt {α:Type}{f:α→Bool}:∀{l:List α}{j:Nat}{a:α},l[j]? = some a→j<(l.takeWhile f).length→f a=true
 | [],j,a,h,_=>by simp at h
 |b::l,j,a,h,hj=>by
  rw [List.takeWhile_cons]at hj
  cases hb:f b with
  |false=>rw [if_neg (by rw [hb];decide)]at hj;simp at hj
  |true =>
   rw [if_pos hb,List.length_cons]at hj
   cases j with
   |zero=>simp at h;rw [←h];exact hb
   |succ j=>exact tw_lt (by simpa using h) (by omega)
theorem pat_step {out:List Pq}{p o:Pq}{j:Nat}(hj:j≤pat out p) (ho:out[j]? = some o):(plt o p=true→j+1≤pat out p)∧(plt o p=false→j=pat out p):=by
 constructor
 ·intro h
  rcases Nat.lt_or_ge j (pat out p)with hl|hl
  ·exact hl
  ·have e:j=pat out p:=by omega
   rw [e]at ho
   have:=tw_next (f:=fun o=>plt o p) ho
   rw [h]at this;cases this
 ·intro h
  rcases Nat.lt_or_ge j (pat out p)with hl|hl
  ·have:=tw_lt (f:=fun o=>plt o p) ho hl
   rw [h]at this;cases this
  ·omega
theorem pins_len (out:List Pq) (p:Pq):(pins out p).length≤out.length+1:=by
 unfold pins
 split
 ·omega
 ·rw [List.length_append,List.length_cons,List.length_take,List.length_drop];omega
theorem srt_len:∀(l:List Pq),(srt l).length≤l.length:=by
 have h:∀(l out:List Pq),(l.foldl pins out).length≤out.length+l.length:=by
  intro l
  induction l with
  |nil=>intro out;simp
  |cons a l ih=>intro out;have:=ih (pins out a);have:=pins_len out a;simp only [List.foldl_cons,List.length_cons];omega
 intro l
 have:=h l []
 simpa [srt] using this
theorem pins_mem {out:List Pq}{p q:Pq}:q∈pins out p↔q=p∨q∈out:=by
 unfold pins
 split
 ·next h =>
  have hm:=List.mem_of_getElem? h
  constructor
  ·exact .inr
  ·rintro (rfl|h')
   ·exact hm
   ·exact h'
 ·rw [List.mem_append,List.mem_cons]
  constructor
  ·rintro (h|h|h)
   ·exact .inr (List.mem_of_mem_take h)
   ·exact .inl h
   ·exact .inr (List.mem_of_mem_drop h)
  ·rintro (h|h)
   ·exact .inr (.inl h)
   ·rw [←List.take_append_drop (pat out p) out,List.mem_append]at h
    rcases h with h|h
    ·exact .inl h
    ·exact .inr (.inr h)
theorem srt_mem (l:List Pq) (q:Pq):q∈srt l↔q∈l:=by
 have h:∀(l out:List Pq),q∈l.foldl pins out↔q∈out∨q∈l:=by
  intro l
  induction l with
  |nil=>intro out;simp
  |cons a l ih =>
   intro out
   rw [List.foldl_cons,ih,pins_mem,List.mem_cons]
   constructor
   ·rintro ((h|h)|h)
    ·exact .inr (.inl h)
    ·exact .inl h
    ·exact .inr (.inr h)
   ·rintro (h|h|h)
    ·exact .inl (.inr h)
    ·exact .inl (.inl h)
    ·exact .inr h
 unfold srt
 rw [h];simp
def dst (l:List Pq):List Pq:=l.foldl (fun out p=>if p∈out then out else out++[p]) []
theorem nodup_len {α:Type} [DecidableEq α]:∀{a b:List α},a.Nodup→(∀q∈a,q∈b)→a.length≤b.length
 | [],b,_,_=>Nat.zero_le _
 |x::a,b,h,hs=>by
  obtain⟨h1,h2⟩:=List.nodup_cons.1 h
  have hx:=hs x List.mem_cons_self
  have:=nodup_len (b:=b.erase x) h2 fun q hq=>(List.mem_erase_of_ne (fun e=>h1 (by rw [←e];exact hq))).2 (hs q (List.mem_cons_of_mem _ hq))
  rw [List.length_erase_of_mem hx]at this
  have:0<b.length:=List.length_pos_of_mem hx
  rw [List.length_cons];omega
theorem Li.le.gr {l:Li}{L L':Nat}(h:l.le L) (k:L≤L'):l.le L':=⟨Nat.le_trans h.a k,Nat.le_trans h.b k,Nat.le_trans h.c k⟩
theorem ht_int2 (z:Int){L:Nat}(h:il z≤L):ht (z:Rat)≤max L 1:=by
 rw [ht_of_int];omega
def Li.bf (l:Li):Rat := -((l.c:Rat)/((l.b:Rat)*l.b + -(l.a:Rat) * -(l.a:Rat)))
theorem Li.bf_ht {l:Li}(h:l.le 1):ht l.bf≤10:=by
 unfold Li.bf
 have ha:ht (l.a:Rat)≤1:=by have:=ht_int2 l.a h.a;omega
 have hb:ht (l.b:Rat)≤1:=by have:=ht_int2 l.b h.b;omega
 have hc:ht (l.c:Rat)≤1:=by have:=ht_int2 l.c h.c;omega
 have h1:=ht_mul (l.b:Rat) l.b
 have h2:=ht_mul (-(l.a:Rat)) (-(l.a:Rat))
 have h3:=ht_add ((l.b:Rat)*l.b) (-(l.a:Rat) * -(l.a:Rat))
 have h4:=ht_inv ((l.b:Rat)*l.b + -(l.a:Rat) * -(l.a:Rat))
 have h5:=ht_mul (l.c:Rat) ((l.b:Rat)*l.b + -(l.a:Rat) * -(l.a:Rat))⁻¹
 rw [ht_neg]at h2⊢
 rw [Rat.div_def]
 omega
theorem rbase_pu {l:Li}(hok:l.ok) (h:l.le 1):Pu Tryz.prog 121 [lq l] (rp (l.bf*l.a) (l.bf*l.b)):=by
 have hf:=Li.bf_ht h
 have ha:ht (l.a:Rat)≤1:=by have:=ht_int2 l.a h.a;omega
 have hb:ht (l.b:Rat)≤1:=by have:=ht_int2 l.b h.b;omega
 have hc:ht (l.c:Rat)≤1:=by have:=ht_int2 l.c h.c;omega
 have h1:=ht_mul (l.b:Rat) l.b
 have h2:=ht_mul (-(l.a:Rat)) (-(l.a:Rat))
 have h3:=ht_add ((l.b:Rat)*l.b) (-(l.a:Rat) * -(l.a:Rat))
 have ha':ht (-(l.a:Rat))≤1:=by rw [ht_neg];exact ha
 have hn:=Li.n_pos hok
 have hne:((l.b:Rat)*l.b + -(l.a:Rat) * -(l.a:Rat)).num≠0:=fun e=>by
  have:(l.b:Rat)*l.b + -(l.a:Rat) * -(l.a:Rat)=0:=Rat.num_eq_zero.1 e
  rw [this]at hn;exact absurd hn (by decide)
 have c1:=rdir_pu l (h.gr (by omega))
 have c2:=rgq_pu l.c
 have c3:=rdot_pu (l.b:Rat) (-(l.a:Rat)) l.b (-(l.a:Rat)) (by omega) (by omega) (by omega) (by omega) (by omega) (by omega)
 have c4:=rover_pu (l.c:Rat) ((l.b:Rat)*l.b + -(l.a:Rat) * -(l.a:Rat)) (by omega) (by omega) hne
 have hq:ht ((l.c:Rat)/((l.b:Rat)*l.b + -(l.a:Rat) * -(l.a:Rat)))≤10:=by rw [←ht_neg];exact hf
 have c5:=ropp_pu ((l.c:Rat)/((l.b:Rat)*l.b + -(l.a:Rat) * -(l.a:Rat))) (by omega)
 rw [show -((l.c:Rat)/((l.b:Rat)*l.b + -(l.a:Rat) * -(l.a:Rat)))=l.bf from rfl]at c5
 have c6:=rgq_pu l.a
 have c7:=rgq_pu l.b
 have c8:=rtimes_pu l.bf (l.a:Rat) (by omega) (by omega)
 have c9:=rtimes_pu l.bf (l.b:Rat) (by omega) (by omega)
 clear hf ha hb hc h1 h2 h3 ha' hn hne hq
 refine Pu.intro Tryz.func121 rfl (by kernel_rfl) fun C=>?_
 repeat(first|(refine A1 ⟨?_⟩;intros)|refine W4 c1 ⟨?_⟩|refine W4 c2 ⟨?_⟩|refine W4 c3 ⟨?_⟩|refine W4 c4 ⟨?_⟩|refine W4 c5 ⟨?_⟩|refine W4 c6 ⟨?_⟩|refine W4 c7 ⟨?_⟩|refine W4 c8 ⟨?_⟩|refine W4 c9 ⟨?_⟩)
 ((first|refine endR ?_|refine endN ?_);refine end1 RVa (Le.refl _))
abbrev Li.sm (l:Li):Prop:=l.ok∧l.le 1
abbrev hp (p:Pq) (n:Nat):Prop:=ht p.1≤n∧ht p.2≤n
theorem Li.sm.ht {l:Li}(h:l.sm):ht (l.a:Rat)≤1∧ht (l.b:Rat)≤1∧ht (l.c:Rat)≤1:=by
 have ha:=ht_int2 l.a h.2.a
 have hb:=ht_int2 l.b h.2.b
 have hc:=ht_int2 l.c h.2.c
 omega
theorem ht_div (x y:Rat):Ab.ht (x/y)≤Ab.ht x+Ab.ht y+2:=by
 rw [Rat.div_def]
 have:=ht_mul x y⁻¹
 have:=ht_inv y
 omega
def dotP (p q:Pq):Rat:=p.1*q.1+p.2*q.2
def crossP (p q:Pq):Rat:=p.1*q.2-p.2*q.1
def dirL (l:Li):Pq:=((l.b:Rat),-(l.a:Rat))
def valL (l:Li) (p:Pq):Rat:=(l.a:Rat)*p.1+(l.b:Rat)*p.2+(l.c:Rat)
def sideL (l:Li) (p:Pq):Int:=(valL l p).num.sign
def addP (p:Pq) (k:Rat) (v:Pq):Pq:=(p.1+k*v.1,p.2+k*v.2)
def baseL (l:Li):Pq:=(l.bf*l.a,l.bf*l.b)
def atL (l:Li) (t:Rat):Pq:=addP (baseL l) t (dirL l)
def parL (l:Li) (p:Pq):Rat:=dotP p (dirL l)/dotP (dirL l) (dirL l)
def detL (l m:Li):Rat:=(l.a:Rat)*m.b-m.a*l.b
def meetP (l m:Li):Pq:=(((l.b:Rat)*m.c-m.b*l.c)/detL l m,((m.a:Rat)*l.c-l.a*m.c)/detL l m)
def meetL (l m:Li):Option Pq:=if detL l m=0 then none else some (meetP l m)
def cmpL (l m:Li):Int:=if(l.a + -m.a).sign≠0 then(l.a + -m.a).sign else if(l.b + -m.b).sign≠0 then(l.b + -m.b).sign else(l.c + -m.c).sign
def canL (l:Li):Bool:=decide (l.a<0∨l.a=0∧l.b<0)
def canonL (l:Li):Li:=if canL l then l.neg else l
def halfP (v:Pq):Int:=if v.1=0∧v.2=0 then 0 else if 0<v.2∨v.2=0∧0<v.1 then 1 else 2
def angP (u v:Pq):Int:=if halfP u≠halfP v then(if halfP u<halfP v then -1 else 1)else -(crossP u v).num.sign
def orientP (a b c:Pq):Int:=(crossP (b.1-a.1,b.2-a.2) (c.1-a.1,c.2-a.2)).num.sign
theorem dirL_ht {l:Li}(h:l.sm):hp (dirL l) 1:=by
 obtain⟨h1,h2,_⟩:=h.ht
 exact⟨h2,by show Ab.ht (-(l.a:Rat))≤1;rw [ht_neg];exact h1⟩
theorem dotP_ht {p q:Pq}{n m:Nat}(h:hp p n) (k:hp q m):Ab.ht (dotP p q)≤2*n+2*m+3:=by
 have:=ht_mul p.1 q.1
 have:=ht_mul p.2 q.2
 have:=ht_add (p.1*q.1) (p.2*q.2)
 unfold dotP
 omega
theorem crossP_ht {p q:Pq}{n m:Nat}(h:hp p n) (k:hp q m):Ab.ht (crossP p q)≤2*n+2*m+3:=by
 have:=ht_mul p.1 q.2
 have:=ht_mul p.2 q.1
 have:=ht_sub (p.1*q.2) (p.2*q.1)
 unfold crossP
 omega
theorem valL_ht {l:Li}{p:Pq}{n:Nat}(h:l.sm) (k:hp p n):Ab.ht (valL l p)≤2*n+7:=by
 obtain⟨h1,h2,h3⟩:=h.ht
 have:=ht_mul (l.a:Rat) p.1
 have:=ht_mul (l.b:Rat) p.2
 have:=ht_add ((l.a:Rat)*p.1) ((l.b:Rat)*p.2)
 have:=ht_add ((l.a:Rat)*p.1+(l.b:Rat)*p.2) (l.c:Rat)
 unfold valL
 omega
theorem addP_ht {p v:Pq}{k:Rat}{n m j:Nat}(h:hp p n) (hk:Ab.ht k≤j) (hv:hp v m):hp (addP p k v) (n+j+m+2):=by
 have:=ht_mul k v.1
 have:=ht_mul k v.2
 have:=ht_add p.1 (k*v.1)
 have:=ht_add p.2 (k*v.2)
 unfold addP
 constructor <;> simp only <;> omega
theorem baseL_ht {l:Li}(h:l.sm):hp (baseL l) 12:=by
 obtain⟨h1,h2,h3⟩:=h.ht
 have:=Li.bf_ht h.2
 have:=ht_mul l.bf (l.a:Rat)
 have:=ht_mul l.bf (l.b:Rat)
 unfold baseL
 constructor <;> simp only <;> omega
theorem atL_ht {l:Li}{t:Rat}{n:Nat}(h:l.sm) (k:Ab.ht t≤n):hp (atL l t) (n+15):=by
 have:=addP_ht (baseL_ht h) k (dirL_ht h)
 unfold atL
 exact⟨by omega,by omega⟩
theorem parL_ht {l:Li}{p:Pq}{n:Nat}(h:l.sm) (k:hp p n):Ab.ht (parL l p)≤2*n+14:=by
 have h1:=dotP_ht k (dirL_ht h)
 have h2:=dotP_ht (dirL_ht h) (dirL_ht h)
 have:=ht_div (dotP p (dirL l)) (dotP (dirL l) (dirL l))
 unfold parL
 omega
theorem detL_ht {l m:Li}(h:l.sm) (k:m.sm):Ab.ht (detL l m)≤7:=by
 obtain⟨h1,h2,h3⟩:=h.ht
 obtain⟨k1,k2,k3⟩:=k.ht
 have:=ht_mul (l.a:Rat) m.b
 have:=ht_mul (m.a:Rat) l.b
 have:=ht_sub ((l.a:Rat)*m.b) (m.a*l.b)
 unfold detL
 omega
theorem meetP_ht {l m:Li}(h:l.sm) (k:m.sm):hp (meetP l m) 16:=by
 have hd:=detL_ht h k
 obtain⟨h1,h2,h3⟩:=h.ht
 obtain⟨k1,k2,k3⟩:=k.ht
 have:=ht_mul (l.b:Rat) m.c
 have:=ht_mul (m.b:Rat) l.c
 have:=ht_sub ((l.b:Rat)*m.c) (m.b*l.c)
 have:=ht_mul (m.a:Rat) l.c
 have:=ht_mul (l.a:Rat) m.c
 have:=ht_sub ((m.a:Rat)*l.c) (l.a*m.c)
 have:=ht_div ((l.b:Rat)*m.c-m.b*l.c) (detL l m)
 have:=ht_div ((m.a:Rat)*l.c-l.a*m.c) (detL l m)
 unfold meetP
 constructor <;> simp only <;> omega
theorem Li.sm.neg {l:Li}(h:l.sm):l.neg.sm:=by
 obtain⟨h1,h2⟩:=h
 refine⟨⟨?_,?_⟩,?_,?_,?_⟩
 ·show Nat.gcd (Nat.gcd (-l.a).natAbs (-l.b).natAbs) (-l.c).natAbs=1
  rw [Int.natAbs_neg,Int.natAbs_neg,Int.natAbs_neg];exact h1.1
 ·rcases h1.2 with k|k
  ·left;show -l.a≠0;omega
  ·right;show -l.b≠0;omega
 ·show il (-l.a)≤1;rw [il_neg];exact h2.a
 ·show il (-l.b)≤1;rw [il_neg];exact h2.b
 ·show il (-l.c)≤1;rw [il_neg];exact h2.c
theorem cmpL_zero {l m:Li}:cmpL l m=0↔l=m:=by
 unfold cmpL
 obtain⟨a,b,c⟩:=l
 obtain⟨d,e,f⟩:=m
 simp only [Li.mk.injEq]
 by_cases h1:(a + -d).sign=0
 ·rw [if_neg (fun h=>h h1)]
  have:=Int.sign_eq_zero_iff_zero.1 h1
  by_cases h2:(b + -e).sign=0
  ·rw [if_neg (fun h=>h h2)]
   have:=Int.sign_eq_zero_iff_zero.1 h2
   rw [Int.sign_eq_zero_iff_zero]
   omega
  ·rw [if_pos h2]
   have:b + -e≠0:=fun k=>h2 (Int.sign_eq_zero_iff_zero.2 k)
   rw [Int.sign_eq_zero_iff_zero]
   omega
 ·rw [if_pos h1]
  have:a + -d≠0:=fun k=>h1 (Int.sign_eq_zero_iff_zero.2 k)
  rw [Int.sign_eq_zero_iff_zero]
  omega
instance:DecidableEq Li:=fun l m=>decidable_of_iff (cmpL l m=0) cmpL_zero
theorem rsign_zero {x:Rat}:x.num.sign=0↔x=0:=by rw [Int.sign_eq_zero_iff_zero];exact Rat.num_eq_zero
section
variable {α:Type}
def posI (lt:α→α→Bool) (out:List α) (x:α):Nat:=(out.takeWhile fun o=>lt o x).length
def insA (lt:α→α→Bool) (out:List α) (x:α):List α:=out.take (posI lt out x)++x::out.drop (posI lt out x)
def insB [DecidableEq α] (lt:α→α→Bool) (out:List α) (x:α):List α:=if out[posI lt out x]? = some x then out else insA lt out x
theorem posI_le (lt:α→α→Bool) (out:List α) (x:α):posI lt out x≤out.length:=(List.takeWhile_sublist _).length_le
theorem posI_step {lt:α→α→Bool}{out:List α}{x o:α}{j:Nat}(hj:j≤posI lt out x) (ho:out[j]? = some o):(lt o x=true→j+1≤posI lt out x)∧(lt o x=false→j=posI lt out x):=by
 constructor
 ·intro h
  by_cases he:j=posI lt out x
  ·unfold posI at he
   rw [he]at ho
   have:=tw_next ho
   rw [h]at this;cases this
  ·omega
 ·intro h
  by_cases he:j<posI lt out x
  ·have:=tw_lt ho he
   rw [h]at this;cases this
  ·omega
theorem insA_mem {lt:α→α→Bool}{out:List α}{x y:α}:y∈insA lt out x↔y=x∨y∈out:=by
 unfold insA
 have e:y∈out↔y∈out.take (posI lt out x)∨y∈out.drop (posI lt out x):=by rw [←List.mem_append,List.take_append_drop]
 rw [List.mem_append,List.mem_cons,e]
 constructor
 ·rintro (h|h|h)
  ·exact .inr (.inl h)
  ·exact .inl h
  ·exact .inr (.inr h)
 ·rintro (h|h|h)
  ·exact .inr (.inl h)
  ·exact .inl h
  ·exact .inr (.inr h)
theorem insA_len (lt:α→α→Bool) (out:List α) (x:α):(insA lt out x).length=out.length+1:=by
 have:=posI_le lt out x
 unfold insA
 rw [List.length_append,List.length_cons,List.length_take,List.length_drop]
 omega
theorem insB_mem [DecidableEq α]{lt:α→α→Bool}{out:List α}{x y:α}:y∈insB lt out x↔y=x∨y∈out:=by
 unfold insB
 split
 ·rename_i h
  constructor
  ·exact .inr
  ·rintro (e|e)
   ·rw [e];exact List.mem_of_getElem? h
   ·exact e
 ·exact insA_mem
theorem insB_len [DecidableEq α] (lt:α→α→Bool) (out:List α) (x:α):(insB lt out x).length≤out.length+1:=by
 unfold insB
 split
 ·omega
 ·rw [insA_len];omega
theorem foldl_mem {β:Type}{f:List β→α→List β}{g:α→β}(h:∀out x y,y∈f out x↔y=g x∨y∈out):∀(l:List α) (out:List β) (y:β),y∈l.foldl f out↔(∃x∈l,y=g x)∨y∈out
 | [],out,y=>by simp
 |a::l,out,y=>by
  rw [List.foldl_cons,foldl_mem h l,h]
  simp only [List.mem_cons,exists_eq_or_imp]
  constructor
  ·rintro (h|h|h)
   ·exact .inl (.inr h)
   ·exact .inl (.inl h)
   ·exact .inr h
  ·rintro ((h|h)|h)
   ·exact .inr (.inl h)
   ·exact .inl h
   ·exact .inr (.inr h)
theorem foldl_len {β:Type}{f:List β→α→List β}(h:∀out x,(f out x).length≤out.length+1):∀(l:List α) (out:List β),(l.foldl f out).length≤out.length+l.length
 | [],out=>by simp
 |a::l,out=>by
  have:=foldl_len h l (f out a)
  have:=h out a
  rw [List.foldl_cons,List.length_cons]
  omega
theorem foldl_take {β:Type}{f:β→α→β}{l:List α}{k:Nat}{a:α}{b:β}(h:l[k]? = some a):(l.take (k+1)).foldl f b=f ((l.take k).foldl f b) a:=by
 rw [take_snoc h,List.foldl_append];rfl
end
abbrev rlt (x y:Rat):Bool:=decide ((x-y).num.sign<0)
abbrev llt (l m:Li):Bool:=decide (cmpL l m<0)
def dstL (l:List Li):List Li:=l.foldl (fun out x=>insB llt out (canonL x)) []
theorem dstL_mem {l:List Li}{y:Li}:y∈dstL l↔∃x∈l,y=canonL x:=by
 unfold dstL
 rw [foldl_mem (f:=fun out x=>insB llt out (canonL x)) (g:=canonL) (fun out x y=>insB_mem)]
 simp
theorem dstL_len (l:List Li):(dstL l).length≤l.length:=by
 have:=foldl_len (f:=fun out x=>insB llt out (canonL x)) (fun out x=>insB_len llt out (canonL x)) l []
 unfold dstL
 simpa using this
structure Spn where
 lo:Rat
 hi:Rat
 nl:Bool
 nh:Bool
abbrev Spn.full:Spn:=⟨0,0,true,true⟩
abbrev Spn.le (s:Spn) (n:Nat):Prop:=ht s.lo≤n∧ht s.hi≤n
def clsS (s:Spn) (t:Rat):Int :=
 let a:Int:=if s.nl then 1 else(t-s.lo).num.sign
 let b:Int:=if s.nh then -1 else(t-s.hi).num.sign
 if 0<a∧b<0 then 2 else if(a=0∧b≤0)∨(b=0∧0≤a)then 1 else 0
def clsL:List Spn→Rat→Int
 | [],_=>0
 |s::l,t=>if clsS s t=0 then clsL l t else clsS s t
abbrev inL (l:List Spn) (t:Rat):Bool:=decide (clsL l t=2)
def endsO (out:List Rat) (s:Spn):List Rat :=
 let o1:=if s.nl then out else insB rlt out s.lo
 if s.nh then o1 else insB rlt o1 s.hi
def endsS (l:List Spn):List Rat:=l.foldl endsO []
def midR (x y:Rat):Rat:=(x+y)/2
def probes:List Rat→List Rat
 | []=>[0]
 |c::cs=>(c-1)::(List.zipWith midR (c::cs) cs++[(c::cs).getLast (by simp)+1])
def opB (op:Int) (x y:Bool):Bool:=if op=2 then x&&y else if op=3 then x && !y else if op=4 then x != y else x||y
theorem rnum_pos {x:Rat}:0<x.num↔0<x:=by
 have h1:0≤x.num↔0≤x:=Rat.num_nonneg
 have h2:x.num=0↔x=0:=Rat.num_eq_zero
 constructor
 ·intro h
  have:=h1.1 (by omega)
  have:x≠0:=fun e=>by have:=h2.2 e;omega
  grind
 ·intro h
  have:=h1.2 (Rat.le_of_lt h)
  have:x.num≠0:=fun e=>by have:=h2.1 e;grind
  omega
theorem rnum_den {s:Rat}(h:0<s):s*(s.den:Rat)=((s.num.toNat:Nat):Rat):=by
 have h0:=rnum_pos.2 h
 have e:((s.num.toNat:Nat):Rat)=((s.num:Int):Rat):=by
  rw [←Rat.intCast_natCast,Int.toNat_of_nonneg (by omega)]
 rw [e]
 have h2:((s.den:Nat):Rat)≠0:=fun e=>s.den_nz (Rat.natCast_inj.1 (e.trans rfl))
 have h3:s=(s.num:Rat)/(s.den:Nat):=(Rat.mkRat_self s).symm.trans (Rat.mkRat_eq_div ..)
 grind
theorem smallE {α:Type}(A B:α→Rat):∀(c:List α),(∀j∈c,0<A j)→∃e:Rat,0<e∧∀j∈c,∀t,0<t→t≤e→0<A j+t*B j
 | [],_=>⟨1,by decide,fun j h=>by cases h⟩
 |a::c,h=>by
  obtain⟨e,he,hc⟩:=smallE A B c (fun j hj=>h j (List.mem_cons_of_mem _ hj))
  have ha:=h a List.mem_cons_self
  by_cases hb:0≤B a
  ·refine⟨e,he,fun j hj t ht hte=>?_⟩
   rcases List.mem_cons.1 hj with rfl|hj
   ·have:=Rat.mul_nonneg (Rat.le_of_lt ht) hb
    grind
   ·exact hc j hj t ht hte
  ·have hb':0 < - B a:=by grind
   obtain⟨u,hu⟩:∃u:Rat,u*(2 * - B a)=A a:=⟨A a/(2 * - B a),by grind⟩
   have hu0:0<u:=by
    rcases Rat.le_total (a:=u) (b:=0)with k|k
    ·have:=Rat.mul_nonneg (show 0≤-u by grind) (Rat.le_of_lt hb')
     grind
    ·grind
   have key:∀j∈a::c,∀t,0<t→t≤e→t≤u→0<A j+t*B j:=fun j hj t ht h1 h2=>by
    rcases List.mem_cons.1 hj with rfl|hj
    ·have:=Rat.mul_nonneg (show 0≤u-t by grind) (Rat.le_of_lt hb')
     grind
    ·exact hc j hj t ht h1
   rcases Rat.le_total (a:=e) (b:=u)with k|k
   ·exact⟨e,he,fun j hj t ht h1=>key j hj t ht h1 (by grind)⟩
   ·exact⟨u,hu0,fun j hj t ht h1=>key j hj t ht (by grind) h1⟩
theorem argmin {α:Type}(f:α→Rat):∀(l:List α),l≠[]→∃a∈l,∀b∈l,f a≤f b
 | [],h=>absurd rfl h
 | [a],_=>⟨a,List.mem_cons_self,fun b hb=>by rw [List.mem_singleton]at hb;subst hb;exact Rat.le_refl⟩
 |a::b::l,_=>by
  obtain⟨m,hm,hmin⟩:=argmin f (b::l) (by simp)
  rcases Rat.le_total (a:=(f a)) (b:=(f m))with k|k
  ·refine⟨a,List.mem_cons_self,fun x hx=>?_⟩
   rcases List.mem_cons.1 hx with rfl|hx
   ·exact Rat.le_refl
   ·have:=hmin x hx;grind
  ·refine⟨m,List.mem_cons_of_mem _ hm,fun x hx=>?_⟩
   rcases List.mem_cons.1 hx with rfl|hx
   ·exact k
   ·exact hmin x hx
theorem Li.prop_eq {l m:Li}(hl:l.ok) (hm:m.ok){s t:Nat}(hs:0<s) (ha:s*l.a=t*m.a) (hb:s*l.b=t*m.b) (hc:s*l.c=t*m.c):l=m:=by
 have h1:s=t:=by
  have e:=congrArg Int.natAbs ha
  have f:=congrArg Int.natAbs hb
  have g:=congrArg Int.natAbs hc
  rw [Int.natAbs_mul,Int.natAbs_mul,Int.natAbs_natCast,Int.natAbs_natCast]at e f g
  have k1:Nat.gcd (Nat.gcd (s*l.a.natAbs) (s*l.b.natAbs)) (s*l.c.natAbs)=s:=by rw [Nat.gcd_mul_left,Nat.gcd_mul_left,hl.1,Nat.mul_one]
  have k2:Nat.gcd (Nat.gcd (t*m.a.natAbs) (t*m.b.natAbs)) (t*m.c.natAbs)=t:=by rw [Nat.gcd_mul_left,Nat.gcd_mul_left,hm.1,Nat.mul_one]
  rw [e,f,g]at k1
  omega
 subst h1
 have hz:(s:Int)≠0:=by omega
 obtain⟨a,b,c⟩:=l
 obtain⟨d,e,f⟩:=m
 simp only at ha hb hc
 rw [Int.mul_eq_mul_left_iff hz]at ha hb hc
 rw [ha,hb,hc]
theorem Li.prop_eqR {l m:Li}(hl:l.ok) (hm:m.ok){s t:Rat}(hs:0<s) (ht:0<t) (ha:s*l.a=t*m.a) (hb:s*l.b=t*m.b) (hc:s*l.c=t*m.c):l=m:=by
 have q1:=rnum_den hs
 have q2:=rnum_den ht
 have key:∀x y:Int,s*x=t*y→((s.num.toNat*t.den:Nat):Int)*x=((t.num.toNat*s.den:Nat):Int)*y:=fun x y h=>by
  refine Rat.intCast_inj.1 ?_
  rw [Rat.intCast_mul,Rat.intCast_mul,Rat.intCast_natCast,Rat.intCast_natCast,Rat.natCast_mul,Rat.natCast_mul,←q1,←q2]
  grind
 have h0:=rnum_pos.2 hs
 exact Li.prop_eq hl hm (s:=s.num.toNat*t.den) (t:=t.num.toNat*s.den) (Nat.mul_pos (by omega) t.den_pos) (key _ _ ha) (key _ _ hb) (key _ _ hc)
theorem ra_sq (x:Rat):0≤x*x:=by
 rcases Rat.le_total (a:=x) (b:=0)with h|h
 ·have:=Rat.mul_nonneg (show 0≤-x by grind) (show 0≤-x by grind)
  grind
 ·exact Rat.mul_nonneg h h
theorem ra_com (x y z:Rat):x*(y*z)=z*(y*x):=by grind
theorem ra_can {n x y:Rat}(h:n≠0) (k:n*x=n*y):x=y:=by
 have:n*(x-y)=0:=by grind
 rcases Rat.mul_eq_zero.1 this with e|e
 ·exact absurd e h
 ·grind
theorem ra_solve {u1 u2 ja jb ma mb A B bj bm:Rat}(n0:u1*u1+u2*u2≠0) (d1:ja*u1+jb*u2=A) (d2:ma*u1+mb*u2=B) (w1:bj=ja * -u2+jb*u1) (w2:bm=ma * -u2+mb*u1) (e1:B*bj=A*bm) :
  B*ja=A*ma∧B*jb=A*mb:=by
 have p1:(u1*u1+u2*u2)*ja=u1*A-u2*bj:=by rw [←d1,w1];grind
 have p2:(u1*u1+u2*u2)*ma=u1*B-u2*bm:=by rw [←d2,w2];grind
 have p3:(u1*u1+u2*u2)*jb=u2*A+u1*bj:=by rw [←d1,w1];grind
 have p4:(u1*u1+u2*u2)*mb=u2*B+u1*bm:=by rw [←d2,w2];grind
 clear d1 d2 w1 w2
 generalize u1*u1+u2*u2=n at *
 constructor
 ·refine ra_can n0 ?_
  have:n*(B*ja)=B*(n*ja):=by grind
  rw [this,p1]
  have:n*(A*ma)=A*(n*ma):=by grind
  rw [this,p2]
  have:B*(u1*A-u2*bj)=B*(u1*A)-u2*(B*bj):=by grind
  rw [this,e1];grind
 ·refine ra_can n0 ?_
  have:n*(B*jb)=B*(n*jb):=by grind
  rw [this,p3]
  have:n*(A*mb)=A*(n*mb):=by grind
  rw [this,p4]
  have:B*(u2*A+u1*bj)=B*(u2*A)+u1*(B*bj):=by grind
  rw [this,e1];grind
theorem ra_c {j m:Li}{A B:Rat}{r:Pq}(ea:B*j.a=A*m.a) (eb:B*j.b=A*m.b) (h:valL j r=0) (k:valL m r=0):B*j.c=A*m.c:=by
 unfold valL at h k
 have h1:(j.c:Rat) = -(j.a*r.1+j.b*r.2):=by grind
 have h2:(m.c:Rat) = -(m.a*r.1+m.b*r.2):=by grind
 rw [h1,h2]
 have:B * -(j.a*r.1+j.b*r.2) = -((B*j.a)*r.1+(B*j.b)*r.2):=by grind
 rw [this,ea,eb];grind
theorem ra_le1 {s Q P:Rat}(h:s*(Q-P)=Q) (hq:0<Q) (hp:P≤0):0<s∧s≤1:=by
 constructor
 ·rcases Rat.le_total (a:=s) (b:=0)with k|k
  ·have:=Rat.mul_nonneg (show 0≤-s by grind) (show 0≤Q-P by grind)
   grind
  ·by_cases e:s=0
   ·rw [e]at h;grind
   ·grind
 ·rcases Rat.le_total (a:=s) (b:=1)with k|k
  ·exact k
  ·by_cases e:s=1
   ·grind
   ·have:=Rat.mul_pos (show 0<s-1 by grind) (show 0<Q-P by grind)
    grind
theorem ra_pos {s Q P:Rat}(h0:0<s) (h1:s≤1) (hq:0<Q) (hp:0<P):0<Q+s*(P-Q):=by
 have a:=Rat.mul_nonneg (show 0≤1-s by grind) (Rat.le_of_lt hq)
 have b:=Rat.mul_pos h0 hp
 grind
theorem ra_nn {s t Q P:Rat}(h:t*(Q-P)=Q) (hq:0<Q) (hp:P≤0) (hs:s≤t):0≤Q+s*(P-Q):=by
 have a:=Rat.mul_nonneg (show 0≤t-s by grind) (show 0≤Q-P by grind)
 grind
theorem ra_zero {s Q P:Rat}(h:s*(Q-P)=Q):Q+s*(P-Q)=0:=by
 have:Q+s*(P-Q)=Q-s*(Q-P):=by grind
 rw [this,h];grind
theorem ra_div {P Q:Rat}(hq:0<Q) (hp:P≤0):Q/(Q-P)*(Q-P)=Q:=Rat.div_mul_cancel (by grind)
theorem ra_div2 {P Q:Rat}(hq:0<Q):P/Q*Q=P:=Rat.div_mul_cancel (by grind)
theorem val_lin (j:Li) (p q:Pq) (s:Rat):valL j (q.1+s*(p.1-q.1),q.2+s*(p.2-q.2))=valL j q+s*(valL j p-valL j q):=by unfold valL;grind
theorem val_turn (j:Li) (q r:Pq) (x y:Rat):valL j (r.1+x*(q.1-r.1)-y*(q.2-r.2),r.2+x*(q.2-r.2)+y*(q.1-r.1))=valL j r+x*(valL j q-valL j r)+y*((j.a:Rat) * -(q.2-r.2)+(j.b:Rat)*(q.1-r.1)):=by unfold valL;simp only;grind
theorem val_dif (j:Li) (q r:Pq) (h:valL j r=0):(j.a:Rat)*(q.1-r.1)+j.b*(q.2-r.2)=valL j q:=by unfold valL at *;grind
theorem ra_nz {x y:Rat}(h:x*x+y*y=0):x=0∧y=0:=by
 have a1:=ra_sq x
 have a2:=ra_sq y
 have b1:x*x=0:=by grind
 have b2:y*y=0:=by grind
 exact⟨by rcases Rat.mul_eq_zero.1 b1 with h|h <;> exact h,by rcases Rat.mul_eq_zero.1 b2 with h|h <;> exact h⟩
theorem ra_m {e g Q B:Rat}(h:g*Q=B):0+e*g*(Q-0) + -e*B=0:=by rw [←h];grind
theorem ra_j {e g k Q B:Rat}(he:0<e) (hq:0<Q) (hk:k<g) (h:k*Q=B):0<0+e*g*(Q-0) + -e*B:=by
 have:=Rat.mul_pos (Rat.mul_pos he hq) (show 0<g-k by grind)
 rw [←h];grind
theorem ra_e {e g Q V B:Rat}(h:0<V+e*(g*(Q-V)-B)):0<V+e*g*(Q-V) + -e*B:=by
 have:V+e*g*(Q-V) + -e*B=V+e*(g*(Q-V)-B):=by grind
 rw [this];exact h
theorem ra_lt {x y:Rat}(h:x≤y) (k:x≠y):x<y:=by grind
theorem ra_neg {x y:Rat}(h : -x≤-y):y≤x:=by grind
theorem same_slope {j m:Li}(hj:j.ok) (hm:m.ok){q r:Pq}(q1:0<valL j q) (q2:0<valL m q) (h0:valL j r=0) (hmr:valL m r=0){g B C:Rat}(g1:g*valL j q=B) (g2:g*valL m q=C)
  (w1:B=(j.a:Rat) * -(q.2-r.2)+(j.b:Rat)*(q.1-r.1)) (w2:C=(m.a:Rat) * -(q.2-r.2)+(m.b:Rat)*(q.1-r.1)):j=m:=by
 have d1:=val_dif j q r h0
 have d2:=val_dif m q r hmr
 have n0:(q.1-r.1)*(q.1-r.1)+(q.2-r.2)*(q.2-r.2)≠0:=fun h=>by
  obtain⟨a,b⟩:=ra_nz h
  rw [a,b,Rat.mul_zero,Rat.mul_zero]at d2
  rw [←d2]at q2;exact absurd q2 (by rw [Rat.add_zero];decide)
 have e1:valL m q*B=valL j q*C:=by rw [←g1,←g2];exact ra_com _ _ _
 obtain⟨ea,eb⟩:=ra_solve n0 d1 d2 w1 w2 e1
 exact Li.prop_eqR hj hm q2 q1 ea eb (ra_c ea eb h0 hmr)
theorem cvx {c:List Li}(hok:∀l∈c,l.ok){q p:Pq}(hq:∀l∈c,0<valL l q){k:Li}(hk:k∈c) (hp:valL k p≤0) :
  ∃m∈c,valL m p≤0∧∃r,valL m r=0∧∀j∈c,j≠m→0<valL j r:=by
 obtain⟨S,hS⟩:∃S:Li→Rat,∀j∈c,valL j p≤0→S j*(valL j q-valL j p)=valL j q :=
  ⟨fun j=>valL j q/(valL j q-valL j p),fun j hj h=>ra_div (hq j hj) h⟩
 obtain⟨k,hk',hmin⟩:=argmin S (c.filter fun j=>decide (valL j p≤0)) (fun e=>by
  have:k∈c.filter fun j=>decide (valL j p≤0):=List.mem_filter.2 ⟨hk,decide_eq_true hp⟩
  rw [e]at this;cases this)
 rw [List.mem_filter,decide_eq_true_eq]at hk'
 obtain⟨hk,hp⟩:=hk'
 have hs:=hS k hk hp
 have hqk:=hq k hk
 have hmin:∀j∈c,valL j p≤0→S k≤S j:=fun j hj h=>hmin j (List.mem_filter.2 ⟨hj,decide_eq_true h⟩)
 generalize S k=s at *
 obtain⟨hs0,hs1⟩:=ra_le1 hs hqk hp
 obtain⟨r,hr⟩:∃r:Pq,r=(q.1+s*(p.1-q.1),q.2+s*(p.2-q.2)):=⟨_,rfl⟩
 have hv:∀j,valL j r=valL j q+s*(valL j p-valL j q):=fun j=>by rw [hr];exact val_lin j p q s
 have hnn:∀j∈c,0≤valL j r:=fun j hj=>by
  rw [hv]
  by_cases h:valL j p≤0
  ·exact ra_nn (hS j hj h) (hq j hj) h (hmin j hj h)
  ·exact Rat.le_of_lt (ra_pos hs0 hs1 (hq j hj) (Rat.not_le.1 h))
 have hz:∀j∈c,valL j r=0→valL j p≤0:=fun j hj h=>by
  by_cases h':valL j p≤0
  ·exact h'
  ·have:=ra_pos hs0 hs1 (hq j hj) (Rat.not_le.1 h')
   rw [←hv,h]at this;exact absurd this (by decide)
 have hkr:valL k r=0:=by rw [hv];exact ra_zero hs
 clear hS hmin hs0 hs1 hs hv hr
 obtain⟨B,hB⟩:∃B:Li→Rat,∀j,B j=(j.a:Rat) * -(q.2-r.2)+(j.b:Rat)*(q.1-r.1):=⟨_,fun _=>rfl⟩
 obtain⟨G,hG⟩:∃G:Li→Rat,∀j∈c,G j*valL j q=B j:=⟨fun j=>B j/valL j q,fun j hj=>ra_div2 (hq j hj)⟩
 obtain⟨m,hm',hmax⟩:=argmin (fun j => - G j) (c.filter fun j=>decide (valL j r=0)) (fun e=>by
  have:k∈c.filter fun j=>decide (valL j r=0):=List.mem_filter.2 ⟨hk,decide_eq_true hkr⟩
  rw [e]at this;cases this)
 rw [List.mem_filter,decide_eq_true_eq]at hm'
 obtain⟨hm,hmr⟩:=hm'
 have hmax:∀j∈c,valL j r=0→G j≤G m:=fun j hj h=>ra_neg (hmax j (List.mem_filter.2 ⟨hj,decide_eq_true h⟩))
 obtain⟨e,he,hsm⟩:=smallE (fun j=>valL j r) (fun j=>G m*(valL j q-valL j r)-B j) (c.filter fun j=>decide (0<valL j r)) (fun j hj=>by
  rw [List.mem_filter,decide_eq_true_eq]at hj;exact hj.2)
 refine⟨m,hm,hz m hm hmr,_,(val_turn m q r (e*G m) (-e)).trans ?_,fun j hj hne=>?_⟩
 ·rw [hmr,←hB]
  exact ra_m (hG m hm)
 ·rw [val_turn j q r (e*G m) (-e),←hB]
  by_cases h0:valL j r=0
  ·rw [h0]
   by_cases heq:G j=G m
   ·refine absurd ?_ hne
    exact same_slope (hok j hj) (hok m hm) (hq j hj) (hq m hm) h0 hmr (heq▸hG j hj) (hG m hm) (hB j) (hB m)
   ·exact ra_j he (hq j hj) (ra_lt (hmax j hj h0) heq) (hG j hj)
  ·exact ra_e (hsm j (List.mem_filter.2 ⟨hj,decide_eq_true (ra_lt (hnn j hj) (fun e=>h0 e.symm))⟩) e he Rat.le_refl)
def Inn (c:List Li) (q:Pq):Prop:=∀l∈c,0<valL l q
def Edg (c:List Li) (m:Li):Prop:=∃r,valL m r=0∧∀j∈c,j≠m→0<valL j r
theorem val_nudge (j m:Li) (r:Pq) (e:Rat):valL j (r.1+e*m.a,r.2+e*m.b)=valL j r+e*((j.a:Rat)*m.a+j.b*m.b):=by unfold valL;grind
theorem nrm_pos {m:Li}(h:m.ok):0<(m.a:Rat)*m.a+m.b*m.b:=by
 have a1:=ra_sq (m.a:Rat)
 have a2:=ra_sq (m.b:Rat)
 have:(m.a:Rat)*m.a+m.b*m.b≠0:=fun e=>by
  obtain⟨a,b⟩:=ra_nz e
  have ha:m.a=0:=Rat.intCast_eq_zero_iff.1 a
  have hb:m.b=0:=Rat.intCast_eq_zero_iff.1 b
  rcases h.2 with h|h
  ·exact h ha
  ·exact h hb
 grind
theorem Edg.inn {c:List Li}{m:Li}(hm:m.ok) (h:Edg c m):∃q,Inn c q∧0<valL m q:=by
 obtain⟨r,hr,hj⟩:=h
 obtain⟨e,he,hs⟩:=smallE (fun j=>valL j r) (fun j=>(j.a:Rat)*m.a+j.b*m.b) (c.filter fun j=>decide (j≠m)) (fun j h=>by
  rw [List.mem_filter,decide_eq_true_eq]at h;exact hj j h.1 h.2)
 have hme:0<valL m (r.1+e*m.a,r.2+e*m.b):=by
  rw [val_nudge,hr,Rat.zero_add];exact Rat.mul_pos he (nrm_pos hm)
 refine⟨(r.1+e*m.a,r.2+e*m.b),fun j h=>?_,hme⟩
 by_cases hjm:j=m
 ·rw [hjm];exact hme
 ·rw [val_nudge]
  exact hs j (List.mem_filter.2 ⟨h,decide_eq_true hjm⟩) e he Rat.le_refl
theorem Inn.kept {c d:List Li}(hok:∀l∈c,l.ok){q p:Pq}(hq:Inn c q) (hd:∀m∈c,Edg c m→m∈d) (hp:Inn d p):Inn c p:=fun k hk=>by
 by_cases h:valL k p≤0
 ·obtain⟨m,hm,h1,h2⟩:=cvx hok hq hk h
  exact absurd (hp m (hd m hm h2)) (Rat.not_lt.2 h1)
 ·exact Rat.not_le.1 h
theorem foot_zero {l:Li}(h:l.ok):∃p,valL l p=0 :=
 ⟨(-(l.c:Rat)*l.a/((l.a:Rat)*l.a+l.b*l.b),-(l.c:Rat)*l.b/((l.a:Rat)*l.a+l.b*l.b)),by
  have:=nrm_pos h
  unfold valL;simp only;grind⟩
theorem Inn.edge {c:List Li}(hok:∀l∈c,l.ok){q:Pq}(hq:Inn c q) (hc:c≠[]):∃m∈c,Edg c m:=by
 obtain⟨k,hk⟩:=List.exists_mem_of_ne_nil c hc
 obtain⟨p,hp⟩:=foot_zero (hok k hk)
 obtain⟨m,hm,_,h⟩:=cvx hok hq hk (show valL k p≤0 by rw [hp];exact Rat.le_refl)
 exact⟨m,hm,h⟩
end Go.Ab
