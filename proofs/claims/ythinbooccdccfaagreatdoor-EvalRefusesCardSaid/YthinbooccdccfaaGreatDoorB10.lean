/- Texts laid one behind the other: RefE, RefF, Geo, Ref1, Ref4, Scene1, Law26A, RefH, AffB, LnM, LnA. -/
import Derived.Test.YthinbooccdccfaaGreatDoorB08
import Derived.Test.YthinbooccdccfaaGreatDoorRefL
import Derived.Test.YthinbooccdccfaaGreatDoorB06
import Derived.Test.YthinbooccdccfaaGreatDoorFracD
set_option linter.unusedSectionVars false
set_option linter.unusedVariables false
set_option linter.unusedSimpArgs false
namespace Go.Ab
open Go.Proofs
variable [Base]
set_option maxHeartbeats 1000000 in
theorem rcommon_pu (a b:Nat) (ha:(dgs a).length≤10000000) (hb:(dgs b).length≤10000000):Pu Tryz.prog 176 [nat a,nat b] (nat (Nat.gcd a b)):=by
 have w1:=rword_pu a (by omega)
 have w2:=rword_pu b (by omega)
 by_cases hs:(dgs a).length≤2∧(dgs b).length≤2
 ·rw [if_pos hs.1]at w1
  rw [if_pos hs.2]at w2
  have la:=len_le2 hs.1
  have lb:=len_le2 hs.2
  refine Pu.intro Tryz.func176 rfl (by kernel_rfl) fun C=>?_
  repeat(refine A1 ⟨?_⟩;intros)
  refine Wc w1 ?_
  repeat(refine A1 ⟨?_⟩;intros)
  refine Wc w2 ?_
  repeat(refine A1 ⟨?_⟩;intros)
  refine WP.loop (ι:=Nat×Nat) (fun s=>Nat.gcd s.1 s.2=Nat.gcd a b∧s.1<18446744073709551616∧s.2<18446744073709551616) (fun s=>s.2)
   (fun s=>fm [(5,lit (.int .u64 s.1)),(7,lit (.int .u64 s.2))]) (fun _=>[]) (a,b) ⟨rfl,la,lb⟩ lfA rfl ?_
  rintro ⟨c,d⟩ ⟨hg',hc,hd⟩ K hK
  simp only at hg' hc hd⊢
  by_cases h0:d=0
  ·subst h0
   rw [Nat.gcd_zero_right]at hg'
   rw [←hg']
   repeat(refine A1 ⟨?_⟩;intros)
   refine Wc (word_pu c hc) ?_
   repeat(refine A1 ⟨?_⟩;intros)
   exact E1
  ·have hm:c%d<d:=Nat.mod_lt _ (by omega)
   have hgg:Nat.gcd d (c%d)=Nat.gcd a b:=by rw [←hg',Nat.gcd_comm c d,Nat.gcd_rec d c,Nat.gcd_comm]
   repeat(refine A1 ⟨?_⟩;intros)
   exact hK _ _ (d,c%d) ⟨hgg,hd,by simp only;omega⟩ hm lfA rfl
 ·have h12:(dgs a).length≤2→¬(dgs b).length≤2:=fun x y=>hs ⟨x,y⟩
  clear hs
  by_cases la:(dgs a).length≤2
  ·have lb:=h12 la
   clear h12
   rw [if_pos la]at w1
   rw [if_neg lb]at w2
   refine Pu.intro Tryz.func176 rfl (by kernel_rfl) fun C=>?_
   repeat(refine A1 ⟨?_⟩;intros)
   refine Wc w1 ?_
   repeat(refine A1 ⟨?_⟩;intros)
   refine Wc w2 ?_
   repeat(refine A1 ⟨?_⟩;intros)
   refine WP.loop (ι:=Nat×Nat) (fun s=>Nat.gcd s.1 s.2=Nat.gcd a b∧(dgs s.1).length≤10000000∧(dgs s.2).length≤10000000) (fun s=>s.2)
    (fun s=>fm [(0,nat s.1),(1,nat s.2)]) (fun _=>[]) (a,b) ⟨rfl,ha,hb⟩ lfA rfl ?_
   rintro ⟨c,d⟩ ⟨hg',hc,hd⟩ K hK
   simp only at hg' hc hd⊢
   by_cases h0:d=0
   ·subst h0
    rw [Nat.gcd_zero_right]at hg'
    rw [←hg']
    have hl:(dgs 0).length=0:=by rw [dgs_zero];rfl
    repeat(refine A1 ⟨?_⟩;intros)
    exact E1
   ·have hl:=dgs_len_pos h0
    have hm:c%d<d:=Nat.mod_lt _ (by omega)
    have hgg:Nat.gcd d (c%d)=Nat.gcd a b:=by rw [←hg',Nat.gcd_comm c d,Nat.gcd_rec d c,Nat.gcd_comm]
    have hlm:=len_mono (Nat.le_of_lt hm)
    repeat(refine A1 ⟨?_⟩;intros)
    refine Wc (rdivide_pu c d h0 hc hd) ?_
    repeat(refine A1 ⟨?_⟩;intros)
    exact hK _ _ (d,c%d) ⟨hgg,hd,by simp only;omega⟩ hm lfA rfl
  ·clear h12
   rw [if_neg la]at w1
   refine Pu.intro Tryz.func176 rfl (by kernel_rfl) fun C=>?_
   repeat(refine A1 ⟨?_⟩;intros)
   refine Wc w1 ?_
   repeat(refine A1 ⟨?_⟩;intros)
   refine WP.loop (ι:=Nat×Nat) (fun s=>Nat.gcd s.1 s.2=Nat.gcd a b∧(dgs s.1).length≤10000000∧(dgs s.2).length≤10000000) (fun s=>s.2)
    (fun s=>fm [(0,nat s.1),(1,nat s.2)]) (fun _=>[]) (a,b) ⟨rfl,ha,hb⟩ lfA rfl ?_
   rintro ⟨c,d⟩ ⟨hg',hc,hd⟩ K hK
   simp only at hg' hc hd⊢
   by_cases h0:d=0
   ·subst h0
    rw [Nat.gcd_zero_right]at hg'
    rw [←hg']
    have hl:(dgs 0).length=0:=by rw [dgs_zero];rfl
    repeat(refine A1 ⟨?_⟩;intros)
    exact E1
   ·have hl:=dgs_len_pos h0
    have hm:c%d<d:=Nat.mod_lt _ (by omega)
    have hgg:Nat.gcd d (c%d)=Nat.gcd a b:=by rw [←hg',Nat.gcd_comm c d,Nat.gcd_rec d c,Nat.gcd_comm]
    have hlm:=len_mono (Nat.le_of_lt hm)
    repeat(refine A1 ⟨?_⟩;intros)
    refine Wc (rdivide_pu c d h0 hc hd) ?_
    repeat(refine A1 ⟨?_⟩;intros)
    exact hK _ _ (d,c%d) ⟨hgg,hd,by simp only;omega⟩ hm lfA rfl
def dden (d:Nat):List Nat:=if d=1 then []else dgs d
abbrev rq (x:Rat):SV:=ag [lit (.bool (decide (x.num<0))),nat x.num.natAbs,dg (dden x.den)]
theorem dden_one:dden 1=[]:=rfl
theorem dden_ne {d:Nat}(h:d≠1):dden d=dgs d:=if_neg h
theorem dgs_ne_nil {d:Nat}(h:d≠0):(dgs d).length≠0:=by have:=dgs_len_pos h;omega
theorem rden_pu (x:Rat):Pu Tryz.prog 111 [rq x] (nat x.den):=by
 by_cases h:x.den=1
 ·show Pu _ _ [ag [lit (.bool (decide (x.num<0))),nat x.num.natAbs,dg (dden x.den)]] _
  rw [h,dden_one]
  refine Pu.intro Tryz.func111 rfl (by kernel_rfl) fun C=>?_
  repeat(refine A1 ⟨?_⟩;intros)
  refine Wc one_pu ?_
  repeat(refine A1 ⟨?_⟩;intros)
  exact E1
 ·show Pu _ _ [ag [lit (.bool (decide (x.num<0))),nat x.num.natAbs,dg (dden x.den)]] _
  rw [dden_ne h]
  have hl:=dgs_ne_nil x.den_nz
  refine Pu.intro Tryz.func111 rfl (by kernel_rfl) fun C=>?_
  repeat(refine A1 ⟨?_⟩;intros)
  exact E1
set_option maxHeartbeats 1000000 in
theorem rfrac_pu (a:Int) (d:Nat) (ha:il a≤10000000) (hd:(dgs d).length≤10000000) (h0:d≠0):Pu Tryz.prog 126 [int a,nat d] (rq (mkRat a d)):=by
  have hmk:=mk_sv (decide (a<0)) a.natAbs h0
  rw [sv_int]at hmk
  obtain⟨e1,e2⟩:=hmk
  have hg0:Nat.gcd a.natAbs d≠0:=fun h=>h0 (Nat.gcd_eq_zero_iff.1 h).2
  have gd2:=Nat.gcd_dvd_right a.natAbs d
  have gl:=Nat.le_of_dvd (Nat.pos_of_ne_zero h0) gd2
  have hgl:=len_mono gl
  have l1:=len_mono (Nat.div_le_self a.natAbs (Nat.gcd a.natAbs d))
  have l2:=len_mono (Nat.div_le_self d (Nat.gcd a.natAbs d))
  have cm:=rcommon_pu a.natAbs d ha hd
  have ha':(dgs a.natAbs).length≤10000000:=ha
  generalize hx:mkRat a d=x at *
  generalize hg:Nat.gcd a.natAbs d=g at *
  have hlg:(dgs g).length≤10000000:=by omega
  have lden:(dgs x.den).length≤10000000:=by rw [e2];omega
  have ho:(dgs 1).length=1:=by rw [dgs_one];rfl
  have cmp1:=rcmp_pu g 1 (by omega) (by omega)
  have cmp2:=rcmp_pu x.den 1 (by omega) (by omega)
  refine Pu.intro Tryz.func126 rfl (by kernel_rfl) fun C=>?_
  repeat(refine A1 ⟨?_⟩;intros)
  rename_i b2 b4
  refine Wc cm ?_
  repeat(refine A1 ⟨?_⟩;intros)
  refine Wc one_pu ?_
  refine Wc cmp1 ?_
  repeat(refine A1 ⟨?_⟩;intros)
  refine WP.via (fun F H => LeF F (fm [(1, nat x.den), (2, lit (.pointer (some ⟨b2, 0, none⟩))), (4, lit (.pointer (some ⟨b4, 0, none⟩)))]) ∧
        H=[(b4,83,[lit (.bool false),lit (.slice none 0 0),lit (.slice none 0 0)]),(b2,81,[lit (.bool (decide (x.num<0))),nat x.num.natAbs])]) ?_ ?_
  · refine WPd (fun h=>?_) (fun h=>?_)
    · rw [e1,e2]
      repeat(refine A1 ⟨?_⟩;intros)
      refine Wc (rdivide_pu a.natAbs g hg0 ha' hlg) ?_
      repeat(refine A1 ⟨?_⟩;intros)
      refine Wc (rmake_pu (decide (a<0)) (a.natAbs/g) (by omega)) ?_
      repeat(refine A1 ⟨?_⟩;intros)
      refine Wc (rdivide_pu d g hg0 hd hlg) ?_
      repeat(refine A1 ⟨?_⟩;intros)
      exact⟨lfA,rfl⟩
    · have hg1:g=1:=by
        rcases Nat.lt_trichotomy g 1 with h'|h'|h'
        · omega
        · exact h'
        · rw [cmpN_gt h']at h;exact absurd (by decide) h
      rw [hg1,Nat.div_one,sv_int]at e1
      rw [hg1,Nat.div_one]at e2
      rw [e1,e2]
      repeat(refine A1 ⟨?_⟩;intros)
      exact⟨lfA,rfl⟩
  · rintro F H ⟨hF,rfl⟩
    refine WP.le hF ?_
    repeat(refine A1 ⟨?_⟩;intros)
    refine Wc one_pu ?_
    refine Wc cmp2 ?_
    by_cases h1:x.den=1
    · rw [show rq x=ag [lit (.bool (decide (x.num<0))),nat x.num.natAbs,dg []]from by rw [rq,h1,dden_one],h1,cmpN_eq]
      repeat(refine A1 ⟨?_⟩;intros)
      refine endR (end1 (RV.cellA rfl List.mem_cons_self rfl rfl) (Le.ag ⟨Le.refl _,Le.refl _,le_nil,trivial⟩))
    · have hc:cmpN x.den 1=1:=cmpN_gt (by have:=x.den_nz;omega)
      rw [show rq x=ag [lit (.bool (decide (x.num<0))),nat x.num.natAbs,nat x.den]from by rw [rq,dden_ne h1],hc]
      repeat(refine A1 ⟨?_⟩;intros)
      ((first|refine endR ?_|refine endN ?_);refine end1 RVa (Le.refl _))
theorem dden_len {d:Nat}(h:d≠0):d≠1→(dden d).length≠0:=fun h1=>by rw [dden_ne h1];exact dgs_ne_nil h
theorem dden_len1 {d:Nat}(h:d=1):(dden d).length=0:=by rw [h,dden_one];rfl
abbrev pp (x y:Rat):SV:=ag [lit (.int .i64 (r0 x)),lit (.int .i64 (r1 x)),r2 x,lit (.int .i64 (r0 y)),lit (.int .i64 (r1 y)),r2 y]
structure RQ where
 s:Bool
 n:List Nat
 d:List Nat
def RQ.v (r:RQ):Rat:=mkRat (sv r.s (val r.n)) (val r.d)
def RQ.ok (L:Nat) (r:RQ):Prop:=D r.n∧D r.d∧r.n.length≤L∧r.d.length≤L
abbrev qr (r:RQ):SV:=qraw r.s r.n r.d
abbrev pr (a b:RQ):SV:=ag [lit (.bool a.s),dg a.n,dg a.d,lit (.bool b.s),dg b.n,dg b.d]
def RQ.of (x:Rat):RQ:=⟨decide (x.num<0),dgs x.num.natAbs,dgs x.den⟩
theorem RQ.of_v (x:Rat):(RQ.of x).v=x:=by
 unfold RQ.v RQ.of;simp only [val_dgs,sv_int];exact Rat.mkRat_self x
theorem RQ.of_ok {x:Rat}{L:Nat}(h:ht x≤L):(RQ.of x).ok L :=
 ⟨D_dgs _,D_dgs _,Nat.le_trans (ht_num x) h,Nat.le_trans (ht_den x) h⟩
theorem il_sv {s:Bool}{xs:List Nat}(h:D xs):il (sv s (val xs))≤xs.length:=by unfold il;rw [sv_abs];exact dlen_val h
theorem ht_v {r:RQ}{L:Nat}(h:r.ok L):ht r.v≤L+1:=by
 obtain⟨h1,h2,h3,h4⟩:=h
 have:=ht_mk (sv r.s (val r.n)) (val r.d)
 have a1:=il_sv (s:=r.s) h1
 have a2:=dlen_val h2
 unfold RQ.v;omega
theorem of_pu {r:RQ}{L:Nat}(h:r.ok L) (hL:L≤1000000):Pu Tryz.prog 185 [qr r] (fr r.v) :=
 of_raw r.s r.n r.d (by have:=h.2.2.1;omega) (by have:=h.2.2.2;omega) h.1 h.2.1
theorem ptOf_pu {a b:RQ}{L:Nat}(ha:a.ok L) (hb:b.ok L) (hL:L≤1000000):Pu Tryz.prog 128 [pr a b] (pp a.v b.v):=by
 refine Pu.intro Tryz.func128 rfl (by kernel_rfl) fun C=>?_
 repeat(refine A1 ⟨?_⟩;intros)
 refine Wdc (of_pu ha hL) ?_
 repeat(refine A1 ⟨?_⟩;intros)
 refine Wdc (of_pu hb hL) ?_
 repeat(refine A1 ⟨?_⟩;intros)
 ((first|refine endR ?_|refine endN ?_);refine end1 RVa (Le.refl _))
theorem padd_pu (x y u v:Rat) (hx:ht x≤1000000) (hy:ht y≤1000000) (hu:ht u≤1000000) (hv:ht v≤1000000):Pu Tryz.prog 189 [pp x y,pp u v] (pp (x+u) (y+v)):=by
 refine Pu.intro Tryz.func189 rfl (by kernel_rfl) fun C=>?_
 repeat(refine A1 ⟨?_⟩;intros)
 refine Wdc (radd_pu x u (by omega) (by omega)) ?_
 repeat(refine A1 ⟨?_⟩;intros)
 refine Wdc (radd_pu y v (by omega) (by omega)) ?_
 repeat(refine A1 ⟨?_⟩;intros)
 ((first|refine endR ?_|refine endN ?_);refine end1 RVa (Le.refl _))
theorem pscale_pu (x y u:Rat) (hx:ht x≤1000000) (hy:ht y≤1000000) (hu:ht u≤1000000):Pu Tryz.prog 250 [pp x y,fr u] (pp (x*u) (y*u)):=by
 refine Pu.intro Tryz.func250 rfl (by kernel_rfl) fun C=>?_
 repeat(refine A1 ⟨?_⟩;intros)
 refine Wdc (rmul_pu x u (by omega) (by omega)) ?_
 repeat(refine A1 ⟨?_⟩;intros)
 refine Wdc (rmul_pu y u (by omega) (by omega)) ?_
 repeat(refine A1 ⟨?_⟩;intros)
 ((first|refine endR ?_|refine endN ?_);refine end1 RVa (Le.refl _))
theorem pcross_pu (x y u v:Rat) (hx:ht x≤1000000) (hy:ht y≤1000000) (hu:ht u≤1000000) (hv:ht v≤1000000):Pu Tryz.prog 186 [pp x y,pp u v] (fr (x*v-y*u)):=by
 have h1:=ht_mul x v
 have h2:=ht_mul y u
 refine Pu.intro Tryz.func186 rfl (by kernel_rfl) fun C=>?_
 repeat(refine A1 ⟨?_⟩;intros)
 refine Wdc (rmul_pu x v (by omega) (by omega)) ?_
 repeat(refine A1 ⟨?_⟩;intros)
 refine Wdc (rmul_pu y u (by omega) (by omega)) ?_
 repeat(refine A1 ⟨?_⟩;intros)
 refine Wdc (rsub_pu (x*v) (y*u) (by omega) (by omega)) ?_
 repeat(refine A1 ⟨?_⟩;intros)
 ((first|refine endR ?_|refine endN ?_);refine end1 RVa (Le.refl _))
structure M6 (α:Type) where
 a:α
 b:α
 c:α
 d:α
 e:α
 f:α
structure M6.ok (L:Nat) (m:M6 RQ):Prop where
 a:m.a.ok L
 b:m.b.ok L
 c:m.c.ok L
 d:m.d.ok L
 e:m.e.ok L
 f:m.f.ok L
structure M6.le (L:Nat) (m:M6 Rat):Prop where
 a:ht m.a≤L
 b:ht m.b≤L
 c:ht m.c≤L
 d:ht m.d≤L
 e:ht m.e≤L
 f:ht m.f≤L
def M6.v (m:M6 RQ):M6 Rat:=⟨m.a.v,m.b.v,m.c.v,m.d.v,m.e.v,m.f.v⟩
theorem le_decF {p:Prop} [Decidable p] (h:¬p):Le (lit (.bool false)) (lit (.bool (decide p))):=by rw [decide_eq_false h];exact Le.refl _
theorem le_decT {p:Prop} [Decidable p] (h:p):Le (lit (.bool true)) (lit (.bool (decide p))):=by rw [decide_eq_true h];exact Le.refl _
theorem sameN_pu (xs ys:List Nat) (hx:xs.length≤1000000000) (hy:ys.length≤1000000000):Pu Tryz.prog 168 [dg xs,dg ys] (lit (.bool (decide (xs=ys)))):=by
 by_cases hl:xs.length=ys.length
 ·refine Pu.intro Tryz.func168 rfl (by kernel_rfl) fun C=>?_
  repeat(refine A1 ⟨?_⟩;intros)
  refine WP.loop (ι:=Nat) (fun k=>k≤xs.length∧xs.take k=ys.take k) (fun k=>xs.length-k) (fun k=>fm [(0,dg xs),(1,dg ys),(11,dg xs),(12,lit (.int .i64 xs.length)),(13,lit (.int .i64 k))]) (fun _=>[]) 0
   ⟨Nat.zero_le _,rfl⟩ lfA rfl ?_
  rintro k ⟨hk,he⟩ K hK
  by_cases hkl:k<xs.length
  ·by_cases hd:xs.getD k 0=ys.getD k 0
   ·repeat(refine A1 ⟨?_⟩;intros)
    exact hK _ _ (k+1) ⟨by omega,by rw [take_succ_getD xs k hkl,take_succ_getD ys k (by omega),he,hd]⟩ (by omega) lfA rfl
   ·repeat(refine A1 ⟨?_⟩;intros)
    exact endR (end1 (RV.tmp rfl) (le_decF fun e=>hd (by rw [e])))
  ·have hke:k=xs.length:=by omega
   subst hke
   rw [List.take_length,hl,List.take_length]at he
   repeat(refine A1 ⟨?_⟩;intros)
   exact endR (end1 (RV.tmp rfl) (le_decT he))
 ·refine Pu.intro Tryz.func168 rfl (by kernel_rfl) fun C=>?_
  repeat(refine A1 ⟨?_⟩;intros)
  exact endR (end1 (RV.tmp rfl) (le_decF fun e=>hl (by rw [e])))
theorem toN_pu (xs:List Nat) (h:xs.length≤1000000000):Pu Tryz.prog 139 [dg xs] (dg xs):=by
 refine Pu.intro Tryz.func139 rfl (by kernel_rfl) fun C=>?_
 repeat(refine A1 ⟨?_⟩;intros)
 exact E1
theorem n_pu (xs:List Nat) (h:xs.length≤1000000000) (hD:D xs):Pu Tryz.prog 130 [dg xs] (nat (val xs)):=by
 refine Pu.intro Tryz.func130 rfl (by kernel_rfl) fun C=>?_
 repeat(first|(refine A1 ⟨?_⟩;intros)|(refine Wcx (rtrim_nat _ h hD) ?_)|(refine Wdcx (rtrim_nat _ h hD) ?_)|(refine Wcgx (rtrim_nat _ h hD) ?_)|(refine Wdcgx (rtrim_nat _ h hD) ?_))
 exact E1
theorem i_pu (s:Bool) (xs:List Nat) (h:xs.length≤1000000000) (hD:D xs):Pu Tryz.prog 131 [raw s xs] (int (sv s (val xs))):=by
 have hl:=dlen_val hD
 refine Pu.intro Tryz.func131 rfl (by kernel_rfl) fun C=>?_
 repeat(first|(refine A1 ⟨?_⟩;intros)|(refine Wcx (n_pu _ h hD) ?_)|(refine Wdcx (n_pu _ h hD) ?_)|(refine Wcgx (n_pu _ h hD) ?_)|(refine Wdcgx (n_pu _ h hD) ?_)|(refine Wcx (rmake_pu _ _ (by omega)) ?_)|(refine Wdcx (rmake_pu _ _ (by omega)) ?_)|(refine Wcgx (rmake_pu _ _ (by omega)) ?_)|(refine Wdcgx (rmake_pu _ _ (by omega)) ?_))
 ((first|refine endR ?_|refine endN ?_);refine end1 RVa (Le.refl _))
theorem toI_pu (z:Int) (h:il z≤1000000000):Pu Tryz.prog 138 [int z] (int z):=by
 have h':(dgs z.natAbs).length≤1000000000:=h
 refine Pu.intro Tryz.func138 rfl (by kernel_rfl) fun C=>?_
 repeat(first|(refine A1 ⟨?_⟩;intros)|(refine Wcx (toN_pu _ h') ?_)|(refine Wdcx (toN_pu _ h') ?_)|(refine Wcgx (toN_pu _ h') ?_)|(refine Wdcgx (toN_pu _ h') ?_))
 ((first|refine endR ?_|refine endN ?_);refine end1 RVa (Le.refl _))
theorem sameI_pu (s t:Bool) (xs ys:List Nat) (hx:xs.length≤1000000000) (hy:ys.length≤1000000000):Pu Tryz.prog 101 [raw s xs,raw t ys] (lit (.bool (decide (s=t∧xs=ys)))):=by
 cases s <;> cases t
 ·refine Pu.intro Tryz.func101 rfl (by kernel_rfl) fun C=>?_
  repeat(first|(refine A1 ⟨?_⟩;intros)|(refine Wcx (sameN_pu _ _ hx hy) ?_)|(refine Wdcx (sameN_pu _ _ hx hy) ?_)|(refine Wcgx (sameN_pu _ _ hx hy) ?_)|(refine Wdcgx (sameN_pu _ _ hx hy) ?_))
  refine endR (end1 (RV.tmp rfl) (Le.bool ?_));simp
 ·refine Pu.intro Tryz.func101 rfl (by kernel_rfl) fun C=>?_
  repeat(first|(refine A1 ⟨?_⟩;intros)|(refine Wcx (sameN_pu _ _ hx hy) ?_)|(refine Wdcx (sameN_pu _ _ hx hy) ?_)|(refine Wcgx (sameN_pu _ _ hx hy) ?_)|(refine Wdcgx (sameN_pu _ _ hx hy) ?_))
  refine endR (end1 (RV.tmp rfl) (Le.bool ?_));simp
 ·refine Pu.intro Tryz.func101 rfl (by kernel_rfl) fun C=>?_
  repeat(first|(refine A1 ⟨?_⟩;intros)|(refine Wcx (sameN_pu _ _ hx hy) ?_)|(refine Wdcx (sameN_pu _ _ hx hy) ?_)|(refine Wcgx (sameN_pu _ _ hx hy) ?_)|(refine Wdcgx (sameN_pu _ _ hx hy) ?_))
  refine endR (end1 (RV.tmp rfl) (Le.bool ?_));simp
 ·refine Pu.intro Tryz.func101 rfl (by kernel_rfl) fun C=>?_
  repeat(first|(refine A1 ⟨?_⟩;intros)|(refine Wcx (sameN_pu _ _ hx hy) ?_)|(refine Wdcx (sameN_pu _ _ hx hy) ?_)|(refine Wcgx (sameN_pu _ _ hx hy) ?_)|(refine Wdcgx (sameN_pu _ _ hx hy) ?_))
  refine endR (end1 (RV.tmp rfl) (Le.bool ?_));simp
theorem lit_dec {p:Prop} [Decidable p] (h:p):lit (.bool (decide p))=lit (.bool true):=by rw [decide_eq_true h]
theorem sameN_t (xs:List Nat) (hx:xs.length≤1000000000):Pu Tryz.prog 168 [dg xs,dg xs] (lit (.bool true)):=lit_dec (p:=xs=xs) rfl▸sameN_pu xs xs hx hx
theorem sameI_t (s:Bool) (xs:List Nat) (hx:xs.length≤1000000000):Pu Tryz.prog 101 [raw s xs,raw s xs] (lit (.bool true)):=lit_dec (p:=s=s∧xs=xs) ⟨rfl,rfl⟩▸sameI_pu s s xs xs hx hx
theorem sameQ_t (s:Bool) (xs ys:List Nat) (hx:xs.length≤1000000000) (hy:ys.length≤1000000000):Pu Tryz.prog 135 [qraw s xs ys,qraw s xs ys] (lit (.bool true)):=by
 refine Pu.intro Tryz.func135 rfl (by kernel_rfl) fun C=>?_
 repeat(first|(refine A1 ⟨?_⟩;intros)|(refine Wcx (sameN_t _ hy) ?_)|(refine Wdcx (sameN_t _ hy) ?_)|(refine Wcgx (sameN_t _ hy) ?_)|(refine Wdcgx (sameN_t _ hy) ?_)|(refine Wcx (sameI_t _ _ hx) ?_)|(refine Wdcx (sameI_t _ _ hx) ?_)|(refine Wcgx (sameI_t _ _ hx) ?_)|(refine Wdcgx (sameI_t _ _ hx) ?_))
 exact E1
theorem sameq_pu (x:Rat) (h:ht x≤1000000000):Pu Tryz.prog 135 [q x,q x] (lit (.bool true)):=by
 have h1:=ht_num x
 have h2:=ht_den x
 exact sameQ_t _ _ _ (by have:il x.num=(dgs x.num.natAbs).length:=rfl;omega) (by omega)
theorem toQ_pu (x:Rat) (h:ht x≤100000000):Pu Tryz.prog 75 [rq x] (q x):=by
 have h1:=ht_num x
 have h2:=ht_den x
 refine Pu.intro Tryz.func75 rfl (by kernel_rfl) fun C=>?_
 repeat(first|(refine A1 ⟨?_⟩;intros)|(refine Wcx (toI_pu _ (by omega)) ?_)|(refine Wdcx (toI_pu _ (by omega)) ?_)|(refine Wcgx (toI_pu _ (by omega)) ?_)|(refine Wdcgx (toI_pu _ (by omega)) ?_)|refine W4 (rden_pu x) ⟨?_⟩|(refine Wcx (toN_pu _ (by omega)) ?_)|(refine Wdcx (toN_pu _ (by omega)) ?_)|(refine Wcgx (toN_pu _ (by omega)) ?_)|(refine Wdcgx (toN_pu _ (by omega)) ?_))
 ((first|refine endR ?_|refine endN ?_);refine end1 RVa (Le.refl _))
theorem rq_zero:rq 0=ag [lit (.bool false),nat 0,dg []]:=by rw [rq,show(0:Rat).num=0 from rfl,show(0:Rat).den=1 from rfl,dden_one];rfl
theorem q_pu {r:RQ}{L:Nat}(h:r.ok L) (hL:L≤1000000):Pu Tryz.prog 71 [qr r] (rq r.v):=by
 obtain⟨h1,h2,h3,h4⟩:=h
 have hl:=dlen_val h2
 have hi:=il_sv (s:=r.s) h1
 by_cases h0:val r.d=0
 ·have hv:r.v=0:=by unfold RQ.v;rw [h0];exact Rat.mkRat_zero _
  rw [hv,rq_zero]
  have hn:=n_pu r.d (by omega) h2
  rw [h0]at hn
  have hl0:(dgs 0).length=0:=by rw [dgs_zero];rfl
  refine Pu.intro Tryz.func71 rfl (by kernel_rfl) fun C=>?_
  repeat(first|(refine A1 ⟨?_⟩;intros)|refine W4 hn ⟨?_⟩)
  refine endR (end1 (RV.cellA rfl List.mem_cons_self rfl rfl) (Le.ag ⟨Le.refl _,?_,le_nil,trivial⟩))
  rw [show nat 0=dg []from by show dg (dgs 0)=_;rw [dgs_zero]]
  exact le_nil
 ·have hp:=dgs_len_pos h0
  refine Pu.intro Tryz.func71 rfl (by kernel_rfl) fun C=>?_
  repeat(first|(refine A1 ⟨?_⟩;intros)|refine W4 (n_pu r.d (by omega) h2) ⟨?_⟩|(refine Wcx (i_pu _ _ (by omega) h1) ?_)|(refine Wdcx (i_pu _ _ (by omega) h1) ?_)|(refine Wcgx (i_pu _ _ (by omega) h1) ?_)|(refine Wdcgx (i_pu _ _ (by omega) h1) ?_)|(refine Wcx (rfrac_pu _ _ (by omega) (by omega) h0) ?_)|(refine Wdcx (rfrac_pu _ _ (by omega) (by omega) h0) ?_)|(refine Wcgx (rfrac_pu _ _ (by omega) (by omega) h0) ?_)|(refine Wdcgx (rfrac_pu _ _ (by omega) (by omega) h0) ?_))
  ((first|refine endR ?_|refine endN ?_);refine end1 RVa (Le.refl _))
theorem ht_one:ht 1=1:=by
 unfold ht
 rw [show(1:Rat).num=1 from rfl,show(1:Rat).den=1 from rfl]
 unfold il
 rw [show(1:Int).natAbs=1 from rfl,dgs_one];rfl
abbrev qcells (r:RQ):List SV:=[lit (.bool r.s),dg r.n,dg r.d]
def RQ.short (n:Nat) (r:RQ):Prop:=r.n.length≤n∧r.d.length≤n
instance (n:Nat) (r:RQ):Decidable (r.short n):=by unfold RQ.short;infer_instance
theorem qcells_len (r:RQ):(qcells r).length=3:=rfl
theorem take_snoc {α:Type}{l:List α}{k:Nat}{a:α}(h:l[k]? = some a):l.take (k+1)=l.take k++[a]:=by
 obtain⟨h1,h2⟩:=List.getElem?_eq_some_iff.1 h
 rw [List.take_succ_eq_append_getElem h1,h2]
theorem smallQ_pu (n:Nat) (hn:n≤1000000000) (rs:List RQ) (hl:rs.length≤1000000000):Pu Tryz.prog 35 [lit (.int .i64 n),sl (rs.map qcells).flatten rs.length] (lit (.bool (decide (∀r∈rs,r.short n)))):=by
 refine Pu.intro Tryz.func35 rfl (by kernel_rfl) fun C=>?_
 repeat(refine A1 ⟨?_⟩;intros)
 refine WP.loopS (ι:=Nat) (fun k=>k≤rs.length∧∀r∈rs.take k,r.short n) (fun k=>rs.length-k) (fun k=>fm [(0,lit (.int .i64 n)),(7,sl (rs.map qcells).flatten rs.length),(8,lit (.int .i64 rs.length)),(9,lit (.int .i64 k))]) (fun _=>[]) 0
  ⟨Nat.zero_le _,by simp⟩ lfA (List.nil_sublist _) ?_
 rintro k ⟨hk,hr⟩ K hK
 by_cases hkl:k<rs.length
 ·have hget:=List.getElem?_eq_getElem hkl
  generalize rs[k]=r at hget
  have hmem:r∈rs:=List.mem_of_getElem? hget
  have hat:=flat_at (f:=qcells) (n:=3) qcells_len hget
  have hne:(rs.map qcells).flatten≠[]:=flat_ne qcells_len (by omega) (fun e=>by rw [e]at hkl;simp at hkl)
  by_cases h1:r.n.length≤n
  ·by_cases h2:r.d.length≤n
   ·have hK2:=hK
    repeat(refine A1 ⟨?_⟩;intros)
    refine Wo (ov_idxS (cs':=qcells r) rfl rfl (by omega) (by omega) hat hne) ?_
    repeat(refine A1 ⟨?_⟩;intros)
    refine hK _ _ (k+1) ⟨by omega,?_⟩ (by omega) lfA (List.nil_sublist _)
    rw [take_snoc hget]
    intro x hx
    rcases List.mem_append.1 hx with hx|hx
    ·exact hr x hx
    ·rw [List.mem_singleton]at hx;subst hx;exact⟨h1,h2⟩
   ·repeat(refine A1 ⟨?_⟩;intros)
    refine Wo (ov_idxS (cs':=qcells r) rfl rfl (by omega) (by omega) hat hne) ?_
    repeat(refine A1 ⟨?_⟩;intros)
    exact endR (end1 (RV.tmp rfl) (le_decF fun h=>h2 (h r hmem).2))
  ·repeat(refine A1 ⟨?_⟩;intros)
   refine Wo (ov_idxS (cs':=qcells r) rfl rfl (by omega) (by omega) hat hne) ?_
   repeat(refine A1 ⟨?_⟩;intros)
   exact endR (end1 (RV.tmp rfl) (le_decF fun h=>h1 (h r hmem).1))
 ·have hke:k=rs.length:=by omega
  subst hke
  rw [List.take_length]at hr
  repeat(refine A1 ⟨?_⟩;intros)
  exact endR (end1 (RV.tmp rfl) (le_decT hr))
theorem smallQ_t (n:Nat) (hn:n≤1000000000) (rs:List RQ) (hl:rs.length≤1000000000) (h:∀r∈rs,r.short n):Pu Tryz.prog 35 [lit (.int .i64 n),sl (rs.map qcells).flatten rs.length] (lit (.bool true)):=by
 have:=smallQ_pu n hn rs hl;rwa [decide_eq_true h]at this
theorem smallQ_f (n:Nat) (hn:n≤1000000000) (rs:List RQ) (hl:rs.length≤1000000000) (h:¬∀r∈rs,r.short n):Pu Tryz.prog 35 [lit (.int .i64 n),sl (rs.map qcells).flatten rs.length] (lit (.bool false)):=by
 have:=smallQ_pu n hn rs hl;rwa [decide_eq_false h]at this
abbrev pcells (p:RQ×RQ):List SV:=[lit (.bool p.1.s),dg p.1.n,dg p.1.d,lit (.bool p.2.s),dg p.2.n,dg p.2.d]
theorem pcells_len (p:RQ×RQ):(pcells p).length=6:=rfl
theorem smallP_pu (n:Nat) (hn:n≤1000000000) (ps:List (RQ×RQ)) (hl:ps.length≤1000000000):Pu Tryz.prog 9 [lit (.int .i64 n),sl (ps.map pcells).flatten ps.length] (lit (.bool (decide (∀p∈ps,p.1.short n∧p.2.short n)))):=by
 refine Pu.intro Tryz.func9 rfl (by kernel_rfl) fun C=>?_
 repeat(refine A1 ⟨?_⟩;intros)
 refine WP.loopS (ι:=Nat) (fun k=>k≤ps.length∧∀p∈ps.take k,p.1.short n∧p.2.short n) (fun k=>ps.length-k) (fun k=>fm [(0,lit (.int .i64 n)),(7,sl (ps.map pcells).flatten ps.length),(8,lit (.int .i64 ps.length)),(9,lit (.int .i64 k))]) (fun _=>[]) 0
  ⟨Nat.zero_le _,by simp⟩ lfA (List.nil_sublist _) ?_
 rintro k ⟨hk,hr⟩ K hK
 by_cases hkl:k<ps.length
 ·have hget:=List.getElem?_eq_getElem hkl
  generalize ps[k]=p at hget
  have hmem:p∈ps:=List.mem_of_getElem? hget
  have hat:=flat_at (f:=pcells) (n:=6) pcells_len hget
  have hne:(ps.map pcells).flatten≠[]:=flat_ne pcells_len (by omega) (fun e=>by rw [e]at hkl;simp at hkl)
  by_cases h1:∀r∈[p.1,p.2],r.short n
  ·have hc:=smallQ_t n hn [p.1,p.2] (by simp) h1
   have h2:=h1 p.1 (by simp)
   have h3:=h1 p.2 (by simp)
   repeat(refine A1 ⟨?_⟩;intros)
   refine Wo (ov_idxS (cs':=pcells p) rfl rfl (by omega) (by omega) hat hne) ?_
   repeat(refine A1 ⟨?_⟩;intros)
   refine WpubS 18 rfl (HDel.here _) (by omega) (by omega) ?_
   refine Wcx hc ?_
   repeat(refine A1 ⟨?_⟩;intros)
   refine hK _ _ (k+1) ⟨by omega,?_⟩ (by omega) lfA (List.nil_sublist _)
   rw [take_snoc hget]
   intro x hx
   rcases List.mem_append.1 hx with hx|hx
   ·exact hr x hx
   ·rw [List.mem_singleton]at hx;subst hx;exact⟨h2,h3⟩
  ·have hc:=smallQ_f n hn [p.1,p.2] (by simp) h1
   repeat(refine A1 ⟨?_⟩;intros)
   refine Wo (ov_idxS (cs':=pcells p) rfl rfl (by omega) (by omega) hat hne) ?_
   repeat(refine A1 ⟨?_⟩;intros)
   refine WpubS 18 rfl (HDel.here _) (by omega) (by omega) ?_
   refine Wcx hc ?_
   repeat(refine A1 ⟨?_⟩;intros)
   exact endR (end1 (RV.tmp rfl) (le_decF fun h=>h1 fun r hr=>by
    have:=h p hmem
    simp only [List.mem_cons,List.not_mem_nil,or_false]at hr
    rcases hr with rfl|rfl
    ·exact this.1
    ·exact this.2))
 ·have hke:k=ps.length:=by omega
  subst hke
  rw [List.take_length]at hr
  repeat(refine A1 ⟨?_⟩;intros)
  exact endR (end1 (RV.tmp rfl) (le_decT hr))
theorem smallP_t (n:Nat) (hn:n≤1000000000) (ps:List (RQ×RQ)) (hl:ps.length≤1000000000) (h:∀p∈ps,p.1.short n∧p.2.short n):Pu Tryz.prog 9 [lit (.int .i64 n),sl (ps.map pcells).flatten ps.length] (lit (.bool true)):=by
 have:=smallP_pu n hn ps hl;rwa [decide_eq_true h]at this
theorem smallP_f (n:Nat) (hn:n≤1000000000) (ps:List (RQ×RQ)) (hl:ps.length≤1000000000) (h:¬∀p∈ps,p.1.short n∧p.2.short n):Pu Tryz.prog 9 [lit (.int .i64 n),sl (ps.map pcells).flatten ps.length] (lit (.bool false)):=by
 have:=smallP_pu n hn ps hl;rwa [decide_eq_false h]at this
theorem ht_zero:ht 0=1:=by
 unfold ht il
 rw [show(0:Rat).num=0 from rfl,show(0:Rat).den=1 from rfl,show(0:Int).natAbs=0 from rfl,dgs_zero,dgs_one];rfl
theorem q_of (x:Rat) (h:ht x≤100000):Pu Tryz.prog 71 [q x] (rq x):=by
 have:=q_pu (RQ.of_ok h) (by omega)
 rwa [RQ.of_v]at this
def M6.of (m:M6 Rat):M6 RQ:=⟨RQ.of m.a,RQ.of m.b,RQ.of m.c,RQ.of m.d,RQ.of m.e,RQ.of m.f⟩
theorem M6.of_v (m:M6 Rat):m.of.v=m:=by
 unfold M6.of M6.v
 simp only [RQ.of_v]
theorem M6.of_ok {m:M6 Rat}{L:Nat}(h:m.le L):m.of.ok L:=⟨RQ.of_ok h.a,RQ.of_ok h.b,RQ.of_ok h.c,RQ.of_ok h.d,RQ.of_ok h.e,RQ.of_ok h.f⟩
theorem ht_small (z:Int) (h:z.natAbs<4294967296):ht (z:Rat)≤1:=by
 unfold ht
 rw [Rat.num_intCast,Rat.den_intCast,dgs_one]
 have:il z≤1:=len_le (k:=1) (by simpa using h)
 simp;omega
def rgcd (x y:Rat):Rat:=mkRat (Nat.gcd (x.num.natAbs*y.den) (y.num.natAbs*x.den):Nat) (x.den*y.den)
theorem cross_mk {x:Rat}{p:Int}{d:Nat}(hd:d≠0) (h:x=mkRat p d):x.num*d=p*x.den:=by
 have h1:=Rat.mkRat_self x
 rw [←h1]at h
 conv at h=>lhs;rw [h1]
 have:=(Rat.mkRat_eq_iff (n₁:=x.num) (n₂:=p) x.den_nz hd).1 (by rw [Rat.mkRat_self];exact h)
 rw [this]
theorem rgcd_of {x y:Rat}{p q:Int}{d:Nat}(hd:d≠0) (hx:x=mkRat p d) (hy:y=mkRat q d):rgcd x y=mkRat (Nat.gcd p.natAbs q.natAbs:Nat) d:=by
 have cx:=congrArg Int.natAbs (cross_mk hd hx)
 have cy:=congrArg Int.natAbs (cross_mk hd hy)
 rw [Int.natAbs_mul,Int.natAbs_mul,Int.natAbs_natCast,Int.natAbs_natCast]at cx cy
 unfold rgcd
 rw [Rat.mkRat_eq_iff (Nat.mul_ne_zero x.den_nz y.den_nz) hd]
 have:Nat.gcd (x.num.natAbs*y.den) (y.num.natAbs*x.den)*d=Nat.gcd p.natAbs q.natAbs*(x.den*y.den):=by
  rw [←Nat.gcd_mul_right,←Nat.gcd_mul_right]
  congr 1
  ·rw [Nat.mul_right_comm,cx,Nat.mul_assoc]
  ·rw [Nat.mul_right_comm,cy,Nat.mul_assoc,Nat.mul_comm y.den]
 exact_mod_cast this
theorem common (x y:Rat):∃(p q:Int) (d:Nat),d≠0∧x=mkRat p d∧y=mkRat q d:=by
 refine⟨x.num*y.den,y.num*x.den,x.den*y.den,Nat.mul_ne_zero x.den_nz y.den_nz,?_,?_⟩
 ·rw [Rat.mkRat_mul_right y.den_nz,Rat.mkRat_self]
 ·rw [Nat.mul_comm x.den,Rat.mkRat_mul_right x.den_nz,Rat.mkRat_self]
theorem rgcd_mul (t x y:Rat) (ht:0<t):rgcd (t*x) (t*y)=t*rgcd x y:=by
 obtain⟨p,q,d,hd,hx,hy⟩:=common x y
 have hn:0<t.num:=by
  have h0:=Rat.num_nonneg.2 (Rat.le_of_lt ht)
  have h1:t.num≠0:=fun e=>by rw [Rat.num_eq_zero.1 e]at ht;exact absurd ht (by decide)
  omega
 have e:t=mkRat t.num t.den:=(Rat.mkRat_self t).symm
 have hx':t*x=mkRat (t.num*p) (t.den*d):=by conv=>lhs;rw [e,hx,Rat.mkRat_mul_mkRat]
 have hy':t*y=mkRat (t.num*q) (t.den*d):=by conv=>lhs;rw [e,hy,Rat.mkRat_mul_mkRat]
 rw [rgcd_of (Nat.mul_ne_zero t.den_nz hd) hx' hy',rgcd_of hd hx hy,Int.natAbs_mul,Int.natAbs_mul,Nat.gcd_mul_left]
 conv=>rhs;rw [e,Rat.mkRat_mul_mkRat]
 congr 1
 rw [Int.natCast_mul,Int.natAbs_of_nonneg (Int.le_of_lt hn)]
theorem rgcd_nonneg (x y:Rat):0≤rgcd x y:=by
 unfold rgcd
 rw [←Rat.num_nonneg,Rat.num_mkRat]
 rw [if_neg (Nat.mul_ne_zero x.den_nz y.den_nz)]
 exact Int.ediv_nonneg (Int.natCast_nonneg _) (Int.natCast_nonneg _)
theorem rgcd_dvd (x y:Rat):∃k l:Int,x=k*rgcd x y∧y=l*rgcd x y:=by
 obtain⟨p,q,d,hd,hx,hy⟩:=common x y
 rw [rgcd_of hd hx hy]
 have h1:(Nat.gcd p.natAbs q.natAbs:Int)∣p:=Int.ofNat_dvd_left.2 (Nat.gcd_dvd_left _ _)
 have h2:(Nat.gcd p.natAbs q.natAbs:Int)∣q:=Int.ofNat_dvd_left.2 (Nat.gcd_dvd_right _ _)
 obtain⟨k,hk⟩:=h1
 obtain⟨l,hl⟩:=h2
 have key:∀(z k:Int),z=(Nat.gcd p.natAbs q.natAbs:Int)*k→mkRat z d=(k:Rat)*mkRat (Nat.gcd p.natAbs q.natAbs:Nat) d:=fun z k h=>by
  have e:(k:Rat)=mkRat k 1:=(Rat.mkRat_one k).symm
  rw [e,Rat.mkRat_mul_mkRat,Nat.one_mul,h,Int.mul_comm]
 exact⟨k,l,by rw [hx];exact key p k hk,by rw [hy];exact key q l hl⟩
theorem rgcd_zero {x y:Rat}(h:rgcd x y=0):x=0∧y=0:=by
 obtain⟨k,l,h1,h2⟩:=rgcd_dvd x y
 rw [h,Rat.mul_zero]at h1 h2
 exact⟨h1,h2⟩
theorem rgcd_ints (a b:Int):rgcd a b=((Nat.gcd a.natAbs b.natAbs:Nat):Rat):=by
 unfold rgcd
 rw [Rat.num_intCast,Rat.num_intCast,Rat.den_intCast,Rat.den_intCast,Nat.mul_one,Nat.mul_one,Nat.mul_one,Rat.mkRat_one];rfl
structure Li where
 a:Int
 b:Int
 c:Int
def Li.ok (l:Li):Prop:=Nat.gcd (Nat.gcd l.a.natAbs l.b.natAbs) l.c.natAbs=1∧(l.a≠0∨l.b≠0)
def g3 (a b c:Rat):Rat:=rgcd (rgcd a b) c
def prim (a b c:Rat):Li:=⟨(a*(g3 a b c)⁻¹).num,(b*(g3 a b c)⁻¹).num,(c*(g3 a b c)⁻¹).num⟩
theorem g3_mul (t a b c:Rat) (ht:0<t):g3 (t*a) (t*b) (t*c)=t*g3 a b c:=by unfold g3;rw [rgcd_mul t a b ht,rgcd_mul t _ c ht]
theorem g3_pos {a b c:Rat}(h:a≠0∨b≠0):0<g3 a b c:=by
 have h0:=rgcd_nonneg (rgcd a b) c
 rcases Rat.le_iff_lt_or_eq.1 h0 with h1|h1
 ·exact h1
 ·exfalso
  have h2:=(rgcd_zero h1.symm).1
  have h3:=rgcd_zero h2
  rcases h with h|h
  ·exact h h3.1
  ·exact h h3.2
theorem num_int {x:Rat}(h:x.den=1):(x.num:Rat)=x:=by
 apply Rat.ext <;> simp [h]
theorem prim_eq {a b c:Rat}(h:a≠0∨b≠0):a*(g3 a b c)⁻¹=((prim a b c).a:Rat)∧b*(g3 a b c)⁻¹=((prim a b c).b:Rat)∧c*(g3 a b c)⁻¹=((prim a b c).c:Rat):=by
 have hg:=g3_pos (c:=c) h
 have hne:g3 a b c≠0:=fun e=>by rw [e]at hg;exact absurd hg (by decide)
 obtain⟨k,l,h1,h2⟩:=rgcd_dvd a b
 obtain⟨u,v,h3,h4⟩:=rgcd_dvd (rgcd a b) c
 have ea:a*(g3 a b c)⁻¹=((k*u:Int):Rat):=by
  have:a=((k*u:Int):Rat)*g3 a b c:=by rw [Rat.intCast_mul,Rat.mul_assoc];unfold g3;rw [←h3];exact h1
  generalize g3 a b c=g at *
  rw [this,Rat.mul_assoc,Rat.mul_inv_cancel _ hne,Rat.mul_one]
 have eb:b*(g3 a b c)⁻¹=((l*u:Int):Rat):=by
  have:b=((l*u:Int):Rat)*g3 a b c:=by rw [Rat.intCast_mul,Rat.mul_assoc];unfold g3;rw [←h3];exact h2
  generalize g3 a b c=g at *
  rw [this,Rat.mul_assoc,Rat.mul_inv_cancel _ hne,Rat.mul_one]
 have ec:c*(g3 a b c)⁻¹=((v:Int):Rat):=by
  have:c=((v:Int):Rat)*g3 a b c:=h4
  generalize g3 a b c=g at *
  rw [this,Rat.mul_assoc,Rat.mul_inv_cancel _ hne,Rat.mul_one]
 unfold prim
 simp only []
 rw [ea,eb,ec,Rat.num_intCast,Rat.num_intCast,Rat.num_intCast]
 exact⟨rfl,rfl,rfl⟩
theorem prim_ok {a b c:Rat}(h:a≠0∨b≠0):(prim a b c).ok:=by
 have hg:=g3_pos (c:=c) h
 have hne:g3 a b c≠0:=fun e=>by rw [e]at hg;exact absurd hg (by decide)
 obtain⟨e1,e2,e3⟩:=prim_eq (c:=c) h
 have hi:0<(g3 a b c)⁻¹:=Rat.inv_pos.2 hg
 have h1:=g3_mul (g3 a b c)⁻¹ a b c hi
 rw [Rat.inv_mul_cancel _ hne,Rat.mul_comm _ a,Rat.mul_comm _ b,Rat.mul_comm _ c,e1,e2,e3]at h1
 unfold g3 at h1
 rw [rgcd_ints,show((Nat.gcd (prim a b c).a.natAbs (prim a b c).b.natAbs:Nat):Rat)=(((Nat.gcd (prim a b c).a.natAbs (prim a b c).b.natAbs:Nat):Int):Rat)from rfl,rgcd_ints,Int.natAbs_natCast]at h1
 refine⟨by exact_mod_cast h1,?_⟩
 rcases h with h|h
 ·left;intro e
  rw [e]at e1
  rcases Rat.mul_eq_zero.1 (e1.trans rfl)with h5|h5
  ·exact h h5
  ·rw [h5]at hi;exact absurd hi (by decide)
 ·right;intro e
  rw [e]at e2
  rcases Rat.mul_eq_zero.1 (e2.trans rfl)with h5|h5
  ·exact h h5
  ·rw [h5]at hi;exact absurd hi (by decide)
def nrm (xs:List Nat):Bool:=decide (xs.length=0)||decide (xs.getD (xs.length-1) 0≠0)
theorem nrm_dgs (n:Nat):nrm (dgs n)=true:=by
 by_cases h:n=0
 ·subst h;rw [dgs_zero];rfl
 ·obtain⟨k,h1,h2,_⟩:=dgs_top h
  unfold nrm
  rw [h1,Nat.add_sub_cancel,decide_eq_true h2,Bool.or_true]
theorem natNormal_pu (xs:List Nat) (hl:xs.length≤1000000000):Pu Tryz.prog 318 [dg xs] (lit (.bool (nrm xs))):=by
 unfold nrm
 by_cases h:xs.length=0
 ·rw [decide_eq_true h,Bool.true_or]
  refine Pu.intro Tryz.func318 rfl (by kernel_rfl) fun C=>?_
  repeat(refine A1 ⟨?_⟩;intros)
  exact E1
 ·rw [decide_eq_false h,Bool.false_or]
  by_cases h1:xs.getD (xs.length-1) 0=0
  ·rw [decide_eq_false (fun e=>e h1)]
   refine Pu.intro Tryz.func318 rfl (by kernel_rfl) fun C=>?_
   repeat(refine A1 ⟨?_⟩;intros)
   exact E1
  ·rw [decide_eq_true h1]
   refine Pu.intro Tryz.func318 rfl (by kernel_rfl) fun C=>?_
   repeat(refine A1 ⟨?_⟩;intros)
   exact E1
def nrmI (s:Bool) (xs:List Nat):Bool:=nrm xs&&(!s||decide (0<xs.length))
theorem nrmI_int (z:Int):nrmI (decide (z<0)) (dgs z.natAbs)=true:=by
 unfold nrmI
 rw [nrm_dgs,Bool.true_and]
 by_cases h:z<0
 ·rw [decide_eq_true h,decide_eq_true (dgs_len_pos (by omega)),Bool.or_true]
 ·rw [decide_eq_false h];rfl
theorem intNormal_pu (s:Bool) (xs:List Nat) (hl:xs.length≤1000000000):Pu Tryz.prog 257 [raw s xs] (lit (.bool (nrmI s xs))):=by
 have hn:=natNormal_pu xs hl
 unfold nrmI
 cases hx:nrm xs with
 |false =>
  rw [hx]at hn
  refine Pu.intro Tryz.func257 rfl (by kernel_rfl) fun C=>?_
  repeat(first|(refine A1 ⟨?_⟩;intros)|refine W4 hn ⟨?_⟩)
  exact E1
 |true =>
  rw [hx]at hn
  cases s with
  |false =>
   refine Pu.intro Tryz.func257 rfl (by kernel_rfl) fun C=>?_
   repeat(first|(refine A1 ⟨?_⟩;intros)|refine W4 hn ⟨?_⟩)
   exact E1
  |true =>
   by_cases h:0<xs.length
   ·rw [decide_eq_true h]
    refine Pu.intro Tryz.func257 rfl (by kernel_rfl) fun C=>?_
    repeat(first|(refine A1 ⟨?_⟩;intros)|refine W4 hn ⟨?_⟩)
    exact E1
   ·rw [decide_eq_false h]
    refine Pu.intro Tryz.func257 rfl (by kernel_rfl) fun C=>?_
    repeat(first|(refine A1 ⟨?_⟩;intros)|refine W4 hn ⟨?_⟩)
    exact E1
theorem intNormal_z (z:Int) (hl:il z≤1000000000):Pu Tryz.prog 257 [int z] (lit (.bool true)):=by
 have:=intNormal_pu (decide (z<0)) (dgs z.natAbs) hl
 rwa [nrmI_int]at this
theorem whole_pu (z:Int) (hl:il z≤10000000):Pu Tryz.prog 258 [int z] (fr (z:Rat)):=by
 have r:=reduce_pu (decide (z<0)) (dgs z.natAbs) [1] hl (by decide) (D_dgs _) (D.cons (by omega) D.nil)
 rw [val_dgs,sv_int,show val [1]=1 from rfl,Rat.mkRat_one]at r
 refine Pu.intro Tryz.func258 rfl (by kernel_rfl) fun C=>?_
 repeat(refine A1 ⟨?_⟩;intros)
 refine WpubD (ds:=[1]) 4 rfl (HDel.here _) rfl (by omega) (by omega) ?_
 repeat(first|(refine A1 ⟨?_⟩;intros)|refine W4 r ⟨?_⟩)
 ((first|refine endR ?_|refine endN ?_);refine end1 RVa (Le.refl _))
theorem gcd_n (a b:Nat) (h1:(dgs a).length≤10000000) (h2:(dgs b).length≤10000000):Pu Tryz.prog 242 [nat a,nat b] (nat (Nat.gcd a b)):=by
 have:=gcd_nat (dgs a) (dgs b) h1 h2 (D_dgs _) (D_dgs _)
 rwa [val_dgs,val_dgs]at this
theorem dlen_gcd_le {a b n:Nat}(ha:(dgs a).length≤n) (hb:(dgs b).length≤n):(dgs (Nat.gcd a b)).length≤n:=by
 by_cases h:a=0
 ·subst h;rw [Nat.gcd_zero_left];exact hb
 ·exact Nat.le_trans (len_mono (Nat.gcd_le_left b (by omega))) ha
theorem ht_rgcd (x y:Rat):ht (rgcd x y)≤ht x+ht y+1:=by
 have h1:=ht_num x
 have h2:=ht_den x
 have h3:=ht_num y
 have h4:=ht_den y
 have e1:il x.num=(dgs x.num.natAbs).length:=rfl
 have e2:il y.num=(dgs y.num.natAbs).length:=rfl
 have m1:=dlen_mul x.num.natAbs y.den
 have m2:=dlen_mul y.num.natAbs x.den
 have m3:=dlen_mul x.den y.den
 have m4:=dlen_gcd_le (n:=ht x+ht y) (a:=x.num.natAbs*y.den) (b:=y.num.natAbs*x.den) (by omega) (by omega)
 have:=ht_mk ((Nat.gcd (x.num.natAbs*y.den) (y.num.natAbs*x.den):Nat):Int) (x.den*y.den)
 rw [il_nat]at this
 unfold rgcd;omega
theorem eq_int {x:Rat}(h:x.den=1):x=(x.num:Rat):=(num_int h).symm
set_option maxHeartbeats 1000000 in
theorem frgcd_pu (x y:Rat) (hx:ht x≤3000000) (hy:ht y≤3000000):Pu Tryz.prog 259 [fr x,fr y] (fr (rgcd x y)):=by
 have d1:=x.den_pos
 have d2:=y.den_pos
 by_cases h:(small x∧small y)∧x.den=1∧y.den=1
 ·obtain⟨⟨hsx,hsy⟩,h1,h2⟩:=h
  have e:rgcd x y=((Nat.gcd x.num.natAbs y.num.natAbs:Nat):Rat):=by
   have:=rgcd_ints x.num y.num
   rwa [←eq_int h1,←eq_int h2]at this
  have bx:=hsx.1
  have byy:=hsy.1
  have hg:Nat.gcd x.num.natAbs y.num.natAbs<4611686018427387904:=by
   by_cases h0:x.num.natAbs=0
   ·rw [h0,Nat.gcd_zero_left];exact byy
   ·exact Nat.lt_of_le_of_lt (Nat.gcd_le_left _ (by omega)) bx
  have hs:small ((Nat.gcd x.num.natAbs y.num.natAbs:Nat):Rat):=by
   unfold small;rw [Rat.num_natCast,Rat.den_natCast];omega
  rw [e,fr_s hsx,fr_s hsy,fr_s hs,Rat.num_natCast,Rat.den_natCast]
  have g:=fgcd_pu x.num.natAbs y.num.natAbs (by omega) (by omega)
  have a1:=abs_pu x.num (by omega) (by omega)
  have a2:=abs_pu y.num (by omega) (by omega)
  generalize Nat.gcd x.num.natAbs y.num.natAbs=k at *
  refine Pu.intro Tryz.func259 rfl (by kernel_rfl) fun C=>?_
  repeat(first|(refine A1 ⟨?_⟩;intros)|refine W4 a1 ⟨?_⟩|refine W4 a2 ⟨?_⟩|refine W4 g ⟨?_⟩)
  refine endR (end1 (RV.cellA rfl List.mem_cons_self rfl rfl) (Le.ag ⟨Le.refl _,Le.int (by omega),Le.refl _,trivial⟩))
 ·have h1:=ht_num x
  have h2:=ht_den x
  have h3:=ht_num y
  have h4:=ht_den y
  have e1:il x.num=(dgs x.num.natAbs).length:=rfl
  have e2:il y.num=(dgs y.num.natAbs).length:=rfl
  have m1:=dlen_mul x.num.natAbs y.den
  have m2:=dlen_mul y.num.natAbs x.den
  have m3:=dlen_mul x.den y.den
  have m4:=dlen_gcd_le (n:=ht x+ht y) (a:=x.num.natAbs*y.den) (b:=y.num.natAbs*x.den) (by omega) (by omega)
  have c1:=den_pu x (by omega)
  have c2:=den_pu y (by omega)
  have c3:=mul_n x.den y.den (by omega) (by omega)
  have c4:=num_pu x (by omega)
  have c5:=num_pu y (by omega)
  have c6:=mul_n x.num.natAbs y.den (by omega) (by omega)
  have c7:=mul_n y.num.natAbs x.den (by omega) (by omega)
  have c8:=gcd_n (x.num.natAbs*y.den) (y.num.natAbs*x.den) (by omega) (by omega)
  have c9:=reduce_int ((Nat.gcd (x.num.natAbs*y.den) (y.num.natAbs*x.den):Nat):Int) (x.den*y.den) (by rw [il_nat];omega) (by omega)
  rw [int_nat]at c9
  clear m1 m2 m3 m4 h1 h2 h3 h4 e1 e2
  by_cases hsx:small x
  ·by_cases hsy:small y
   ·by_cases hx1:x.den=1
    ·have hy1:y.den≠1:=fun e=>h ⟨⟨hsx,hsy⟩,hx1,e⟩
     clear h
     rw [fr_s hsx,fr_s hsy]
     rw [fr_s hsx]at c1 c4
     rw [fr_s hsy]at c2 c5
     refine Pu.intro Tryz.func259 rfl (by kernel_rfl) fun C=>?_
     repeat(first|(refine A1 ⟨?_⟩;intros)|refine W4 c1 ⟨?_⟩|refine W4 c2 ⟨?_⟩|refine W4 c3 ⟨?_⟩|refine W4 c4 ⟨?_⟩|refine W4 c6 ⟨?_⟩|refine W4 c5 ⟨?_⟩|refine W4 c7 ⟨?_⟩|refine W4 c8 ⟨?_⟩|refine W4 c9 ⟨?_⟩)
     ((first|refine endR ?_|refine endN ?_);refine end1 RVa (Le.refl _))
    ·clear h
     rw [fr_s hsx,fr_s hsy]
     rw [fr_s hsx]at c1 c4
     rw [fr_s hsy]at c2 c5
     refine Pu.intro Tryz.func259 rfl (by kernel_rfl) fun C=>?_
     repeat(first|(refine A1 ⟨?_⟩;intros)|refine W4 c1 ⟨?_⟩|refine W4 c2 ⟨?_⟩|refine W4 c3 ⟨?_⟩|refine W4 c4 ⟨?_⟩|refine W4 c6 ⟨?_⟩|refine W4 c5 ⟨?_⟩|refine W4 c7 ⟨?_⟩|refine W4 c8 ⟨?_⟩|refine W4 c9 ⟨?_⟩)
     ((first|refine endR ?_|refine endN ?_);refine end1 RVa (Le.refl _))
   ·clear h
    rw [fr_s hsx,fr_b hsy]
    rw [fr_s hsx]at c1 c4
    rw [fr_b hsy]at c2 c5
    refine Pu.intro Tryz.func259 rfl (by kernel_rfl) fun C=>?_
    repeat(first|(refine A1 ⟨?_⟩;intros)|refine W4 c1 ⟨?_⟩|refine W4 c2 ⟨?_⟩|refine W4 c3 ⟨?_⟩|refine W4 c4 ⟨?_⟩|refine W4 c6 ⟨?_⟩|refine W4 c5 ⟨?_⟩|refine W4 c7 ⟨?_⟩|refine W4 c8 ⟨?_⟩|refine W4 c9 ⟨?_⟩)
    ((first|refine endR ?_|refine endN ?_);refine end1 RVa (Le.refl _))
  ·clear h
   rw [fr_b hsx]
   rw [fr_b hsx]at c1 c4
   refine Pu.intro Tryz.func259 rfl (by kernel_rfl) fun C=>?_
   repeat(first|(refine A1 ⟨?_⟩;intros)|refine W4 c1 ⟨?_⟩|refine W4 c2 ⟨?_⟩|refine W4 c3 ⟨?_⟩|refine W4 c4 ⟨?_⟩|refine W4 c6 ⟨?_⟩|refine W4 c5 ⟨?_⟩|refine W4 c7 ⟨?_⟩|refine W4 c8 ⟨?_⟩|refine W4 c9 ⟨?_⟩)
   ((first|refine endR ?_|refine endN ?_);refine end1 RVa (Le.refl _))
end Go.Ab
