/- Texts laid one behind the other: PIv, PCut, PPart, PAng. -/
import Derived.Test.YtgiifnbebppbgaaGreatDoorB25
import Derived.Test.YtgiifnbebppbgaaGreatDoorB16
import Derived.Test.YtgiifnbebppbgaaGreatDoorB19
import Derived.Test.YtgiifnbebppbgaaGreatDoorB20
set_option linter.unusedSectionVars false
set_option linter.unusedVariables false
set_option linter.unusedSimpArgs false
namespace Go.Ab
open Go.Proofs
variable [Base]
abbrev ivx (s:Spn):List SV:=[lit (.int .i64 (r0 s.lo)),lit (.int .i64 (r1 s.lo)),r2 s.lo,lit (.int .i64 (r0 s.hi)),lit (.int .i64 (r1 s.hi)),r2 s.hi,lit (.bool s.nl),lit (.bool s.nh)]
abbrev iv (s:Spn):SV:=ag (ivx s)
theorem ivall_pu:Pu Tryz.prog 316 [] (iv Spn.full):=by
 have e0:r0 (0:Rat)=0:=by decide +kernel
 have e1:r1 (0:Rat)=0:=by decide +kernel
 have e2:r2 (0:Rat)=lit (.pointer none):=if_pos (by decide +kernel)
 unfold iv ivx
 rw [e0,e1,e2]
 refine Pu.intro Tryz.func316 rfl (by kernel_rfl) fun C=>?_
 repeat(refine A1 ⟨?_⟩;intros)
 ((first|refine endR ?_|refine endN ?_);refine end1 RVa (Le.refl _))
theorem ivempty_pu (s:Spn) (h:s.le 1000000):Pu Tryz.prog 300 [iv s] (lit (.bool (spBad s))):=by
 have c1:=fcmp_pu s.lo s.hi (by have:=h.1;omega) (by have:=h.2;omega)
 obtain⟨lo,hi,nl,nh⟩:=s
 unfold spBad
 simp only at *
 generalize(lo-hi).num.sign=z at *
 clear h
 cases nl
 ·cases nh
  ·by_cases hz:0≤z
   ·rw [decide_eq_true hz]
    refine Pu.intro Tryz.func300 rfl (by kernel_rfl) fun C=>?_
    repeat(first|(refine A1 ⟨?_⟩;intros)|refine W4 c1 ⟨?_⟩)
    exact E1
   ·rw [decide_eq_false hz]
    refine Pu.intro Tryz.func300 rfl (by kernel_rfl) fun C=>?_
    repeat(first|(refine A1 ⟨?_⟩;intros)|refine W4 c1 ⟨?_⟩)
    exact E1
  ·refine Pu.intro Tryz.func300 rfl (by kernel_rfl) fun C=>?_
   repeat(first|(refine A1 ⟨?_⟩;intros)|refine W4 c1 ⟨?_⟩)
   exact E1
 ·refine Pu.intro Tryz.func300 rfl (by kernel_rfl) fun C=>?_
  repeat(first|(refine A1 ⟨?_⟩;intros)|refine W4 c1 ⟨?_⟩)
  exact E1
theorem meetS_le {v w:Spn}{n:Nat}(h:v.le n) (k:w.le n):(meetS v w).le n:=by
 obtain⟨h1,h2⟩:=h
 obtain⟨k1,k2⟩:=k
 unfold meetS maxR minR
 constructor
 ·simp only
  split
  ·exact k1
  ·split
   ·exact h1
   ·split <;> assumption
 ·simp only
  split
  ·exact k2
  ·split
   ·exact h2
   ·split <;> assumption
abbrev z8:List SV:=[lit (.int .i64 0),lit (.int .i64 0),lit (.pointer none),lit (.int .i64 0),lit (.int .i64 0),lit (.pointer none),lit (.bool false),lit (.bool false)]
set_option maxHeartbeats 2000000 in
theorem ivmeet_pu (v w:Spn) (h:v.le 1000000) (k:w.le 1000000):Pu Tryz.prog 257 [iv v,iv w] (Ab.tup [iv (meetS v w),lit (.bool (!spBad (meetS v w)))]):=by
 have c1:=fmax_pu v.lo w.lo h.1 k.1
 have c2:=fmin_pu v.hi w.hi h.2 k.2
 have c3:=ivempty_pu (meetS v w) (meetS_le h k)
 clear h k
 generalize spBad (meetS v w)=bad at *
 obtain⟨lo,hi,nl,nh⟩:=v
 obtain⟨lo',hi',nl',nh'⟩:=w
 unfold meetS at *
 simp only at *
 generalize maxR lo lo'=a at *
 generalize minR hi hi'=b at *
 refine Pu.intro Tryz.func257 rfl (by kernel_rfl) fun C=>?_
 repeat(first|(refine AS ⟨?_⟩;intros)|(refine O1 ⟨?_⟩;intros))
 rename_i b2 b3 b4 b6
 refine WP.viaB (fun F H=>LeF F (fm [(2,lit (.pointer (some ⟨b2,0,none⟩))),(3,lit (.pointer (some ⟨b3,0,none⟩))),(4,lit (.pointer (some ⟨b4,0,none⟩))),(6,lit (.pointer (some ⟨b6,0,none⟩)))])∧
  H=[(b6,293,ivx ⟨if nl then lo' else if nl' then lo else a,hi,nl&&nl',nh⟩),(b4,293,z8),(b3,293,ivx ⟨lo',hi',nl',nh'⟩),(b2,293,ivx ⟨lo,hi,nl,nh⟩)]) ?_ ?_
 ·clear c2 c3
  cases nl
  ·cases nl'
   ·repeat(first|(refine AS ⟨?_⟩;intros)|(refine O1 ⟨?_⟩;intros)|(refine Wcx (c1) ?_)|(refine Wcgx (c1) ?_))
    exact⟨lfA,rfl⟩
   ·repeat(first|(refine AS ⟨?_⟩;intros)|(refine O1 ⟨?_⟩;intros)|(refine Wcx (c1) ?_)|(refine Wcgx (c1) ?_))
    exact⟨lfA,rfl⟩
  ·repeat(first|(refine AS ⟨?_⟩;intros)|(refine O1 ⟨?_⟩;intros))
   apply WdS [5,7] [ivx ⟨lo',hi,true,nh⟩,ivx ⟨lo',hi,nl',nh⟩] (HDel.here _) (by kernel_rfl) (by decide +kernel);refine MkD 5 ?_;(repeat(first|(refine A1 ⟨?_⟩;intros)));refine mkD0 ?_;refine MkS ?_;refine MkD 1 ?_;(repeat(first|(refine A1 ⟨?_⟩;intros)));refine mkD0 ?_;refine MkS ?_;refine MkN ?_;(repeat(refine A1 ⟨?_⟩;intros))
   repeat(refine A1 ⟨?_⟩;intros)
   exact⟨lfA,rfl⟩
 ·rintro F H ⟨hF,rfl⟩
  refine WP.le hF ?_
  clear c1
  generalize hu:(if nl=true then lo' else if nl'=true then lo else a)=u at *
  generalize hn:(nl&&nl')=n at *
  repeat(first|(refine AS ⟨?_⟩;intros)|(refine O1 ⟨?_⟩;intros))
  refine WP.viaB (fun F H=>LeF F (fm [(4,lit (.pointer (some ⟨b4,0,none⟩))),(6,lit (.pointer (some ⟨b6,0,none⟩)))])∧
   H=[(b6,293,ivx ⟨u,if nh then hi' else if nh' then hi else b,n,nh&&nh'⟩),(b4,293,z8),(b3,293,ivx ⟨lo',hi',nl',nh'⟩),(b2,293,ivx ⟨lo,hi,nl,nh⟩)]) ?_ ?_
  ·clear c3
   cases nh
   ·cases nh'
    ·repeat(first|(refine AS ⟨?_⟩;intros)|(refine O1 ⟨?_⟩;intros)|(refine Wcx (c2) ?_)|(refine Wcgx (c2) ?_))
     exact⟨lfA,rfl⟩
    ·repeat(first|(refine AS ⟨?_⟩;intros)|(refine O1 ⟨?_⟩;intros)|(refine Wcx (c2) ?_)|(refine Wcgx (c2) ?_))
     exact⟨lfA,rfl⟩
   ·repeat(first|(refine AS ⟨?_⟩;intros)|(refine O1 ⟨?_⟩;intros))
    apply WdS [5,7] [ivx ⟨u,hi',n,true⟩,ivx ⟨u,hi',n,nh'⟩] (HDel.here _) (by kernel_rfl) (by decide +kernel);refine MkD 5 ?_;(repeat(first|(refine A1 ⟨?_⟩;intros)));refine mkD0 ?_;refine MkS ?_;refine MkD 1 ?_;(repeat(first|(refine A1 ⟨?_⟩;intros)));refine mkD0 ?_;refine MkS ?_;refine MkN ?_;(repeat(refine A1 ⟨?_⟩;intros))
    repeat(refine A1 ⟨?_⟩;intros)
    exact⟨lfA,rfl⟩
  ·rintro F H ⟨hF,rfl⟩
   refine WP.le hF ?_
   repeat(first|(refine AS ⟨?_⟩;intros)|(refine O1 ⟨?_⟩;intros))
   apply WdS [4] [ivx ⟨u,if nh then hi' else if nh' then hi else b,n,nh&&nh'⟩] (HDel.there _ (HDel.here _)) (by kernel_rfl) (by decide +kernel);refine MkD 4 ?_;(repeat(first|(refine A1 ⟨?_⟩;intros)|refine W4 c3 ⟨?_⟩));refine mkD0 ?_;refine MkS ?_;refine MkD 1 ?_;(repeat(first|(refine A1 ⟨?_⟩;intros)|refine W4 c3 ⟨?_⟩));refine mkD0 ?_;refine MkN ?_;(repeat(refine A1 ⟨?_⟩;intros))
   ((first|refine endR ?_|refine endN ?_);exact end2 RVa (RV.tmp rfl) (Le.refl _))
theorem ivsample_pu (s:Spn) (h:s.le 100000):Pu Tryz.prog 318 [iv s] (fr (sampleS s)):=by
 obtain⟨h1,h2⟩:=h
 have h1':=ht_one
 have m1:=ht_add s.lo s.hi
 have c0:=fint_pu 1 (by omega) (by omega)
 have c1:=rsub_pu s.hi 1 (by omega) (by omega)
 have c2:=radd_pu s.lo 1 (by omega) (by omega)
 have c3:=radd_pu s.lo s.hi (by omega) (by omega)
 have c4:=fhalf_pu (s.lo+s.hi) (by omega)
 have e0:r0 (0:Rat)=0:=by decide +kernel
 have e1:r1 (0:Rat)=0:=by decide +kernel
 have e2:r2 (0:Rat)=lit (.pointer none):=if_pos (by decide +kernel)
 obtain⟨lo,hi,nl,nh⟩:=s
 unfold sampleS midR
 simp only at *
 clear h1 h2 h1' m1
 cases nl
 ·cases nh
  ·simp only [Bool.and_self,Bool.false_eq_true,if_false]
   refine Pu.intro Tryz.func318 rfl (by kernel_rfl) fun C=>?_
   repeat(first|(refine A1 ⟨?_⟩;intros)|refine W4 c0 ⟨?_⟩|refine W4 c3 ⟨?_⟩|refine W4 c4 ⟨?_⟩)
   ((first|refine endR ?_|refine endN ?_);refine end1 RVa (Le.refl _))
  ·simp only [Bool.and_true,Bool.false_eq_true,if_false,if_true]
   refine Pu.intro Tryz.func318 rfl (by kernel_rfl) fun C=>?_
   repeat(first|(refine A1 ⟨?_⟩;intros)|refine W4 c0 ⟨?_⟩|refine W4 c2 ⟨?_⟩)
   ((first|refine endR ?_|refine endN ?_);refine end1 RVa (Le.refl _))
 ·cases nh
  ·simp only [Bool.and_false,Bool.false_eq_true,if_false,if_true]
   refine Pu.intro Tryz.func318 rfl (by kernel_rfl) fun C=>?_
   repeat(first|(refine A1 ⟨?_⟩;intros)|refine W4 c0 ⟨?_⟩|refine W4 c1 ⟨?_⟩)
   ((first|refine endR ?_|refine endN ?_);refine end1 RVa (Le.refl _))
  ·simp only [Bool.and_self,if_true]
   unfold fr
   rw [e0,e1,e2]
   refine Pu.intro Tryz.func318 rfl (by kernel_rfl) fun C=>?_
   repeat(refine A1 ⟨?_⟩;intros)
   ((first|refine endR ?_|refine endN ?_);refine end1 RVa (Le.refl _))
abbrev frx (x:Rat):List SV:=[lit (.int .i64 (r0 x)),lit (.int .i64 (r1 x)),r2 x]
def cutV (l:Li) (v:Spn) (m:Li):Spn×Bool :=
 if(slp l m).num.sign=0 then(v,decide (0<(valL m (baseL l)).num.sign))
 else(meetS v (hlf (slp l m) (-(valL m (baseL l)/slp l m))),!spBad (meetS v (hlf (slp l m) (-(valL m (baseL l)/slp l m)))))
theorem cutV_L (l:Li) (v:Spn) (m:Li):cutL l v m=if(cutV l v m).2 then some (cutV l v m).1 else none:=by
 unfold cutL cutV
 by_cases h:(slp l m).num.sign=0
 ·rw [if_pos h,if_pos h]
  by_cases k:0<(valL m (baseL l)).num.sign
  ·rw [if_pos k,decide_eq_true k];rfl
  ·rw [if_neg k,decide_eq_false k];rfl
 ·rw [if_neg h,if_neg h]
  cases spBad (meetS v (hlf (slp l m) (-(valL m (baseL l)/slp l m)))) <;> rfl
theorem ht_zero1:ht (0:Rat)≤1:=by have:=ht_zero;omega
theorem cut_hts {l m:Li}{L:Nat}(hl:l.le L) (hm:m.le L) (h1:1≤L):ht (slp l m)≤7*L∧ht (valL m (baseL l))≤31*L∧ht (-(valL m (baseL l)/slp l m))≤40*L:=by
 obtain⟨a1,a2,a3⟩:=hl.hts h1
 obtain⟨b1,b2,b3⟩:=hm.hts h1
 have k1:=ht_mul (m.a:Rat) l.b
 have k2:=ht_mul (m.b:Rat) l.a
 have k3:=ht_sub ((m.a:Rat)*l.b) (m.b*l.a)
 have k4:=valL_htL hm h1 (baseL_htL hl h1)
 have k5:=ht_div (valL m (baseL l)) (slp l m)
 have k6:ht (slp l m)≤7*L:=by unfold slp;omega
 rw [ht_neg]
 exact⟨k6,by omega,by omega⟩
theorem hlf_le {k u:Rat}{n:Nat}(h:ht u≤n) (h1:1≤n):(hlf k u).le n:=by
 have:=ht_zero1
 unfold hlf
 split
 ·exact⟨h,by simp only;omega⟩
 ·exact⟨by simp only;omega,h⟩
theorem cutV_le {l m:Li}{v:Spn}{L:Nat}(hl:l.le L) (hm:m.le L) (h1:1≤L) (hv:v.le (50*L)):(cutV l v m).1.le (50*L):=by
 obtain⟨_,_,k⟩:=cut_hts hl hm h1
 unfold cutV
 split
 ·exact hv
 ·exact meetS_le hv (hlf_le (by omega) (by omega))
set_option maxHeartbeats 1000000 in
theorem lcut_pu {l m:Li}{v:Spn}{L:Nat}(hl:l.le L) (hm:m.le L) (h1:1≤L) (hU:L≤1000) (hv:v.le (50*L)):Pu Tryz.prog 305 [lfl l,iv v,lfl m] (Ab.tup [iv (cutV l v m).1,lit (.bool (cutV l v m).2)]):=by
 obtain⟨a1,a2,a3⟩:=hl.hts h1
 obtain⟨b1,b2,b3⟩:=hm.hts h1
 obtain⟨k1,k2,k3⟩:=cut_hts hl hm h1
 obtain⟨d1,d2⟩:=baseL_htL hl h1
 have hz:=ht_zero1
 have na:ht (-(l.a:Rat))≤L:=by rw [ht_neg];exact a1
 have c1:=lnormal_pu (m.a:Rat) m.b m.c
 have c2:=ldir_pu l (hl.gr (by omega))
 have c3:=pdot_pu (m.a:Rat) m.b l.b (-(l.a:Rat)) (by omega) (by omega) (by omega) (by omega)
 rw [show(m.a:Rat)*l.b+m.b * -(l.a:Rat)=slp l m by unfold slp;grind]at c3
 have c4:=lbase_pu hl h1 (by omega)
 have c5:=lvalue_pu (m.a:Rat) m.b m.c (baseL l).1 (baseL l).2 (by omega) (by omega) (by omega) (by omega) (by omega)
 rw [show(m.a:Rat)*(baseL l).1+m.b*(baseL l).2+m.c=valL m (baseL l)from rfl]at c5
 have c6:=fsign_pu (slp l m) (by omega)
 have c7:=fsign_pu (valL m (baseL l)) (by omega)
 have c8:=fquo_pu (valL m (baseL l)) (slp l m) (by omega) (by omega)
 have c9:=rneg_pu (valL m (baseL l)/slp l m) (by rw [←ht_neg];omega)
 have hw:=hlf_le (k:=slp l m) (u := -(valL m (baseL l)/slp l m)) (n:=1000000) (by omega) (by omega)
 have c10:=ivmeet_pu v (hlf (slp l m) (-(valL m (baseL l)/slp l m))) ⟨by have:=hv.1;omega,by have:=hv.2;omega⟩ hw
 have e0:r0 (0:Rat)=0:=by decide +kernel
 have e1:r1 (0:Rat)=0:=by decide +kernel
 have e2:r2 (0:Rat)=lit (.pointer none):=if_pos (by decide +kernel)
 unfold cutV
 clear a1 a2 a3 b1 b2 b3 k1 k2 k3 d1 d2 hz na hl hm hv hw
 generalize hbad:spBad (meetS v (hlf (slp l m) (-(valL m (baseL l)/slp l m))))=bad at *
 clear hbad
 generalize hmt:meetS v (hlf (slp l m) (-(valL m (baseL l)/slp l m)))=mt at *
 clear hmt
 unfold hlf at c10
 generalize -(valL m (baseL l)/slp l m)=u at *
 generalize valL m (baseL l)/slp l m=u' at *
 generalize valL m (baseL l)=w at *
 generalize slp l m=k at *
 generalize k.num.sign=z at *
 generalize w.num.sign=y at *
 by_cases z0:z=0
 ·rw [if_pos z0]
  clear c8 c9 c10
  refine Pu.intro Tryz.func305 rfl (by kernel_rfl) fun C=>?_
  repeat(first|(refine AS ⟨?_⟩;intros)|(refine O1 ⟨?_⟩;intros))
  refine WdL 11 2 ?_
  repeat(first|(refine A1 ⟨?_⟩;intros)|refine W4 c1 ⟨?_⟩|refine W4 c2 ⟨?_⟩|refine W4 c3 ⟨?_⟩|refine W4 c4 ⟨?_⟩|refine W4 c5 ⟨?_⟩)
  refine dL2 fun b8 b9=>?_
  refine Gs (sv:=fr k) (cs':=frx k) rfl rfl rfl (by first|exact .here _|exact .there _ (.here _)) rfl rfl ?_ ?_
  ·(repeat(first|exact LOk.nil|refine Lsk ?_|refine Lcv ?_))
  refine Gs (sv:=fr w) (cs':=frx w) rfl rfl rfl (by first|exact .here _|exact .there _ (.here _)) rfl rfl ?_ ?_
  ·(repeat(first|exact LOk.nil|refine Lsk ?_|refine Lcv ?_))
  refine Gn ?_ ?_
  ·(repeat(first|exact LOk.nil|refine Lsk ?_|refine Lcv ?_))
  repeat(first|(refine AS ⟨?_⟩;intros)|(refine O1 ⟨?_⟩;intros)|(refine Wcx (c6) ?_)|(refine Wcgx (c6) ?_))
  apply WdS [4] [ivx v] (HDel.there _ (HDel.there _ (HDel.here _))) (by kernel_rfl) (by decide +kernel);refine MkD 4 ?_;(repeat(first|(refine A1 ⟨?_⟩;intros)|refine W4 c7 ⟨?_⟩));refine mkD0 ?_;refine MkS ?_;refine MkD 1 ?_;(repeat(first|(refine A1 ⟨?_⟩;intros)|refine W4 c7 ⟨?_⟩));refine mkD0 ?_;refine MkN ?_;(repeat(refine A1 ⟨?_⟩;intros))
  ((first|refine endR ?_|refine endN ?_);exact end2 RVa (RV.tmp rfl) (Le.refl _))
 ·rw [if_neg z0]
  by_cases z1:z=1
  ·rw [if_pos z1]at c10
   unfold iv ivx at c10
   rw [e0,e1,e2]at c10
   refine Pu.intro Tryz.func305 rfl (by kernel_rfl) fun C=>?_
   repeat(first|(refine AS ⟨?_⟩;intros)|(refine O1 ⟨?_⟩;intros))
   refine WdL 11 2 ?_
   repeat(first|(refine A1 ⟨?_⟩;intros)|refine W4 c1 ⟨?_⟩|refine W4 c2 ⟨?_⟩|refine W4 c3 ⟨?_⟩|refine W4 c4 ⟨?_⟩|refine W4 c5 ⟨?_⟩)
   refine dL2 fun b8 b9=>?_
   refine Gs (sv:=fr k) (cs':=frx k) rfl rfl rfl (by first|exact .here _|exact .there _ (.here _)) rfl rfl ?_ ?_
   ·(repeat(first|exact LOk.nil|refine Lsk ?_|refine Lcv ?_))
   refine Gs (sv:=fr w) (cs':=frx w) rfl rfl rfl (by first|exact .here _|exact .there _ (.here _)) rfl rfl ?_ ?_
   ·(repeat(first|exact LOk.nil|refine Lsk ?_|refine Lcv ?_))
   refine Gn ?_ ?_
   ·(repeat(first|exact LOk.nil|refine Lsk ?_|refine Lcv ?_))
   repeat(first|(refine AS ⟨?_⟩;intros)|(refine O1 ⟨?_⟩;intros)|(refine Wcx (c6) ?_)|(refine Wcgx (c6) ?_))
   repeat(first|(refine A1 ⟨?_⟩;intros)|refine W4 c8 ⟨?_⟩|refine W4 c9 ⟨?_⟩|refine W4 c10 ⟨?_⟩)
   ((first|refine endR ?_|refine endN ?_);exact end2 RVa (RV.tmp rfl) (Le.refl _))
  ·rw [if_neg z1]at c10
   unfold iv ivx at c10
   rw [e0,e1,e2]at c10
   refine Pu.intro Tryz.func305 rfl (by kernel_rfl) fun C=>?_
   repeat(first|(refine AS ⟨?_⟩;intros)|(refine O1 ⟨?_⟩;intros))
   refine WdL 11 2 ?_
   repeat(first|(refine A1 ⟨?_⟩;intros)|refine W4 c1 ⟨?_⟩|refine W4 c2 ⟨?_⟩|refine W4 c3 ⟨?_⟩|refine W4 c4 ⟨?_⟩|refine W4 c5 ⟨?_⟩)
   refine dL2 fun b8 b9=>?_
   refine Gs (sv:=fr k) (cs':=frx k) rfl rfl rfl (by first|exact .here _|exact .there _ (.here _)) rfl rfl ?_ ?_
   ·(repeat(first|exact LOk.nil|refine Lsk ?_|refine Lcv ?_))
   refine Gs (sv:=fr w) (cs':=frx w) rfl rfl rfl (by first|exact .here _|exact .there _ (.here _)) rfl rfl ?_ ?_
   ·(repeat(first|exact LOk.nil|refine Lsk ?_|refine Lcv ?_))
   refine Gn ?_ ?_
   ·(repeat(first|exact LOk.nil|refine Lsk ?_|refine Lcv ?_))
   repeat(first|(refine AS ⟨?_⟩;intros)|(refine O1 ⟨?_⟩;intros)|(refine Wcx (c6) ?_)|(refine Wcgx (c6) ?_))
   repeat(first|(refine A1 ⟨?_⟩;intros)|refine W4 c8 ⟨?_⟩|refine W4 c9 ⟨?_⟩|refine W4 c10 ⟨?_⟩)
   ((first|refine endR ?_|refine endN ?_);exact end2 RVa (RV.tmp rfl) (Le.refl _))
abbrev fgx (f:Fg):List SV:=[lit (.int .i64 (r0 f.1.a)),lit (.int .i64 (r1 f.1.a)),r2 f.1.a,lit (.int .i64 (r0 f.1.b)),lit (.int .i64 (r1 f.1.b)),r2 f.1.b,lit (.int .i64 (r0 f.1.c)),lit (.int .i64 (r1 f.1.c)),r2 f.1.c,
 lit (.int .i64 (r0 f.2.lo)),lit (.int .i64 (r1 f.2.lo)),r2 f.2.lo,lit (.int .i64 (r0 f.2.hi)),lit (.int .i64 (r1 f.2.hi)),r2 f.2.hi,lit (.bool f.2.nl),lit (.bool f.2.nh)]
theorem fgx_len (f:Fg):(fgx f).length=17:=rfl
abbrev pcs (c:PC):SV:=sl (c.map fgx).flatten c.length
abbrev Spn.none:Spn:=⟨0,0,false,false⟩
theorem full_le {n:Nat}(h:1≤n):Spn.full.le n:=by have:=ht_zero1;exact⟨by show ht (0:Rat)≤n;omega,by show ht (0:Rat)≤n;omega⟩
theorem partGo_cons {l:Li}{v:Spn}{s:Fg}{c:PC}:partGo l v (s::c)=if(cutV l v s.1).2 then partGo l (cutV l v s.1).1 c else Option.none:=by
 rw [show partGo l v (s::c)=(match cutL l v s.1 with|some w=>partGo l w c|Option.none=>Option.none)from rfl,cutV_L]
 cases(cutV l v s.1).2 <;> simp
set_option maxHeartbeats 1000000 in
theorem cpart_pu {c:PC}{l:Li}{L:Nat}(hc:∀s∈c,s.1.le L) (hl:l.le L) (h1:1≤L) (hU:L≤1000) (hn:c.length≤1000000) :
  Pu Tryz.prog 303 [pcs c,lfl l] (Ab.tup [iv ((partP c l).getD Spn.none),lit (.bool (partP c l).isSome)]):=by
 have c0:=ivall_pu
 have e0:r0 (0:Rat)=0:=by decide +kernel
 have e1:r1 (0:Rat)=0:=by decide +kernel
 have e2:r2 (0:Rat)=lit (.pointer none):=if_pos (by decide +kernel)
 refine Pu.intro Tryz.func303 rfl (by kernel_rfl) fun C=>?_
 repeat(first|(refine A1 ⟨?_⟩;intros)|refine W4 c0 ⟨?_⟩)
 rename_i b3 b4 b6
 refine WP.loopS (ι:=Nat×Spn) (fun st=>st.1≤c.length∧st.2.le (50*L)∧partGo l st.2 (c.drop st.1)=partP c l) (fun st=>c.length-st.1)
  (fun st=>fm [(3,lit (.pointer (some ⟨b3,0,none⟩))),(4,lit (.pointer (some ⟨b4,0,none⟩))),(6,lit (.pointer (some ⟨b6,0,none⟩))),(11,pcs c),(12,lit (.int .i64 c.length)),(13,lit (.int .i64 st.1))])
  (fun st=>[(b6,293,ivx st.2),(b4,293,z8),(b3,196,lfc l.a l.b l.c)]) (0,Spn.full) ⟨Nat.zero_le _,full_le (by omega),by rw [List.drop_zero];rfl⟩ lfA (List.Sublist.refl _) ?_
 rintro ⟨k,v⟩ ⟨hk,hv,hp⟩ K hK
 simp only at hk hv hp⊢
 by_cases hkl:k<c.length
 ·obtain⟨s,hget,hmem,hat,hne⟩:=elt fgx_len (by omega) hkl
  have hdr:=drop_at hget
  rw [hdr,partGo_cons]at hp
  have c1:=lcut_pu hl (hc s hmem) h1 hU hv
  have hle:=cutV_le hl (hc s hmem) h1 hv
  cases hb:(cutV l v s.1).2 with
  |true =>
   rw [hb,if_pos rfl]at hp
   rw [hb]at c1
   have hgo:=fun F' H'=>hK F' H' (k+1,(cutV l v s.1).1) ⟨by omega,hle,hp⟩ (by simp only;omega)
   clear hK hp hv hle hdr hb hc hl c0
   generalize(cutV l v s.1).1=w at *
   repeat(refine A1 ⟨?_⟩;intros)
   refine Wo (ov_idxS (cs':=fgx s) rfl rfl (by omega) (by omega) hat hne) ?_
   repeat(first|(refine A1 ⟨?_⟩;intros)|(refine Wo (ov_fieldA rfl rfl (by kernel_rfl) rfl) ?_)|(refine Wdo (ov_fieldA rfl rfl (by kernel_rfl) rfl) ?_)|refine W4 c1 ⟨?_⟩)
   exact hgo _ _ lfA (List.Sublist.cons _ (List.Sublist.refl _))
  |false =>
   rw [hb,if_neg (by decide)]at hp
   rw [hb]at c1
   rw [←hp]
   clear hK hp hv hle hdr hb hc hl c0
   generalize(cutV l v s.1).1=w at *
   unfold Option.getD iv ivx
   simp only [Option.isSome_none]
   rw [e0,e1,e2]
   repeat(refine A1 ⟨?_⟩;intros)
   refine Wo (ov_idxS (cs':=fgx s) rfl rfl (by omega) (by omega) hat hne) ?_
   repeat(first|(refine A1 ⟨?_⟩;intros)|(refine Wo (ov_fieldA rfl rfl (by kernel_rfl) rfl) ?_)|(refine Wdo (ov_fieldA rfl rfl (by kernel_rfl) rfl) ?_)|refine W4 c1 ⟨?_⟩)
   ((first|refine endR ?_|refine endN ?_);exact end2 RVa (RV.tmp rfl) (Le.refl _))
 ·have hke:k=c.length:=by omega
  subst hke
  rw [List.drop_length]at hp
  rw [←hp]
  clear hK hp hc hl
  repeat(refine A1 ⟨?_⟩;intros)
  ((first|refine endR ?_|refine endN ?_);exact end2 RVa (RV.tmp rfl) (Le.refl _))
def or3 (a b c:Int):Int:=if a≠0 then a else if b≠0 then b else c
theorem or3_pu (a b c:Int):Pu Tryz.prog 324 [sl [lit (.int .i64 a),lit (.int .i64 b),lit (.int .i64 c)] 3] (lit (.int .i64 (or3 a b c))):=by
 have key:∀(i:Nat) (v:Int),[a,b,c][i]? = some v→(([lit (.int .i64 a),lit (.int .i64 b),lit (.int .i64 c)]:List SV).drop (i*1)).take 1=[lit (.int .i64 v)]:=fun i v h=>by
  match i,h with
  |0,h=>cases h;rfl
  |1,h=>cases h;rfl
  |2,h=>cases h;rfl
 unfold or3
 refine Pu.intro Tryz.func324 rfl (by kernel_rfl) fun C=>?_
 repeat(refine A1 ⟨?_⟩;intros)
 refine WP.unroll 4 ?_
 refine WPR.succ ?_
 repeat(refine A1 ⟨?_⟩;intros)
 refine Wo (ov_idxS (cs':=[lit (.int .i64 a)]) rfl rfl (by omega) (by omega) (key 0 a rfl) (by intro h;cases h)) ?_
 by_cases ha:a=0
 ·rw [if_neg (fun h=>h ha)]
  repeat(refine A1 ⟨?_⟩;intros)
  refine Wo (ov_idxS (cs':=[lit (.int .i64 b)]) rfl rfl (by omega) (by omega) (key 1 b rfl) (by intro h;cases h)) ?_
  by_cases hb:b=0
  ·rw [if_neg (fun h=>h hb)]
   repeat(refine A1 ⟨?_⟩;intros)
   refine Wo (ov_idxS (cs':=[lit (.int .i64 c)]) rfl rfl (by omega) (by omega) (key 2 c rfl) (by intro h;cases h)) ?_
   by_cases hc:c=0
   ·subst hc
    repeat(refine A1 ⟨?_⟩;intros)
    exact E1
   ·repeat(refine A1 ⟨?_⟩;intros)
    exact E1
  ·rw [if_pos hb]
   repeat(refine A1 ⟨?_⟩;intros)
   exact E1
 ·rw [if_pos ha]
  repeat(refine A1 ⟨?_⟩;intros)
  exact E1
theorem int_sub (a b:Int):((a:Rat)-(b:Rat)).num.sign=(a + -b).sign:=by
 have:(a:Rat)-(b:Rat)=((a + -b:Int):Rat):=by rw [Rat.intCast_add,Rat.intCast_neg];grind
 rw [this,Rat.num_intCast]
theorem cmpL_or (l m:Li):cmpL l m=or3 (l.a + -m.a).sign (l.b + -m.b).sign (l.c + -m.c).sign:=rfl
theorem lcmp_pu {l m:Li}{L:Nat}(hl:l.le L) (hm:m.le L) (h1:1≤L) (hU:L≤10000):Pu Tryz.prog 315 [lfl l,lfl m] (lit (.int .i64 (cmpL l m))):=by
 obtain⟨a1,a2,a3⟩:=hl.hts h1
 obtain⟨b1,b2,b3⟩:=hm.hts h1
 have c1:=fcmp_pu (l.a:Rat) m.a (by omega) (by omega)
 have c2:=fcmp_pu (l.b:Rat) m.b (by omega) (by omega)
 have c3:=fcmp_pu (l.c:Rat) m.c (by omega) (by omega)
 rw [int_sub]at c1 c2 c3
 have c4:=or3_pu (l.a + -m.a).sign (l.b + -m.b).sign (l.c + -m.c).sign
 rw [cmpL_or]
 clear a1 a2 a3 b1 b2 b3
 generalize(l.a + -m.a).sign=x at *
 generalize(l.b + -m.b).sign=y at *
 generalize(l.c + -m.c).sign=z at *
 generalize or3 x y z=r at *
 refine Pu.intro Tryz.func315 rfl (by kernel_rfl) fun C=>?_
 repeat(first|(refine Wo (ov_bsK (r:=[(0,[lit (.int .i64 x)]),(1,[lit (.int .i64 y)]),(2,[lit (.int .i64 z)])]) (Parts.cons (sv:=lit (.int .i64 x)) rfl inferInstance (Parts.cons (sv:=lit (.int .i64 y)) rfl inferInstance (Parts.cons (sv:=lit (.int .i64 z)) rfl inferInstance Parts.nil)))) ?_)|(refine Wdo (ov_bsK (r:=[(0,[lit (.int .i64 x)]),(1,[lit (.int .i64 y)]),(2,[lit (.int .i64 z)])]) (Parts.cons (sv:=lit (.int .i64 x)) rfl inferInstance (Parts.cons (sv:=lit (.int .i64 y)) rfl inferInstance (Parts.cons (sv:=lit (.int .i64 z)) rfl inferInstance Parts.nil)))) ?_)|(refine A1 ⟨?_⟩;intros)|refine W4 c1 ⟨?_⟩|refine W4 c2 ⟨?_⟩|refine W4 c3 ⟨?_⟩|refine W4 c4 ⟨?_⟩)
 exact E1
theorem lequal_pu {l m:Li}{L:Nat}(hl:l.le L) (hm:m.le L) (h1:1≤L) (hU:L≤10000):Pu Tryz.prog 296 [lfl l,lfl m] (lit (.bool (decide (l=m)))):=by
 have c1:=lcmp_pu hl hm h1 hU
 have e:decide (l=m)=decide (cmpL l m=0):=by
  by_cases h:l=m
  ·rw [decide_eq_true h,decide_eq_true (cmpL_zero.2 h)]
  ·rw [decide_eq_false h,decide_eq_false (fun k=>h (cmpL_zero.1 k))]
 rw [e]
 generalize cmpL l m=z at *
 by_cases h:z=0
 ·rw [decide_eq_true h]
  refine Pu.intro Tryz.func296 rfl (by kernel_rfl) fun C=>?_
  repeat(first|(refine A1 ⟨?_⟩;intros)|refine W4 c1 ⟨?_⟩)
  exact E1
 ·rw [decide_eq_false h]
  refine Pu.intro Tryz.func296 rfl (by kernel_rfl) fun C=>?_
  repeat(first|(refine A1 ⟨?_⟩;intros)|refine W4 c1 ⟨?_⟩)
  exact E1
theorem sampleS_ht {s:Spn}{n:Nat}(h:s.le n) (h1:1≤n):ht (sampleS s)≤2*n+4:=by
 obtain⟨a,b⟩:=h
 have h0:=ht_zero1
 have h2:=ht_one
 have:=ht_sub s.hi 1
 have:=ht_add s.lo 1
 have:=midR_ht s.lo s.hi a b
 unfold sampleS
 split
 ·omega
 ·split
  ·omega
  ·split <;> omega
theorem sideGo_cons (l:Li) (s:Fg) (c:PC):sideGo l (s::c)=if sideL l (atL s.1 (sampleS s.2))≠0 then sideL l (atL s.1 (sampleS s.2))else if s.1=l then 1 else sideGo l c:=rfl
set_option maxHeartbeats 1000000 in
theorem cplace_pu {c:PC}{l:Li}{L:Nat}(hc:∀s∈c,s.1.le L∧s.2.le (50*L)) (hl:l.le L) (h1:1≤L) (hU:L≤500) (hn:c.length≤1000000) :
  Pu Tryz.prog 304 [pcs c,lfl l] (lit (.int .i64 (placeP c l))):=by
 have c0:=cpart_pu (fun s hs=>(hc s hs).1) hl h1 (by omega) hn
 unfold placeP
 generalize(partP c l).getD Spn.none=w at *
 cases hp:(partP c l).isSome with
 |true =>
  rw [hp]at c0
  rw [if_pos rfl]
  refine Pu.intro Tryz.func304 rfl (by kernel_rfl) fun C=>?_
  repeat(first|(refine A1 ⟨?_⟩;intros)|refine W4 c0 ⟨?_⟩)
  exact E1
 |false =>
  rw [hp]at c0
  rw [if_neg (by decide)]
  refine Pu.intro Tryz.func304 rfl (by kernel_rfl) fun C=>?_
  repeat(first|(refine A1 ⟨?_⟩;intros)|refine W4 c0 ⟨?_⟩)
  rename_i b3 b5
  refine WP.loopS (ι:=Nat) (fun k=>k≤c.length∧sideGo l (c.drop k)=sideGo l c) (fun k=>c.length-k)
   (fun k=>fm [(3,lit (.pointer (some ⟨b3,0,none⟩))),(17,pcs c),(18,lit (.int .i64 c.length)),(19,lit (.int .i64 k))])
   (fun _=>[(b3,196,lfc l.a l.b l.c)]) 0 ⟨Nat.zero_le _,by rw [List.drop_zero]⟩ lfA (by first|exact List.Sublist.refl _|exact List.Sublist.cons _ (List.Sublist.refl _)) ?_
  rintro k ⟨hk,hs⟩ K hK
  by_cases hkl:k<c.length
  ·obtain⟨s,hget,hmem,hat,hne⟩:=elt fgx_len (by omega) hkl
   have hdr:=drop_at hget
   obtain⟨k1,k2⟩:=hc s hmem
   rw [hdr,sideGo_cons]at hs
   have hsh:=sampleS_ht k2 (by omega)
   have d1:=ivsample_pu s.2 ⟨by have:=k2.1;omega,by have:=k2.2;omega⟩
   have d2:=lat_pu k1 h1 (by omega) (t:=sampleS s.2) (by omega)
   obtain⟨p1,p2⟩:=atL_htL k1 h1 hsh
   have d3:=lside_pu hl h1 (by omega) (p:=atL s.1 (sampleS s.2)) ⟨by omega,by omega⟩
   have d4:=lequal_pu k1 hl h1 (by omega)
   clear hsh p1 p2 k1 k2 hc hl c0
   generalize atL s.1 (sampleS s.2)=q at *
   generalize sampleS s.2=t at *
   generalize sideL l q=z at *
   by_cases hz:z=0
   ·rw [if_neg (fun h=>h hz)]at hs
    by_cases he:s.1=l
    ·rw [if_pos he]at hs
     rw [decide_eq_true he]at d4
     rw [←hs]
     clear hK
     repeat(refine A1 ⟨?_⟩;intros)
     refine Wo (ov_idxS (cs':=fgx s) rfl rfl (by omega) (by omega) hat hne) ?_
     repeat(first|(refine A1 ⟨?_⟩;intros)|(refine Wo (ov_fieldA rfl rfl (by kernel_rfl) rfl) ?_)|(refine Wdo (ov_fieldA rfl rfl (by kernel_rfl) rfl) ?_)|refine W4 d1 ⟨?_⟩|refine W4 d2 ⟨?_⟩|refine W4 d3 ⟨?_⟩|refine W4 d4 ⟨?_⟩)
     exact E1
    ·rw [if_neg he]at hs
     rw [decide_eq_false he]at d4
     have hgo:=fun F' H'=>hK F' H' (k+1) ⟨by omega,hs⟩ (by omega)
     clear hK hs
     repeat(refine A1 ⟨?_⟩;intros)
     refine Wo (ov_idxS (cs':=fgx s) rfl rfl (by omega) (by omega) hat hne) ?_
     repeat(first|(refine A1 ⟨?_⟩;intros)|(refine Wo (ov_fieldA rfl rfl (by kernel_rfl) rfl) ?_)|(refine Wdo (ov_fieldA rfl rfl (by kernel_rfl) rfl) ?_)|refine W4 d1 ⟨?_⟩|refine W4 d2 ⟨?_⟩|refine W4 d3 ⟨?_⟩|refine W4 d4 ⟨?_⟩)
     exact hgo _ _ lfA (by first|exact List.Sublist.refl _|exact List.Sublist.cons _ (List.Sublist.refl _))
   ·rw [if_pos hz]at hs
    rw [←hs]
    clear hK
    repeat(refine A1 ⟨?_⟩;intros)
    refine Wo (ov_idxS (cs':=fgx s) rfl rfl (by omega) (by omega) hat hne) ?_
    repeat(first|(refine A1 ⟨?_⟩;intros)|(refine Wo (ov_fieldA rfl rfl (by kernel_rfl) rfl) ?_)|(refine Wdo (ov_fieldA rfl rfl (by kernel_rfl) rfl) ?_)|refine W4 d1 ⟨?_⟩|refine W4 d2 ⟨?_⟩|refine W4 d3 ⟨?_⟩|refine W4 d4 ⟨?_⟩)
    exact E1
  ·have hke:k=c.length:=by omega
   subst hke
   rw [List.drop_length]at hs
   rw [←hs]
   clear hK hc hl
   repeat(refine A1 ⟨?_⟩;intros)
   exact E1
theorem phalf_pu (v:Pq) (h:hp v 1000000):Pu Tryz.prog 247 [ppq v] (lit (.int .i64 (halfP v))):=by
 obtain⟨h1,h2⟩:=h
 have c1:=fsign_pu v.1 (by omega)
 have c2:=fsign_pu v.2 (by omega)
 rw [halfP_sgn]
 generalize v.1.num.sign=x at *
 generalize v.2.num.sign=y at *
 clear h1 h2
 by_cases a2:0<y
 ·rw [if_neg (by omega),if_pos (.inl a2)]
  refine Pu.intro Tryz.func247 rfl (by kernel_rfl) fun C=>?_
  repeat(first|(refine A1 ⟨?_⟩;intros)|refine W4 c1 ⟨?_⟩|refine W4 c2 ⟨?_⟩)
  exact E1
 ·by_cases a3:y=0
  ·subst a3
   by_cases a4:0<x
   ·rw [if_neg (by omega),if_pos (.inr ⟨rfl,a4⟩)]
    refine Pu.intro Tryz.func247 rfl (by kernel_rfl) fun C=>?_
    repeat(first|(refine A1 ⟨?_⟩;intros)|refine W4 c1 ⟨?_⟩|refine W4 c2 ⟨?_⟩)
    exact E1
   ·by_cases a5:x=0
    ·subst a5
     rw [if_pos ⟨rfl,rfl⟩]
     refine Pu.intro Tryz.func247 rfl (by kernel_rfl) fun C=>?_
     repeat(first|(refine A1 ⟨?_⟩;intros)|refine W4 c1 ⟨?_⟩|refine W4 c2 ⟨?_⟩)
     exact E1
    ·rw [if_neg (by omega),if_neg (by omega)]
     refine Pu.intro Tryz.func247 rfl (by kernel_rfl) fun C=>?_
     repeat(first|(refine A1 ⟨?_⟩;intros)|refine W4 c1 ⟨?_⟩|refine W4 c2 ⟨?_⟩)
     exact E1
  ·rw [if_neg (by omega),if_neg (by omega)]
   refine Pu.intro Tryz.func247 rfl (by kernel_rfl) fun C=>?_
   repeat(first|(refine A1 ⟨?_⟩;intros)|refine W4 c1 ⟨?_⟩|refine W4 c2 ⟨?_⟩)
   exact E1
theorem pangle_pu (u v:Pq) (h:hp u 400000) (k:hp v 400000):Pu Tryz.prog 188 [ppq u,ppq v] (lit (.int .i64 (angP u v))):=by
 have hx:=crossP_ht h k
 obtain⟨h1,h2⟩:=h
 obtain⟨k1,k2⟩:=k
 have c1:=phalf_pu u ⟨by omega,by omega⟩
 have c2:=phalf_pu v ⟨by omega,by omega⟩
 have c3:=pcross_pu u.1 u.2 v.1 v.2 (by omega) (by omega) (by omega) (by omega)
 have c4:=fsign_pu (crossP u v) (by omega)
 have hs : -1≤(crossP u v).num.sign∧(crossP u v).num.sign≤1:=by have:=Int.sign_trichotomy (crossP u v).num;omega
 unfold angP
 rw [show u.1*v.2-u.2*v.1=crossP u v from rfl]at c3
 generalize halfP u=a at *
 generalize halfP v=b at *
 clear h1 h2 k1 k2 hx
 by_cases e:a=b
 ·rw [if_neg (fun k=>k e)]
  generalize(crossP u v).num.sign=z at *
  refine Pu.intro Tryz.func188 rfl (by kernel_rfl) fun C=>?_
  repeat(first|(refine A1 ⟨?_⟩;intros)|refine W4 c1 ⟨?_⟩|refine W4 c2 ⟨?_⟩|refine W4 c3 ⟨?_⟩|refine W4 c4 ⟨?_⟩)
  exact E1
 ·rw [if_pos e]
  clear hs
  by_cases f:a<b
  ·rw [if_pos f]
   refine Pu.intro Tryz.func188 rfl (by kernel_rfl) fun C=>?_
   repeat(first|(refine A1 ⟨?_⟩;intros)|refine W4 c1 ⟨?_⟩|refine W4 c2 ⟨?_⟩)
   exact E1
  ·rw [if_neg f]
   refine Pu.intro Tryz.func188 rfl (by kernel_rfl) fun C=>?_
   repeat(first|(refine A1 ⟨?_⟩;intros)|refine W4 c1 ⟨?_⟩|refine W4 c2 ⟨?_⟩)
   exact E1
theorem clip1_pu {s:Fg}{l:Li}{L:Nat}(h:s.1.le L) (k:l.le L) (h1:1≤L) (hU:L≤10000):Pu Tryz.prog 307 [ag (fgx s),lfl l] (lit (.int .i64 (angP (dirL s.1) (dirL l)))):=by
 obtain⟨a1,a2,a3⟩:=h.hts h1
 obtain⟨b1,b2,b3⟩:=k.hts h1
 have c1:=ldir_pu s.1 (h.gr (by omega))
 have c2:=ldir_pu l (k.gr (by omega))
 have c3:=pangle_pu (dirL s.1) (dirL l) ⟨by show ht (s.1.b:Rat)≤_;omega,by show ht (-(s.1.a:Rat))≤_;rw [ht_neg];omega⟩ ⟨by show ht (l.b:Rat)≤_;omega,by show ht (-(l.a:Rat))≤_;rw [ht_neg];omega⟩
 clear a1 a2 a3 b1 b2 b3
 refine Pu.intro Tryz.func307 rfl (by kernel_rfl) fun C=>?_
 repeat(first|(refine A1 ⟨?_⟩;intros)|(refine Wo (ov_fieldA rfl rfl (by kernel_rfl) rfl) ?_)|(refine Wdo (ov_fieldA rfl rfl (by kernel_rfl) rfl) ?_)|refine W4 c1 ⟨?_⟩|refine W4 c2 ⟨?_⟩|refine W4 c3 ⟨?_⟩)
 exact E1
end Go.Ab
