/- Texts laid one behind the other: PIv, PCut, Elt, GmC, PPart, PAng. -/
import Derived.Test.YtbcojehfealiaaaGreatDoorB20
set_option linter.all false
set_option maxHeartbeats 16000000
namespace Go.Ab
open Go.Proofs
variable [Base]
abbrev ivx (s:Spn):List SV:=[lit (.int .i64 (r0 s.lo)),lit (.int .i64 (r1 s.lo)),r2 s.lo,lit (.int .i64 (r0 s.hi)),lit (.int .i64 (r1 s.hi)),r2 s.hi,lit (.bool s.nl),lit (.bool s.nh)]
abbrev iv (s:Spn):SV:=ag (ivx s)
theorem Fq:Pu Tryz.prog 279 [] (iv Spn.full):=by
 have e0:r0 (0:Rat)=0:=by decide +kernel
 have e1:r1 (0:Rat)=0:=by decide +kernel
 have e2:r2 (0:Rat)=lit (.pointer none):=if_pos (by decide +kernel);unfold iv ivx;rw [e0,e1,e2];refine Pi Tryz.func279 fun C=>?_
 exact Z2
theorem zu (s:Spn) (h:s.le 1000000):Pu Tryz.prog 290 [iv s] (lit (.bool (ef s))):=by
 have c1:=ko s.lo s.hi (by have:=h.1;omega) (by have:=h.2;omega);obtain⟨lo,hi,nl,nh⟩:=s;unfold ef;simp only at *;generalize(lo-hi).num.sign=z at *;clear h;cases nl
 ·cases nh
  ·by_cases hz:0≤z
   ·rw [decide_eq_true hz];refine Pi Tryz.func290 fun C=>?_
    exact Y1 c1
   ·rw [decide_eq_false hz];refine Pi Tryz.func290 fun C=>?_
    exact Y1 c1
  ·refine Pi Tryz.func290 fun C=>?_
   exact Y1 c1
 ·refine Pi Tryz.func290 fun C=>?_
  exact Y1 c1
theorem xw {v w:Spn}{n:Nat}(h:v.le n) (k:w.le n):(dG v w).le n:=by
 obtain⟨h1,h2⟩:=h;obtain⟨k1,k2⟩:=k;unfold dG rL rI;constructor
 ·simp only;split
  ·exact k1
  ·split
   ·exact h1
   ·split <;> assumption
 ·simp only;split
  ·exact k2
  ·split
   ·exact h2
   ·split <;> assumption
abbrev z8:List SV:=[lit (.int .i64 0),lit (.int .i64 0),lit (.pointer none),lit (.int .i64 0),lit (.int .i64 0),lit (.pointer none),lit (.bool false),lit (.bool false)]
theorem CE (v w:Spn) (h:v.le 1000000) (k:w.le 1000000):Pu Tryz.prog 284 [iv v,iv w] (Ab.tup [iv (dG v w),lit (.bool (!ef (dG v w)))]):=by
 have c1:=ID v.lo w.lo h.1 k.1;have c2:=IC v.hi w.hi h.2 k.2;have c3:=zu (dG v w) (xw h k);clear h k;generalize ef (dG v w)=bad at *;obtain⟨lo,hi,nl,nh⟩:=v;obtain⟨lo',hi',nl',nh'⟩:=w;unfold dG at *;simp only at *;generalize rL lo lo'=a at *;generalize rI hi hi'=b at *;refine Pi Tryz.func284 fun C=>?_
 repeat(first|(refine AS ⟨?_⟩;intros)|(refine O1 ⟨?_⟩;intros))
 rename_i b2 b3 b4 b6
 refine WP.viaB (fun F H=>LeF F (fm [(2,lit (.pointer (some ⟨b2,0,none⟩))),(3,lit (.pointer (some ⟨b3,0,none⟩))),(4,lit (.pointer (some ⟨b4,0,none⟩))),(6,lit (.pointer (some ⟨b6,0,none⟩)))])∧
  H=[(b6,288,ivx ⟨if nl then lo' else if nl' then lo else a,hi,nl&&nl',nh⟩),(b4,288,z8),(b3,288,ivx ⟨lo',hi',nl',nh'⟩),(b2,288,ivx ⟨lo,hi,nl,nh⟩)]) ?_ ?_
 ·clear c2 c3;cases nl
  ·cases nl'
   ·repeat(first|(refine AS ⟨?_⟩;intros)|(refine O1 ⟨?_⟩;intros)|(refine Wcx (c1) ?_)|(refine dH (c1) ?_))
    exact⟨lfA,rfl⟩
   ·repeat(first|(refine AS ⟨?_⟩;intros)|(refine O1 ⟨?_⟩;intros)|(refine Wcx (c1) ?_)|(refine dH (c1) ?_))
    exact⟨lfA,rfl⟩
  ·repeat(first|(refine AS ⟨?_⟩;intros)|(refine O1 ⟨?_⟩;intros))
   apply WdS [5,7] [ivx ⟨lo',hi,true,nh⟩,ivx ⟨lo',hi,nl',nh⟩] (ak.here _) kr (by decide +kernel);refine MkD 5 ?_;(repeat(first|(refine A1 ⟨?_⟩;intros)));refine xt ?_;refine MkS ?_;refine MkD 1 ?_;(repeat(first|(refine A1 ⟨?_⟩;intros)));refine xt ?_;refine MkS ?_;refine MkN ?_;(repeat(refine A1 ⟨?_⟩;intros));repeat(refine A1 ⟨?_⟩;intros)
   exact⟨lfA,rfl⟩
 ·rintro F H ⟨hF,rfl⟩;refine WP.le hF ?_;clear c1;generalize hu:(if nl=true then lo' else if nl'=true then lo else a)=u at *;generalize hn:(nl&&nl')=n at *;repeat(first|(refine AS ⟨?_⟩;intros)|(refine O1 ⟨?_⟩;intros))
  refine WP.viaB (fun F H=>LeF F (fm [(4,lit (.pointer (some ⟨b4,0,none⟩))),(6,lit (.pointer (some ⟨b6,0,none⟩)))])∧
   H=[(b6,288,ivx ⟨u,if nh then hi' else if nh' then hi else b,n,nh&&nh'⟩),(b4,288,z8),(b3,288,ivx ⟨lo',hi',nl',nh'⟩),(b2,288,ivx ⟨lo,hi,nl,nh⟩)]) ?_ ?_
  ·clear c3;cases nh
   ·cases nh'
    ·repeat(first|(refine AS ⟨?_⟩;intros)|(refine O1 ⟨?_⟩;intros)|(refine Wcx (c2) ?_)|(refine dH (c2) ?_))
     exact⟨lfA,rfl⟩
    ·repeat(first|(refine AS ⟨?_⟩;intros)|(refine O1 ⟨?_⟩;intros)|(refine Wcx (c2) ?_)|(refine dH (c2) ?_))
     exact⟨lfA,rfl⟩
   ·repeat(first|(refine AS ⟨?_⟩;intros)|(refine O1 ⟨?_⟩;intros))
    apply WdS [5,7] [ivx ⟨u,hi',n,true⟩,ivx ⟨u,hi',n,nh'⟩] (ak.here _) kr (by decide +kernel);refine MkD 5 ?_;(repeat(first|(refine A1 ⟨?_⟩;intros)));refine xt ?_;refine MkS ?_;refine MkD 1 ?_;(repeat(first|(refine A1 ⟨?_⟩;intros)));refine xt ?_;refine MkS ?_;refine MkN ?_;(repeat(refine A1 ⟨?_⟩;intros));repeat(refine A1 ⟨?_⟩;intros)
    exact⟨lfA,rfl⟩
  ·rintro F H ⟨hF,rfl⟩;refine WP.le hF ?_;repeat(first|(refine AS ⟨?_⟩;intros)|(refine O1 ⟨?_⟩;intros))
   apply WdS [4] [ivx ⟨u,if nh then hi' else if nh' then hi else b,n,nh&&nh'⟩] (ak.there _ (ak.here _)) kr (by decide +kernel);refine MkD 4 ?_;(repeat(first|(refine A1 ⟨?_⟩;intros)|refine W4 c3 ⟨?_⟩));refine xt ?_;refine MkS ?_;refine MkD 1 ?_;(repeat(first|(refine A1 ⟨?_⟩;intros)|refine W4 c3 ⟨?_⟩));refine xt ?_;refine MkN ?_;(repeat(refine A1 ⟨?_⟩;intros));exact G3
theorem xz (s:Spn) (h:s.le 100000):Pu Tryz.prog 281 [iv s] (fr (aW s)):=by
 obtain⟨h1,h2⟩:=h;have h1':=fD;have m1:=aI s.lo s.hi;have c0:=lP 1 om om;have c1:=nN s.hi 1 om om;have c2:=iR s.lo 1 om om;have c3:=iR s.lo s.hi om om;have c4:=xN (s.lo+s.hi) om;have e0:r0 (0:Rat)=0:=by decide +kernel
 have e1:r1 (0:Rat)=0:=by decide +kernel
 have e2:r2 (0:Rat)=lit (.pointer none):=if_pos (by decide +kernel);obtain⟨lo,hi,nl,nh⟩:=s;unfold aW i8;simp only at *;clear h1 h2 h1' m1;cases nl
 ·cases nh
  ·simp only [Bool.and_self,Bool.false_eq_true,if_false];refine Pi Tryz.func281 fun C=>?_
   repeat(first|(refine A1 ⟨?_⟩;intros)|refine W4 c0 ⟨?_⟩|refine W4 c3 ⟨?_⟩|refine W4 c4 ⟨?_⟩)
   exact G1
  ·simp only [Bool.and_true,Bool.false_eq_true,if_false,if_true];refine Pi Tryz.func281 fun C=>?_
   exact X2 c0 c2
 ·cases nh
  ·simp only [Bool.and_false,Bool.false_eq_true,if_false,if_true];refine Pi Tryz.func281 fun C=>?_
   exact X2 c0 c1
  ·simp only [Bool.and_self,if_true];unfold fr;rw [e0,e1,e2];refine Pi Tryz.func281 fun C=>?_
   exact Z2
abbrev frx (x:Rat):List SV:=[lit (.int .i64 (r0 x)),lit (.int .i64 (r1 x)),r2 x]
def kG (l:Li) (v:Spn) (m:Li):Spn×Bool :=
 if(slp l m).num.sign=0 then(v,decide (0<(a8 m (aD l)).num.sign))
 else(dG v (hlf (slp l m) (-(a8 m (aD l)/slp l m))),!ef (dG v (hlf (slp l m) (-(a8 m (aD l)/slp l m)))))
theorem zQ (l:Li) (v:Spn) (m:Li):dZ l v m=if(kG l v m).2 then some (kG l v m).1 else none:=by
 unfold dZ kG;by_cases h:(slp l m).num.sign=0
 ·rw [if_pos h,if_pos h];by_cases k:0<(a8 m (aD l)).num.sign
  ·rw [if_pos k,decide_eq_true k];rfl
  ·rw [if_neg k,decide_eq_false k];rfl
 ·rw [if_neg h,if_neg h];cases ef (dG v (hlf (slp l m) (-(a8 m (aD l)/slp l m)))) <;> rfl
theorem kR:ht (0:Rat)≤1:=by have:=fw;omega
theorem Bo {l m:Li}{L:Nat}(hl:l.le L) (hm:m.le L) (h1:1≤L):ht (slp l m)≤7*L∧ht (a8 m (aD l))≤31*L∧ht (-(a8 m (aD l)/slp l m))≤40*L:=by
 obtain⟨a1,a2,a3⟩:=hl.hts h1;obtain⟨b1,b2,b3⟩:=hm.hts h1;have k1:=ae (m.a:Rat) l.b;have k2:=ae (m.b:Rat) l.a;have k3:=cI ((m.a:Rat)*l.b) (m.b*l.a);have k4:=wk hm h1 (mh hl h1);have k5:=iJ (a8 m (aD l)) (slp l m);have k6:ht (slp l m)≤7*L:=by unfold slp;omega
 rw [ck];exact⟨k6,om,om⟩
theorem Fy {k u:Rat}{n:Nat}(h:ht u≤n) (h1:1≤n):(hlf k u).le n:=by
 have:=kR;unfold hlf;split
 ·exact⟨h,by simp only;omega⟩
 ·exact⟨by simp only;omega,h⟩
theorem vV {l m:Li}{v:Spn}{L:Nat}(hl:l.le L) (hm:m.le L) (h1:1≤L) (hv:v.le (50*L)):(kG l v m).1.le (50*L):=by
 obtain⟨_,_,k⟩:=Bo hl hm h1;unfold kG;split
 ·exact hv
 ·exact xw hv (Fy om om)
theorem AZ {l m:Li}{v:Spn}{L:Nat}(hl:l.le L) (hm:m.le L) (h1:1≤L) (hU:L≤1000) (hv:v.le (50*L)):Pu Tryz.prog 275 [lfl l,iv v,lfl m] (Ab.tup [iv (kG l v m).1,lit (.bool (kG l v m).2)]):=by
 obtain⟨a1,a2,a3⟩:=hl.hts h1;obtain⟨b1,b2,b3⟩:=hm.hts h1;obtain⟨k1,k2,k3⟩:=Bo hl hm h1;obtain⟨d1,d2⟩:=mh hl h1;have hz:=kR;have na:ht (-(l.a:Rat))≤L:=by rw [ck];exact a1
 have c1:=gn (m.a:Rat) m.b m.c;have c2:=lN l (hl.gr om);have c3:=nU (m.a:Rat) m.b l.b (-(l.a:Rat)) om om om om;rw [show(m.a:Rat)*l.b+m.b * -(l.a:Rat)=slp l m by unfold slp;grind]at c3;have c4:=xy hl h1 om;have c5:=pd (m.a:Rat) m.b m.c (aD l).1 (aD l).2 om om om om om;rw [show(m.a:Rat)*(aD l).1+m.b*(aD l).2+m.c=a8 m (aD l)from rfl]at c5;have c6:=gM (slp l m) om;have c7:=gM (a8 m (aD l)) om;have c8:=ov (a8 m (aD l)) (slp l m) om om;have c9:=fK (a8 m (aD l)/slp l m) (by rw [←ck];omega);have hw:=Fy (k:=slp l m) (u := -(a8 m (aD l)/slp l m)) (n:=1000000) om om;have c10:=CE v (hlf (slp l m) (-(a8 m (aD l)/slp l m))) ⟨by have:=hv.1;omega,by have:=hv.2;omega⟩ hw;have e0:r0 (0:Rat)=0:=by decide +kernel
 have e1:r1 (0:Rat)=0:=by decide +kernel
 have e2:r2 (0:Rat)=lit (.pointer none):=if_pos (by decide +kernel);unfold kG;clear a1 a2 a3 b1 b2 b3 k1 k2 k3 d1 d2 hz na hl hm hv hw;generalize hbad:ef (dG v (hlf (slp l m) (-(a8 m (aD l)/slp l m))))=bad at *;clear hbad;generalize hmt:dG v (hlf (slp l m) (-(a8 m (aD l)/slp l m)))=mt at *;clear hmt;unfold hlf at c10;generalize -(a8 m (aD l)/slp l m)=u at *;generalize a8 m (aD l)/slp l m=u' at *;generalize a8 m (aD l)=w at *;generalize slp l m=k at *;generalize k.num.sign=z at *;generalize w.num.sign=y at *;by_cases z0:z=0
 ·rw [if_pos z0];clear c8 c9 c10;refine Pi Tryz.func275 fun C=>?_
  repeat(first|(refine AS ⟨?_⟩;intros)|(refine O1 ⟨?_⟩;intros))
  refine WdL 11 2 ?_;repeat(first|(refine A1 ⟨?_⟩;intros)|refine W4 c1 ⟨?_⟩|refine W4 c2 ⟨?_⟩|refine W4 c3 ⟨?_⟩|refine W4 c4 ⟨?_⟩|refine W4 c5 ⟨?_⟩)
  refine dL2 fun b8 b9=>?_
  refine Gs (sv:=fr k) (cs':=frx k) rfl rfl rfl (by first|exact .here _|exact .there _ (.here _)) rfl rfl ?_ ?_
  ·(repeat(first|exact LOk.nil|refine Lsk ?_|refine Lcv ?_))
  refine Gs (sv:=fr w) (cs':=frx w) rfl rfl rfl (by first|exact .here _|exact .there _ (.here _)) rfl rfl ?_ ?_
  ·(repeat(first|exact LOk.nil|refine Lsk ?_|refine Lcv ?_))
  refine Gn ?_ ?_
  ·(repeat(first|exact LOk.nil|refine Lsk ?_|refine Lcv ?_))
  repeat(first|(refine AS ⟨?_⟩;intros)|(refine O1 ⟨?_⟩;intros)|(refine Wcx (c6) ?_)|(refine dH (c6) ?_))
  apply WdS [4] [ivx v] (ak.there _ (ak.there _ (ak.here _))) kr (by decide +kernel);refine MkD 4 ?_;(repeat(first|(refine A1 ⟨?_⟩;intros)|refine W4 c7 ⟨?_⟩));refine xt ?_;refine MkS ?_;refine MkD 1 ?_;(repeat(first|(refine A1 ⟨?_⟩;intros)|refine W4 c7 ⟨?_⟩));refine xt ?_;refine MkN ?_;(repeat(refine A1 ⟨?_⟩;intros));exact G3
 ·rw [if_neg z0];by_cases z1:z=1
  ·rw [if_pos z1]at c10;unfold iv ivx at c10;rw [e0,e1,e2]at c10;refine Pi Tryz.func275 fun C=>?_
   repeat(first|(refine AS ⟨?_⟩;intros)|(refine O1 ⟨?_⟩;intros))
   refine WdL 11 2 ?_;repeat(first|(refine A1 ⟨?_⟩;intros)|refine W4 c1 ⟨?_⟩|refine W4 c2 ⟨?_⟩|refine W4 c3 ⟨?_⟩|refine W4 c4 ⟨?_⟩|refine W4 c5 ⟨?_⟩)
   refine dL2 fun b8 b9=>?_
   refine Gs (sv:=fr k) (cs':=frx k) rfl rfl rfl (by first|exact .here _|exact .there _ (.here _)) rfl rfl ?_ ?_
   ·(repeat(first|exact LOk.nil|refine Lsk ?_|refine Lcv ?_))
   refine Gs (sv:=fr w) (cs':=frx w) rfl rfl rfl (by first|exact .here _|exact .there _ (.here _)) rfl rfl ?_ ?_
   ·(repeat(first|exact LOk.nil|refine Lsk ?_|refine Lcv ?_))
   refine Gn ?_ ?_
   ·(repeat(first|exact LOk.nil|refine Lsk ?_|refine Lcv ?_))
   repeat(first|(refine AS ⟨?_⟩;intros)|(refine O1 ⟨?_⟩;intros)|(refine Wcx (c6) ?_)|(refine dH (c6) ?_))
   repeat(first|(refine A1 ⟨?_⟩;intros)|refine W4 c8 ⟨?_⟩|refine W4 c9 ⟨?_⟩|refine W4 c10 ⟨?_⟩)
   exact G3
  ·rw [if_neg z1]at c10;unfold iv ivx at c10;rw [e0,e1,e2]at c10;refine Pi Tryz.func275 fun C=>?_
   repeat(first|(refine AS ⟨?_⟩;intros)|(refine O1 ⟨?_⟩;intros))
   refine WdL 11 2 ?_;repeat(first|(refine A1 ⟨?_⟩;intros)|refine W4 c1 ⟨?_⟩|refine W4 c2 ⟨?_⟩|refine W4 c3 ⟨?_⟩|refine W4 c4 ⟨?_⟩|refine W4 c5 ⟨?_⟩)
   refine dL2 fun b8 b9=>?_
   refine Gs (sv:=fr k) (cs':=frx k) rfl rfl rfl (by first|exact .here _|exact .there _ (.here _)) rfl rfl ?_ ?_
   ·(repeat(first|exact LOk.nil|refine Lsk ?_|refine Lcv ?_))
   refine Gs (sv:=fr w) (cs':=frx w) rfl rfl rfl (by first|exact .here _|exact .there _ (.here _)) rfl rfl ?_ ?_
   ·(repeat(first|exact LOk.nil|refine Lsk ?_|refine Lcv ?_))
   refine Gn ?_ ?_
   ·(repeat(first|exact LOk.nil|refine Lsk ?_|refine Lcv ?_))
   repeat(first|(refine AS ⟨?_⟩;intros)|(refine O1 ⟨?_⟩;intros)|(refine Wcx (c6) ?_)|(refine dH (c6) ?_))
   repeat(first|(refine A1 ⟨?_⟩;intros)|refine W4 c8 ⟨?_⟩|refine W4 c9 ⟨?_⟩|refine W4 c10 ⟨?_⟩)
   exact G3
theorem elt {α:Type}{f:α→List SV}{n:Nat}(hf:∀a,(f a).length=n) (hn:0<n){l:List α}{k:Nat}(hk:k<l.length):∃a,l[k]? = some a∧a∈l∧(((l.map f).flatten).drop (k*n)).take n=f a∧(l.map f).flatten≠[] :=
 have h:=List.getElem?_eq_getElem hk
 ⟨l[k],h,List.mem_of_getElem? h,dJ hf h,eI hf om (fun e=>by rw [e]at hk;simp at hk)⟩
theorem Iw {α:Type}{f:α→List SV}{n:Nat}(hf:∀a,(f a).length=n) (out:List α) (x:α) (j:Nat) (hj:j≤out.length):((out.map f).flatten).length=out.length*n∧(((out.map f).flatten).drop (j*n)).length=(out.length-j)*n∧(((out.map f).flatten).take (j*n)).length=j*n∧
  (f x++((out.map f).flatten).drop (j*n)).length=(1+(out.length-j))*n∧((out.map f).flatten).take (j*n)++(f x++((out.map f).flatten).drop (j*n))=((out.take j++x::out.drop j).map f).flatten∧j+(1+(out.length-j))=(out.take j++x::out.drop j).length:=by
 have hfl:=cJ hf out;have hdl:(((out.map f).flatten).drop (j*n)).length=(out.length-j)*n:=by rw [List.length_drop,hfl,Nat.sub_mul]
 refine⟨hfl,hdl,?_,?_,pj hf out x j,?_⟩
 ·have:=Nat.mul_le_mul_right n hj;rw [List.length_take,hfl];omega
 ·rw [List.length_append,hdl,hf,Nat.add_mul,Nat.one_mul]
 ·rw [List.length_append,List.length_cons,List.length_take,List.length_drop];omega
section
variable {α:Type}{lt:α→α→Bool}{out:List α}{x o:α}{j:Nat}
theorem B0 (hj:j=gh lt out x):xB lt out x=out.take j++x::out.drop j:=by unfold xB;rw [←hj]
theorem ql [DecidableEq α] (hj:j=gh lt out x) (ho:out[j]? = some o) (e:o=x):gq lt out x=out:=by unfold gq;rw [←hj,if_pos (by rw [ho,e])]
theorem qm [DecidableEq α] (hj:j=gh lt out x) (ho:out[j]? = some o) (e:¬o=x):gq lt out x=out.take j++x::out.drop j:=by
 unfold gq;rw [←hj,if_neg (by rw [ho];exact fun h=>e (Option.some.inj h))];exact B0 hj
theorem o9 [DecidableEq α] (hj:j=out.length) (h:j≤gh lt out x):gq lt out x=out.take j++x::out.drop j:=by
 have hp:=lI lt out x;have he:j=gh lt out x:=by omega
 unfold gq;rw [←he,if_neg (by rw [List.getElem?_eq_none om];intro h;cases h)];exact B0 he
end
theorem i9 {α:Type}{l:List α}{k:Nat}{a:α}(h:l[k]? = some a):l.drop k=a::l.drop (k+1):=by
 obtain⟨h1,h2⟩:=List.getElem?_eq_some_iff.1 h;rw [List.drop_eq_getElem_cons h1,h2]
theorem CM {out:List Rat}{s:Spn}{y:Rat}(h:y∈gU out s):y∈out∨(s.nl=false∧y=s.lo)∨(s.nh=false∧y=s.hi):=by
 unfold gU at h
 have h1:∀{y},y∈(if s.nl then out else gq rlt out s.lo)→y∈out∨(s.nl=false∧y=s.lo):=fun {y} hy=>by
  split at hy
  ·exact .inl hy
  ·rename_i hn;rcases jL.1 hy with e|e
   ·exact .inr ⟨by simpa using hn,e⟩
   ·exact .inl e
 simp only at h;split at h
 ·rcases h1 h with e|e
  ·exact .inl e
  ·exact .inr (.inl e)
 ·rename_i hn;rcases jL.1 h with e|e
  ·exact .inr (.inr ⟨by simpa using hn,e⟩)
  ·rcases h1 e with e|e
   ·exact .inl e
   ·exact .inr (.inl e)
theorem ud:∀(l:List Spn) (out:List Rat) (y:Rat),y∈l.foldl gU out→y∈out∨∃s∈l,(s.nl=false∧y=s.lo)∨(s.nh=false∧y=s.hi)
 | [],out,y,h => .inl h
 |s::l,out,y,h=>by
  rcases ud l _ y h with h|⟨s',h1,h2⟩
  ·rcases CM h with h|h
   ·exact .inl h
   ·exact .inr ⟨s,Ms,h⟩
  ·exact .inr ⟨s',Mc h1,h2⟩
theorem FN {l:List Spn}{y:Rat}(h:y∈cL l):∃s∈l,(s.nl=false∧y=s.lo)∨(s.nh=false∧y=s.hi):=by
 rcases ud l [] y h with h|h
 ·cases h
 ·exact h
theorem CN (out:List Rat) (s:Spn):(gU out s).length≤out.length+2:=by
 have h1:=jM rlt out s.lo;unfold gU;simp only;split
 ·split <;> omega
 ·split
  ·have:=jM rlt out s.hi;omega
  ·have:=jM rlt (gq rlt out s.lo) s.hi;omega
theorem ue:∀(l:List Spn) (out:List Rat),(l.foldl gU out).length≤out.length+2*l.length
 | [],out=>by simp
 |s::l,out=>by
  have:=ue l (gU out s);have:=CN out s;rw [List.foldl_cons,List.length_cons];omega
theorem xQ (l:List Spn):(cL l).length≤2*l.length:=by
 have:=ue l [];unfold cL;simpa using this
theorem Bc {l:List Spn}{n:Nat}(h:∀s∈l,s.le n):∀y∈cL l,ht y≤n:=fun y hy=>by
 obtain⟨s,hs,⟨_,rfl⟩|⟨_,rfl⟩⟩:=FN hy
 ·exact(h s hs).1
 ·exact(h s hs).2
theorem jX (c:List Rat):(dP c).length=c.length+1:=by
 cases c with
 |nil=>rfl
 |cons a c=>unfold dP;simp
theorem vr (x y:Rat){n:Nat}(h:ht x≤n) (k:ht y≤n):ht (i8 x y)≤2*n+4:=by
 have h1:=aI x y;have h2:ht (2:Rat)≤1:=eM 2 om;have h3:=iJ (x+y) 2;unfold i8;omega
theorem Dm {α β γ:Type}{f:α→β→γ}:∀{a:List α}{b:List β}{y:γ},y∈List.zipWith f a b→∃p∈a,∃q∈b,y=f p q
 | [],b,y,h=>by simp at h
 |_::_,[],y,h=>by simp at h
 |p::a,q::b,y,h=>by
  rw [List.zipWith_cons_cons,List.mem_cons]at h;rcases h with h|h
  ·exact⟨p,Ms,q,Ms,h⟩
  ·obtain⟨p',h1,q',h2,h3⟩:=Dm h;exact⟨p',Mc h1,q',Mc h2,h3⟩
theorem C8 {c:List Rat}{n:Nat}(h:∀y∈c,ht y≤n):∀y∈dP c,ht y≤2*n+4:=by
 have h1:=fD;have h0:=fw;cases c with
 |nil=>intro y hy;simp only [dP,List.mem_singleton]at hy;rw [hy];omega
 |cons a c =>
  intro y hy;unfold dP at hy;simp only [List.mem_cons,List.mem_append,List.mem_singleton,List.not_mem_nil,or_false]at hy;rcases hy with hy|hy|hy
  ·have:=h a Ms;have:=cI a 1;rw [hy];omega
  ·obtain⟨p,hp,q,hq,rfl⟩:=Dm hy;exact vr p q (h p hp) (h q (Mc hq))
  ·have hg:(a::c).getLast (by simp)∈a::c:=List.getLast_mem _;have:=h _ hg;have:=aI ((a::c).getLast (by simp)) 1;rw [hy];omega
theorem vM (c:List Rat) (marks:List Bool) (out:List Spn) (i:Nat):(cY c marks out i).length≤out.length+1:=by
 unfold cY;split
 ·omega
 ·split
  ·rw [List.length_set];omega
  ·rw [List.length_append,List.length_singleton];omega
abbrev fgx (f:Fg):List SV:=[lit (.int .i64 (r0 f.1.a)),lit (.int .i64 (r1 f.1.a)),r2 f.1.a,lit (.int .i64 (r0 f.1.b)),lit (.int .i64 (r1 f.1.b)),r2 f.1.b,lit (.int .i64 (r0 f.1.c)),lit (.int .i64 (r1 f.1.c)),r2 f.1.c,
 lit (.int .i64 (r0 f.2.lo)),lit (.int .i64 (r1 f.2.lo)),r2 f.2.lo,lit (.int .i64 (r0 f.2.hi)),lit (.int .i64 (r1 f.2.hi)),r2 f.2.hi,lit (.bool f.2.nl),lit (.bool f.2.nh)]
theorem eU (f:Fg):(fgx f).length=17:=rfl
abbrev pcs (c:PC):SV:=sl (c.map fgx).flatten c.length
abbrev Spn.none:Spn:=⟨0,0,false,false⟩
theorem B8 {n:Nat}(h:1≤n):Spn.full.le n:=by have:=kR;exact⟨by show ht (0:Rat)≤n;omega,by show ht (0:Rat)≤n;omega⟩
theorem pP {l:Li}{v:Spn}{s:Fg}{c:PC}:gi l v (s::c)=if(kG l v s.1).2 then gi l (kG l v s.1).1 c else Option.none:=by
 rw [show gi l v (s::c)=(match dZ l v s.1 with|some w=>gi l w c|Option.none=>Option.none)from rfl,zQ];cases(kG l v s.1).2 <;> simp
theorem xX {c:PC}{l:Li}{L:Nat}(hc:∀s∈c,s.1.le L) (hl:l.le L) (h1:1≤L) (hU:L≤1000) (hn:c.length≤1000000) :
  Pu Tryz.prog 273 [pcs c,lfl l] (Ab.tup [iv ((gH c l).getD Spn.none),lit (.bool (gH c l).isSome)]):=by
 have c0:=Fq;have e0:r0 (0:Rat)=0:=by decide +kernel
 have e1:r1 (0:Rat)=0:=by decide +kernel
 have e2:r2 (0:Rat)=lit (.pointer none):=if_pos (by decide +kernel);refine Pi Tryz.func273 fun C=>?_
 repeat(first|(refine A1 ⟨?_⟩;intros)|refine W4 c0 ⟨?_⟩)
 rename_i b3 b4 b6
 refine WP.loopS (ι:=Nat×Spn) (fun st=>st.1≤c.length∧st.2.le (50*L)∧gi l st.2 (c.drop st.1)=gH c l) (fun st=>c.length-st.1)
  (fun st=>fm [(3,lit (.pointer (some ⟨b3,0,none⟩))),(4,lit (.pointer (some ⟨b4,0,none⟩))),(6,lit (.pointer (some ⟨b6,0,none⟩))),(11,pcs c),(12,lit (.int .i64 c.length)),(13,lit (.int .i64 st.1))])
  (fun st=>[(b6,288,ivx st.2),(b4,288,z8),(b3,167,lfc l.a l.b l.c)]) (0,Spn.full) ⟨Nat.zero_le _,B8 om,by rw [List.drop_zero];rfl⟩ lfA Sr ?_
 rintro ⟨k,v⟩ ⟨hk,hv,hp⟩ K hK;simp only at hk hv hp⊢;by_cases hkl:k<c.length
 ·obtain⟨s,hget,hmem,hat,hne⟩:=elt eU om hkl;have hdr:=i9 hget;rw [hdr,pP]at hp;have c1:=AZ hl (hc s hmem) h1 hU hv;have hle:=vV hl (hc s hmem) h1 hv;cases hb:(kG l v s.1).2 with
  |true =>
   rw [hb,if_pos rfl]at hp;rw [hb]at c1;have hgo:=fun F' H'=>hK F' H' (k+1,(kG l v s.1).1) ⟨om,hle,hp⟩ (by simp only;omega)
   clear hK hp hv hle hdr hb hc hl c0;generalize(kG l v s.1).1=w at *;repeat(refine A1 ⟨?_⟩;intros)
   refine Wo (aa (cs':=fgx s) rfl rfl om om hat hne) ?_;repeat(first|(refine A1 ⟨?_⟩;intros)|(refine Wo (bI rfl rfl kr rfl) ?_)|(refine Wdo (bI rfl rfl kr rfl) ?_)|refine W4 c1 ⟨?_⟩)
   exact hgo _ _ lfA (Sc Sr)
  |false =>
   rw [hb,if_neg (by decide)]at hp;rw [hb]at c1;rw [←hp];clear hK hp hv hle hdr hb hc hl c0;generalize(kG l v s.1).1=w at *;unfold Option.getD iv ivx;simp only [Option.isSome_none];rw [e0,e1,e2];repeat(refine A1 ⟨?_⟩;intros)
   refine Wo (aa (cs':=fgx s) rfl rfl om om hat hne) ?_;repeat(first|(refine A1 ⟨?_⟩;intros)|(refine Wo (bI rfl rfl kr rfl) ?_)|(refine Wdo (bI rfl rfl kr rfl) ?_)|refine W4 c1 ⟨?_⟩)
   exact G3
 ·have hke:k=c.length:=by omega
  subst hke;rw [List.drop_length]at hp;rw [←hp];clear hK hp hc hl;repeat(refine A1 ⟨?_⟩;intros)
  exact G3
def or3 (a b c:Int):Int:=if a≠0 then a else if b≠0 then b else c
theorem Kd (a b c:Int):Pu Tryz.prog 292 [sl [lit (.int .i64 a),lit (.int .i64 b),lit (.int .i64 c)] 3] (lit (.int .i64 (or3 a b c))):=by
 have key:∀(i:Nat) (v:Int),[a,b,c][i]? = some v→(([lit (.int .i64 a),lit (.int .i64 b),lit (.int .i64 c)]:List SV).drop (i*1)).take 1=[lit (.int .i64 v)]:=fun i v h=>by
  match i,h with
  |0,h=>cases h;rfl
  |1,h=>cases h;rfl
  |2,h=>cases h;rfl
 unfold or3;refine Pi Tryz.func292 fun C=>?_
 repeat(refine A1 ⟨?_⟩;intros)
 refine WP.unroll 4 ?_;refine WPR.succ ?_;repeat(refine A1 ⟨?_⟩;intros)
 refine Wo (aa (cs':=[lit (.int .i64 a)]) rfl rfl om om (key 0 a rfl) (by intro h;cases h)) ?_;by_cases ha:a=0
 ·rw [if_neg (fun h=>h ha)];repeat(refine A1 ⟨?_⟩;intros)
  refine Wo (aa (cs':=[lit (.int .i64 b)]) rfl rfl om om (key 1 b rfl) (by intro h;cases h)) ?_;by_cases hb:b=0
  ·rw [if_neg (fun h=>h hb)];repeat(refine A1 ⟨?_⟩;intros)
   refine Wo (aa (cs':=[lit (.int .i64 c)]) rfl rfl om om (key 2 c rfl) (by intro h;cases h)) ?_;by_cases hc:c=0
   ·subst hc;exact Z1
   ·exact Z1
  ·rw [if_pos hb];exact Z1
 ·rw [if_pos ha];exact Z1
theorem Iv (a b:Int):((a:Rat)-(b:Rat)).num.sign=(a + -b).sign:=by
 have:(a:Rat)-(b:Rat)=((a + -b:Int):Rat):=by rw [Rat.intCast_add,Rat.intCast_neg];grind
 rw [this,Rat.num_intCast]
theorem IP (l m:Li):kz l m=or3 (l.a + -m.a).sign (l.b + -m.b).sign (l.c + -m.c).sign:=rfl
theorem Is {l m:Li}{L:Nat}(hl:l.le L) (hm:m.le L) (h1:1≤L) (hU:L≤10000):Pu Tryz.prog 287 [lfl l,lfl m] (lit (.int .i64 (kz l m))):=by
 obtain⟨a1,a2,a3⟩:=hl.hts h1;obtain⟨b1,b2,b3⟩:=hm.hts h1;have c1:=ko (l.a:Rat) m.a om om;have c2:=ko (l.b:Rat) m.b om om;have c3:=ko (l.c:Rat) m.c om om;rw [Iv]at c1 c2 c3;have c4:=Kd (l.a + -m.a).sign (l.b + -m.b).sign (l.c + -m.c).sign;rw [IP];clear a1 a2 a3 b1 b2 b3;generalize(l.a + -m.a).sign=x at *;generalize(l.b + -m.b).sign=y at *;generalize(l.c + -m.c).sign=z at *;generalize or3 x y z=r at *;refine Pi Tryz.func287 fun C=>?_
 repeat(first|(refine Wo (cg (r:=[(0,[lit (.int .i64 x)]),(1,[lit (.int .i64 y)]),(2,[lit (.int .i64 z)])]) (dp.cons (sv:=lit (.int .i64 x)) rfl inferInstance (dp.cons (sv:=lit (.int .i64 y)) rfl inferInstance (dp.cons (sv:=lit (.int .i64 z)) rfl inferInstance dp.nil)))) ?_)|(refine Wdo (cg (r:=[(0,[lit (.int .i64 x)]),(1,[lit (.int .i64 y)]),(2,[lit (.int .i64 z)])]) (dp.cons (sv:=lit (.int .i64 x)) rfl inferInstance (dp.cons (sv:=lit (.int .i64 y)) rfl inferInstance (dp.cons (sv:=lit (.int .i64 z)) rfl inferInstance dp.nil)))) ?_)|(refine A1 ⟨?_⟩;intros)|refine W4 c1 ⟨?_⟩|refine W4 c2 ⟨?_⟩|refine W4 c3 ⟨?_⟩|refine W4 c4 ⟨?_⟩)
 exact E1
theorem CA {l m:Li}{L:Nat}(hl:l.le L) (hm:m.le L) (h1:1≤L) (hU:L≤10000):Pu Tryz.prog 282 [lfl l,lfl m] (lit (.bool (decide (l=m)))):=by
 have c1:=Is hl hm h1 hU
 have e:decide (l=m)=decide (kz l m=0):=by
  by_cases h:l=m
  ·rw [decide_eq_true h,decide_eq_true (dS.2 h)]
  ·rw [decide_eq_false h,decide_eq_false (fun k=>h (dS.1 k))]
 rw [e];generalize kz l m=z at *;by_cases h:z=0
 ·rw [decide_eq_true h];refine Pi Tryz.func282 fun C=>?_
  exact Y1 c1
 ·rw [decide_eq_false h];refine Pi Tryz.func282 fun C=>?_
  exact Y1 c1
theorem yy {s:Spn}{n:Nat}(h:s.le n) (h1:1≤n):ht (aW s)≤2*n+4:=by
 obtain⟨a,b⟩:=h;have h0:=kR;have h2:=fD;have:=cI s.hi 1;have:=aI s.lo 1;have:=vr s.lo s.hi a b;unfold aW;split
 ·omega
 ·split
  ·omega
  ·split <;> omega
theorem ww (l:Li) (s:Fg) (c:PC):jj l (s::c)=if cW l (atL s.1 (aW s.2))≠0 then cW l (atL s.1 (aW s.2))else if s.1=l then 1 else jj l c:=rfl
theorem D3 {c:PC}{l:Li}{L:Nat}(hc:∀s∈c,s.1.le L∧s.2.le (50*L)) (hl:l.le L) (h1:1≤L) (hU:L≤500) (hn:c.length≤1000000) :
  Pu Tryz.prog 274 [pcs c,lfl l] (lit (.int .i64 (jl c l))):=by
 have c0:=xX (fun s hs=>(hc s hs).1) hl h1 om hn;unfold jl;generalize(gH c l).getD Spn.none=w at *;cases hp:(gH c l).isSome with
 |true =>
  rw [hp]at c0;rw [if_pos rfl];refine Pi Tryz.func274 fun C=>?_
  exact Y1 c0
 |false =>
  rw [hp]at c0;rw [if_neg (by decide)];refine Pi Tryz.func274 fun C=>?_
  repeat(first|(refine A1 ⟨?_⟩;intros)|refine W4 c0 ⟨?_⟩)
  rename_i b3 b5
  refine WP.loopS (ι:=Nat) (fun k=>k≤c.length∧jj l (c.drop k)=jj l c) (fun k=>c.length-k)
   (fun k=>fm [(3,lit (.pointer (some ⟨b3,0,none⟩))),(17,pcs c),(18,lit (.int .i64 c.length)),(19,lit (.int .i64 k))])
   (fun _=>[(b3,167,lfc l.a l.b l.c)]) 0 ⟨Nat.zero_le _,by rw [List.drop_zero]⟩ lfA (by first|exact Sr|exact Sc Sr) ?_
  rintro k ⟨hk,hs⟩ K hK;by_cases hkl:k<c.length
  ·obtain⟨s,hget,hmem,hat,hne⟩:=elt eU om hkl;have hdr:=i9 hget;obtain⟨k1,k2⟩:=hc s hmem;rw [hdr,ww]at hs;have hsh:=yy k2 om;have d1:=xz s.2 ⟨by have:=k2.1;omega,by have:=k2.2;omega⟩;have d2:=Ko k1 h1 om (t:=aW s.2) om;obtain⟨p1,p2⟩:=IT k1 h1 hsh;have d3:=Fa hl h1 om (p:=atL s.1 (aW s.2)) ⟨om,om⟩;have d4:=CA k1 hl h1 om;clear hsh p1 p2 k1 k2 hc hl c0;generalize atL s.1 (aW s.2)=q at *;generalize aW s.2=t at *;generalize cW l q=z at *;by_cases hz:z=0
   ·rw [if_neg (fun h=>h hz)]at hs;by_cases he:s.1=l
    ·rw [if_pos he]at hs;rw [decide_eq_true he]at d4;rw [←hs];clear hK;repeat(refine A1 ⟨?_⟩;intros)
     refine Wo (aa (cs':=fgx s) rfl rfl om om hat hne) ?_;repeat(first|(refine A1 ⟨?_⟩;intros)|(refine Wo (bI rfl rfl kr rfl) ?_)|(refine Wdo (bI rfl rfl kr rfl) ?_)|refine W4 d1 ⟨?_⟩|refine W4 d2 ⟨?_⟩|refine W4 d3 ⟨?_⟩|refine W4 d4 ⟨?_⟩)
     exact E1
    ·rw [if_neg he]at hs;rw [decide_eq_false he]at d4;have hgo:=fun F' H'=>hK F' H' (k+1) ⟨om,hs⟩ om
     clear hK hs;repeat(refine A1 ⟨?_⟩;intros)
     refine Wo (aa (cs':=fgx s) rfl rfl om om hat hne) ?_;repeat(first|(refine A1 ⟨?_⟩;intros)|(refine Wo (bI rfl rfl kr rfl) ?_)|(refine Wdo (bI rfl rfl kr rfl) ?_)|refine W4 d1 ⟨?_⟩|refine W4 d2 ⟨?_⟩|refine W4 d3 ⟨?_⟩|refine W4 d4 ⟨?_⟩)
     exact hgo _ _ lfA (by first|exact Sr|exact Sc Sr)
   ·rw [if_pos hz]at hs;rw [←hs];clear hK;repeat(refine A1 ⟨?_⟩;intros)
    refine Wo (aa (cs':=fgx s) rfl rfl om om hat hne) ?_;repeat(first|(refine A1 ⟨?_⟩;intros)|(refine Wo (bI rfl rfl kr rfl) ?_)|(refine Wdo (bI rfl rfl kr rfl) ?_)|refine W4 d1 ⟨?_⟩|refine W4 d2 ⟨?_⟩|refine W4 d3 ⟨?_⟩|refine W4 d4 ⟨?_⟩)
    exact E1
  ·have hke:k=c.length:=by omega
   subst hke;rw [List.drop_length]at hs;rw [←hs];clear hK hc hl;exact Z1
theorem wX (v:Pq) (h:hp v 1000000):Pu Tryz.prog 227 [ppq v] (lit (.int .i64 (j6 v))):=by
 obtain⟨h1,h2⟩:=h;have c1:=gM v.1 om;have c2:=gM v.2 om;rw [tU];generalize v.1.num.sign=x at *;generalize v.2.num.sign=y at *;clear h1 h2;by_cases a2:0<y
 ·rw [if_neg om,if_pos (.inl a2)];refine Pi Tryz.func227 fun C=>?_
  exact Y2 c1 c2
 ·by_cases a3:y=0
  ·subst a3;by_cases a4:0<x
   ·rw [if_neg om,if_pos (.inr ⟨rfl,a4⟩)];refine Pi Tryz.func227 fun C=>?_
    exact Y2 c1 c2
   ·by_cases a5:x=0
    ·subst a5;rw [if_pos ⟨rfl,rfl⟩];refine Pi Tryz.func227 fun C=>?_
     exact Y2 c1 c2
    ·rw [if_neg om,if_neg om];refine Pi Tryz.func227 fun C=>?_
     exact Y2 c1 c2
  ·rw [if_neg om,if_neg om];refine Pi Tryz.func227 fun C=>?_
   exact Y2 c1 c2
theorem Cb (u v:Pq) (h:hp u 400000) (k:hp v 400000):Pu Tryz.prog 183 [ppq u,ppq v] (lit (.int .i64 (mw u v))):=by
 have hx:=lV h k;obtain⟨h1,h2⟩:=h;obtain⟨k1,k2⟩:=k;have c1:=wX u ⟨om,om⟩;have c2:=wX v ⟨om,om⟩;have c3:=jD u.1 u.2 v.1 v.2 om om om om;have c4:=gM (a9 u v) om;have hs : -1≤(a9 u v).num.sign∧(a9 u v).num.sign≤1:=by have:=Int.sign_trichotomy (a9 u v).num;omega
 unfold mw;rw [show u.1*v.2-u.2*v.1=a9 u v from rfl]at c3;generalize j6 u=a at *;generalize j6 v=b at *;clear h1 h2 k1 k2 hx;by_cases e:a=b
 ·rw [if_neg (fun k=>k e)];generalize(a9 u v).num.sign=z at *;refine Pi Tryz.func183 fun C=>?_
  repeat(first|(refine A1 ⟨?_⟩;intros)|refine W4 c1 ⟨?_⟩|refine W4 c2 ⟨?_⟩|refine W4 c3 ⟨?_⟩|refine W4 c4 ⟨?_⟩)
  exact E1
 ·rw [if_pos e];clear hs;by_cases f:a<b
  ·rw [if_pos f];refine Pi Tryz.func183 fun C=>?_
   exact Y2 c1 c2
  ·rw [if_neg f];refine Pi Tryz.func183 fun C=>?_
   exact Y2 c1 c2
theorem y7 {s:Fg}{l:Li}{L:Nat}(h:s.1.le L) (k:l.le L) (h1:1≤L) (hU:L≤10000):Pu Tryz.prog 277 [ag (fgx s),lfl l] (lit (.int .i64 (mw (dirL s.1) (dirL l)))):=by
 obtain⟨a1,a2,a3⟩:=h.hts h1;obtain⟨b1,b2,b3⟩:=k.hts h1;have c1:=lN s.1 (h.gr om);have c2:=lN l (k.gr om);have c3:=Cb (dirL s.1) (dirL l) ⟨by show ht (s.1.b:Rat)≤_;omega,by show ht (-(s.1.a:Rat))≤_;rw [ck];omega⟩ ⟨by show ht (l.b:Rat)≤_;omega,by show ht (-(l.a:Rat))≤_;rw [ck];omega⟩;clear a1 a2 a3 b1 b2 b3;refine Pi Tryz.func277 fun C=>?_
 repeat(first|(refine A1 ⟨?_⟩;intros)|(refine Wo (bI rfl rfl kr rfl) ?_)|(refine Wdo (bI rfl rfl kr rfl) ?_)|refine W4 c1 ⟨?_⟩|refine W4 c2 ⟨?_⟩|refine W4 c3 ⟨?_⟩)
 exact E1
end Go.Ab
