/- Texts laid one behind the other: RPart, Expr, StkP, BndP, Fpos, StrB, WExpr. -/
import Derived.Test.YthinbooccdccfaaGreatDoorB24
import Derived.Test.YthinbooccdccfaaGreatDoorB26
import Derived.Test.YthinbooccdccfaaGreatDoorB14
set_option linter.unusedSectionVars false
set_option linter.unusedVariables false
set_option linter.unusedSimpArgs false
namespace Go.Ab
open Go.Proofs
variable [Base]
def Ex.rtxt:Ex→List UInt8
 | .leaf n=>if n.k=1 then n.nm else if n.k=2 then [97,108,108]else if n.k=3 then [110,111,110,101]else [104,97,108,102,32]++rpT n.a n.b++[32]++rpT n.c n.e
 | .un _ x=>[126]++par (decide (rk x.top<3)) x.rtxt
 | .bi n l r=>par (decide (rk l.top<rk n)) l.rtxt++sgn n.op++par (decide (rk r.top<rk n+1)) r.rtxt
theorem Ex.rtxt_good:∀{t:Ex},t.good=true→(∀(ns:List Nd) (i:Nat),t.At ns i→t.rtxt=t.txt)
 | .leaf n,h,ns,i,hat=>by
  obtain⟨_,h1,h4⟩:=hat
  unfold Ex.rtxt Ex.txt
  unfold Ex.good at h
  by_cases k1:n.k=1
  ·rw [if_pos k1,if_pos k1]
  rw [if_neg k1]at h⊢
  rw [if_neg k1]
  by_cases k2:n.k=2
  ·rw [if_pos k2,if_pos k2]
  rw [if_neg k2,if_neg k2]
  by_cases k3:n.k=3
  ·rw [if_pos k3,if_pos k3]
  rw [if_neg k3,if_neg k3]
  rw [if_pos (by omega:n.k=4)]at h
  rw [Bool.and_eq_true]at h
  rw [rpT_good h.1,rpT_good h.2]
  unfold ptxt2
  simp only [List.append_assoc,List.cons_append,List.nil_append]
 | .un n x,h,ns,i,hat=>by
  obtain⟨_,_,j,_,hx⟩:=hat
  unfold Ex.rtxt Ex.txt
  rw [Ex.rtxt_good (t:=x) h ns j hx]
 | .bi n l r,h,ns,i,hat=>by
  obtain⟨_,_,_,j,k,_,_,hl,hr⟩:=hat
  have h':(l.good&&r.good)=true:=h
  rw [Bool.and_eq_true]at h'
  unfold Ex.rtxt Ex.txt
  rw [Ex.rtxt_good h'.1 ns j hl,Ex.rtxt_good h'.2 ns k hr]
theorem Ex.rtxt_len {L:Nat}(hL:L≤20){ns:List Nd}(hok:∀n∈ns,n.ok L):∀{t:Ex}{i:Nat},t.At ns i→t.rtxt.length≤2000*t.size
 | .leaf n,i,hat=>by
  have hm:=hok n (List.mem_of_getElem? hat.1)
  have h1:=rpT_len hm.a hm.b
  have h2:=rpT_len hm.c hm.e
  have h3:=hm.nm
  simp only [Ex.rtxt,Ex.size]
  split
  ·omega
  split
  ·simp
  split
  ·simp
  ·simp only [List.length_append,List.length_cons,List.length_nil];omega
 | .un n x,i,hat=>by
  obtain⟨_,_,j,_,hx⟩:=hat
  have h1:=Ex.rtxt_len hL hok hx
  have h2:=par_len (decide (rk x.top<3)) x.rtxt
  simp only [Ex.rtxt,Ex.size,List.length_append,List.length_cons,List.length_nil]
  omega
 | .bi n l r,i,hat=>by
  obtain⟨_,_,_,j,k,_,_,hl,hr⟩:=hat
  have h1:=Ex.rtxt_len hL hok hl
  have h2:=Ex.rtxt_len hL hok hr
  have h3:=par_len (decide (rk l.top<rk n)) l.rtxt
  have h4:=par_len (decide (rk r.top<rk n+1)) r.rtxt
  have h5:=sgn_len n.op
  simp only [Ex.rtxt,Ex.size,List.length_append]
  omega
theorem Ex.At.uniq {ns:List Nd}:∀{t t':Ex}{i:Nat},t.At ns i→t'.At ns i→t=t'
 | .leaf n, .leaf n',i,h,h'=>by obtain⟨a,_⟩:=h;obtain⟨a',_⟩:=h';rw [a]at a';rw [Option.some.inj a']
 | .leaf n, .un n' x',i,h,h'=>by obtain⟨a,_,b⟩:=h;obtain⟨a',b',_⟩:=h';rw [a]at a';obtain rfl:=Option.some.inj a';omega
 | .leaf n, .bi n' x' y',i,h,h'=>by obtain⟨a,_,b⟩:=h;obtain⟨a',b',_⟩:=h';rw [a]at a';obtain rfl:=Option.some.inj a';omega
 | .un n x, .leaf n',i,h',h=>by obtain⟨a,_,b⟩:=h;obtain⟨a',b',_⟩:=h';rw [a]at a';obtain rfl:=Option.some.inj a';omega
 | .un n x, .un n' x',i,h,h'=>by
  obtain⟨a,_,j,b,c⟩:=h
  obtain⟨a',_,j',b',c'⟩:=h'
  rw [a]at a';obtain rfl:=Option.some.inj a'
  obtain rfl:j=j':=by omega
  rw [Ex.At.uniq c c']
 | .un n x, .bi n' x' y',i,h,h'=>by obtain⟨a,b,_⟩:=h;obtain⟨a',b',_⟩:=h';rw [a]at a';obtain rfl:=Option.some.inj a';omega
 | .bi n x y, .leaf n',i,h',h=>by obtain⟨a,_,b⟩:=h;obtain⟨a',b',_⟩:=h';rw [a]at a';obtain rfl:=Option.some.inj a';omega
 | .bi n x y, .un n' x',i,h',h=>by obtain⟨a,b,_⟩:=h;obtain⟨a',b',_⟩:=h';rw [a]at a';obtain rfl:=Option.some.inj a';omega
 | .bi n x y, .bi n' x' y',i,h,h'=>by
  obtain⟨a,_,_,j,k,b,c,d,e⟩:=h
  obtain⟨a',_,_,j',k',b',c',d',e'⟩:=h'
  rw [a]at a';obtain rfl:=Option.some.inj a'
  obtain rfl:j=j':=by omega
  obtain rfl:k=k':=by omega
  rw [Ex.At.uniq d d',Ex.At.uniq e e']
theorem rpart_leaf (w:Nat) (n:Nd){L:Nat}(hn:n.ok L) (hL:L≤20) (hk1:1≤n.k) (hk4:n.k≤4) (bad:Bool) (X2 X3 X4:SV):PuH Tryz.prog 91 [lit (.pointer (some ⟨w,0,none⟩)),ag (ndx n),X2,X3,X4] [(w,wT,wC bad false)]
  (fun r H=>r=Ab.tup [str (Ex.leaf n).rtxt,lit (.int .i64 0)]∧H=[(w,wT,wC (bad || !(Ex.leaf n).good) false)]) noX:=by
 by_cases k1:n.k=1
 ·rw [show(Ex.leaf n).rtxt=n.nm from by unfold Ex.rtxt;rw [if_pos k1],show(Ex.leaf n).good=nmOk n.nm from by unfold Ex.good;rw [if_pos k1]]
  have hnm:=hn.nm
  refine PuH.intro Tryz.func91 rfl (by kernel_rfl) fun C hC=>?_
  repeat(refine A1 ⟨?_⟩;intros)
  refine WfH (rname_pu w n.nm (by omega) bad false) ?_
  rintro _ _ ⟨rfl,rfl⟩
  simp only [List.cons_append,List.nil_append]
  repeat(refine A1 ⟨?_⟩;intros)
  exact endHR _ _ (end2 (RV.tmp rfl) (RV.tmp rfl) (Le.refl _)) (List.Sublist.cons_cons _ (List.nil_sublist _)) ⟨rfl,rfl⟩
 by_cases k2:n.k=2
 ·rw [show(Ex.leaf n).rtxt=[97,108,108]from by unfold Ex.rtxt;rw [if_neg k1,if_pos k2],show(Ex.leaf n).good=true from by unfold Ex.good;rw [if_neg k1,if_neg (by omega)],Bool.not_true,Bool.or_false]
  refine PuH.intro Tryz.func91 rfl (by kernel_rfl) fun C hC=>?_
  repeat(refine A1 ⟨?_⟩;intros)
  exact endHR _ _ (end2 (RV.tmp (s:=str [97,108,108]) rfl) (RV.tmp rfl) (Le.refl _)) (List.sublist_cons_self _ _) ⟨rfl,rfl⟩
 by_cases k3:n.k=3
 ·rw [show(Ex.leaf n).rtxt=[110,111,110,101]from by unfold Ex.rtxt;rw [if_neg k1,if_neg k2,if_pos k3],show(Ex.leaf n).good=true from by unfold Ex.good;rw [if_neg k1,if_neg (by omega)],Bool.not_true,Bool.or_false]
  refine PuH.intro Tryz.func91 rfl (by kernel_rfl) fun C hC=>?_
  repeat(refine A1 ⟨?_⟩;intros)
  exact endHR _ _ (end2 (RV.tmp (s:=str [110,111,110,101]) rfl) (RV.tmp rfl) (Le.refl _)) (List.sublist_cons_self _ _) ⟨rfl,rfl⟩
 have k4:n.k=4:=by omega
 rw [show(Ex.leaf n).rtxt=[104,97,108,102,32]++rpT n.a n.b++[32]++rpT n.c n.e from by unfold Ex.rtxt;rw [if_neg k1,if_neg k2,if_neg k3],
  show(Ex.leaf n).good=(nrmQ n.a&&nrmQ n.b&&(nrmQ n.c&&nrmQ n.e))from by unfold Ex.good;rw [if_neg k1,if_pos k4]]
 rw [show(bad || !(nrmQ n.a&&nrmQ n.b&&(nrmQ n.c&&nrmQ n.e)))=(bad || !nrmQ n.a || !nrmQ n.b || !nrmQ n.c || !nrmQ n.e)from by
  generalize nrmQ n.a=q1;generalize nrmQ n.b=q2;generalize nrmQ n.c=q3;generalize nrmQ n.e=q4
  revert bad q1 q2 q3 q4;decide]
 have c1:=rpoint_pu w n.a n.b hn.a hn.b (by omega) bad false
 have c2:=rpoint_pu w n.c n.e hn.c hn.e (by omega) (bad || !nrmQ n.a || !nrmQ n.b) false
 have h1:=rpT_len hn.a hn.b
 have h2:=rpT_len hn.c hn.e
 have g1:([104,97,108,102,32]:List UInt8).length=5:=rfl
 have g2:([32]:List UInt8).length=1:=rfl
 generalize rpT n.a n.b=s1 at *
 generalize rpT n.c n.e=s2 at *
 have q1:([104,97,108,102,32]++s1).length=5+s1.length:=by simp;omega
 have q2:([104,97,108,102,32]++s1++[32]).length=6+s1.length:=by simp;omega
 refine PuH.intro Tryz.func91 rfl (by kernel_rfl) fun C hC=>?_
 repeat(first|(refine AS ⟨?_⟩;intros)|(refine O1 ⟨?_⟩;intros))
 rename_i b6
 refine WP.perm (List.Perm.swap _ _ _) ?_
 refine WdM [3,9] [(b6,33,ndx n)] (fun s=>[(w,wT,wC ([bad,bad || !nrmQ n.a || !nrmQ n.b,bad || !nrmQ n.a || !nrmQ n.b || !nrmQ n.c || !nrmQ n.e].getD s false) false)]) ?_
 refine MkD 3 ?_
 repeat(refine A1 ⟨?_⟩;intros)
 refine mkD0 ?_
 refine MkC c1 ?_
 refine MkD 5 ?_
 repeat(refine A1 ⟨?_⟩;intros)
 refine mkD0 ?_
 refine MkC c2 ?_
 refine MkD 3 ?_
 repeat(refine A1 ⟨?_⟩;intros)
 refine mkD0 ?_
 refine MkN ?_
 repeat(refine A1 ⟨?_⟩;intros)
 exact endHR _ _ (end2 (RV.tmp (s:=str _) rfl) (RV.tmp rfl) (Le.refl _)) (List.sublist_append_left _ _) ⟨rfl,rfl⟩
set_option maxHeartbeats 1000000 in
theorem rpart_un {ns:List Nd}(hns:ns.length≤100000) (w:Nat) (n:Nd) (x:Ex) (j:Nat) (hk:n.k=5) (hx:n.x=j) (hat:ns[j]? = some x.top) (hl:x.rtxt.length≤900000) (hd:x.dep≤900000) (bad:Bool) :
  PuH Tryz.prog 91 [lit (.pointer (some ⟨w,0,none⟩)),ag (ndx n),sl (ns.map ndx).flatten ns.length,sl [str x.rtxt] 1,sl [lit (.int .i64 x.dep)] 1] [(w,wT,wC bad false)]
   (fun r H=>r=Ab.tup [str (Ex.un n x).rtxt,lit (.int .i64 (Ex.un n x).dep)]∧H=[(w,wT,wC bad false)]) noX:=by
 have hjl:j<ns.length:=(List.getElem?_eq_some_iff.1 hat).1
 have hcut:=flat_at (f:=ndx) (n:=19) ndx_len hat
 have hne:(ns.map ndx).flatten≠[]:=flat_ne ndx_len (by omega) (fun e=>by rw [e]at hjl;simp at hjl)
 have c0:=level_pu x.top
 change Pu _ _ _ (lit (.int .i64 (rk x.top)))at c0
 have c1:=wrap_pu x.rtxt x.dep (decide (rk x.top<3)) (by omega) (by omega) (by omega)
 have p1:=par_len (decide (rk x.top<3)) x.rtxt
 have e1:(Ex.un n x).rtxt=[126]++par (decide (rk x.top<3)) x.rtxt:=rfl
 have e2:((Ex.un n x).dep:Int)=(if decide (rk x.top<3)=true then(x.dep:Int)+1 else x.dep)+1:=by
  simp only [Ex.dep,decide_eq_true_eq]
  split <;> omega
 rw [e1,e2]
 generalize hs:par (decide (rk x.top<3)) x.rtxt=s at *
 generalize hdd:(if decide (rk x.top<3)=true then(x.dep:Int)+1 else x.dep)=dd at *
 have hdd':0≤dd∧dd≤1000000:=by rw [←hdd];split <;> omega
 have g1:([126]:List UInt8).length=1:=rfl
 clear e1 e2 hs hdd
 by_cases hr:rk x.top<3
 ·rw [decide_eq_true hr]at c1
  generalize rk x.top=r at *
  refine PuH.intro Tryz.func91 rfl (by kernel_rfl) fun C hC=>?_
  repeat(first|(refine AS ⟨?_⟩;intros)|(refine O1 ⟨?_⟩;intros))
  rename_i b6
  refine WdM [] [(b6,33,ndx n),(w,wT,wC bad false)] (fun _=>[]) ?_
  refine MkD 19 ?_
  repeat(refine A1 ⟨?_⟩;intros)
  refine Wdo (ov_idxS (cs':=[str x.rtxt]) (i:=0) rfl rfl (by omega) (by omega) rfl (by simp)) ?_
  repeat(refine A1 ⟨?_⟩;intros)
  refine Wdo (ov_idxS (cs':=[lit (.int .i64 x.dep)]) (i:=0) rfl rfl (by omega) (by omega) rfl (by simp)) ?_
  repeat(refine A1 ⟨?_⟩;intros)
  rw [hx]
  refine Wdo (ov_idxS (cs':=ndx x.top) rfl rfl (by omega) (by omega) hcut hne) ?_
  repeat(first|(refine A1 ⟨?_⟩;intros)|refine W4 c0 ⟨?_⟩|refine W4 c1 ⟨?_⟩)
  refine mkD0 ?_
  refine MkN ?_
  repeat(refine A1 ⟨?_⟩;intros)
  exact endHR _ _ (end2 (RV.tmp (s:=str _) rfl) (RV.tmp rfl) (Le.refl _)) (List.sublist_cons_self _ _) ⟨rfl,rfl⟩
 ·rw [decide_eq_false hr]at c1
  generalize rk x.top=r at *
  refine PuH.intro Tryz.func91 rfl (by kernel_rfl) fun C hC=>?_
  repeat(first|(refine AS ⟨?_⟩;intros)|(refine O1 ⟨?_⟩;intros))
  rename_i b6
  refine WdM [] [(b6,33,ndx n),(w,wT,wC bad false)] (fun _=>[]) ?_
  refine MkD 19 ?_
  repeat(refine A1 ⟨?_⟩;intros)
  refine Wdo (ov_idxS (cs':=[str x.rtxt]) (i:=0) rfl rfl (by omega) (by omega) rfl (by simp)) ?_
  repeat(refine A1 ⟨?_⟩;intros)
  refine Wdo (ov_idxS (cs':=[lit (.int .i64 x.dep)]) (i:=0) rfl rfl (by omega) (by omega) rfl (by simp)) ?_
  repeat(refine A1 ⟨?_⟩;intros)
  rw [hx]
  refine Wdo (ov_idxS (cs':=ndx x.top) rfl rfl (by omega) (by omega) hcut hne) ?_
  repeat(first|(refine A1 ⟨?_⟩;intros)|refine W4 c0 ⟨?_⟩|refine W4 c1 ⟨?_⟩)
  refine mkD0 ?_
  refine MkN ?_
  repeat(refine A1 ⟨?_⟩;intros)
  exact endHR _ _ (end2 (RV.tmp (s:=str _) rfl) (RV.tmp rfl) (Le.refl _)) (List.sublist_cons_self _ _) ⟨rfl,rfl⟩
def sgc (op:Int):List UInt8:=if op=1 then [43]else if op=2 then [42]else if op=3 then [45]else [94]
theorem sgn_c (op:Int):sgn op=[32]++sgc op++[32]:=by
 unfold sgn sgc
 split
 ·rfl
 split
 ·rfl
 split <;> rfl
abbrev sgcs:List SV:=[str [],str [43],str [42],str [45],str [94]]
theorem sgcs_at {op:Int}(h1:1≤op) (h4:op≤4):sgcs[op.toNat]? = some (str (sgc op)):=by
 have h:op=1∨op=2∨op=3∨op=4:=by omega
 rcases h with rfl|rfl|rfl|rfl <;> rfl
set_option maxHeartbeats 2000000 in
theorem rpart_bi {ns:List Nd}(hns:ns.length≤100000) (w:Nat) (n:Nd) (x y:Ex) (j k:Nat) (hk:n.k=6) (ho1:1≤n.op) (ho4:n.op≤4) (hx:n.x=j) (hy:n.y=k) (hat:ns[j]? = some x.top) (hat2:ns[k]? = some y.top)
  (hl:x.rtxt.length≤900000) (hl2:y.rtxt.length≤900000) (hd:x.dep≤900000) (hd2:y.dep≤900000) (bad:Bool) :
  PuH Tryz.prog 91 [lit (.pointer (some ⟨w,0,none⟩)),ag (ndx n),sl (ns.map ndx).flatten ns.length,sl [str x.rtxt,str y.rtxt] 2,sl [lit (.int .i64 x.dep),lit (.int .i64 y.dep)] 2] [(w,wT,wC bad false)]
   (fun r H=>r=Ab.tup [str (Ex.bi n x y).rtxt,lit (.int .i64 (Ex.bi n x y).dep)]∧H=[(w,wT,wC bad false)]) noX:=by
 have hjl:j<ns.length:=(List.getElem?_eq_some_iff.1 hat).1
 have hkl:k<ns.length:=(List.getElem?_eq_some_iff.1 hat2).1
 have hcut:=flat_at (f:=ndx) (n:=19) ndx_len hat
 have hcut2:=flat_at (f:=ndx) (n:=19) ndx_len hat2
 have hne:(ns.map ndx).flatten≠[]:=flat_ne ndx_len (by omega) (fun e=>by rw [e]at hjl;simp at hjl)
 have c0:=level_pu n
 change Pu _ _ _ (lit (.int .i64 (rk n)))at c0
 have c1:=level_pu x.top
 change Pu _ _ _ (lit (.int .i64 (rk x.top)))at c1
 have c2:=level_pu y.top
 change Pu _ _ _ (lit (.int .i64 (rk y.top)))at c2
 have c3:=wrap_pu x.rtxt x.dep (decide (rk x.top<rk n)) (by omega) (by omega) (by omega)
 have c4:=wrap_pu y.rtxt y.dep (decide (rk y.top<rk n+1)) (by omega) (by omega) (by omega)
 have p1:=par_len (decide (rk x.top<rk n)) x.rtxt
 have p2:=par_len (decide (rk y.top<rk n+1)) y.rtxt
 have hsg:=sgcs_at ho1 ho4
 have hsl:(sgc n.op).length=1:=by unfold sgc;split;rfl;split;rfl;split <;> rfl
 have e1:(Ex.bi n x y).rtxt=par (decide (rk x.top<rk n)) x.rtxt++[32]++sgc n.op++[32]++par (decide (rk y.top<rk n+1)) y.rtxt:=by
  show _++sgn n.op++_=_
  rw [sgn_c]
  simp only [List.append_assoc]
 have e2:((Ex.bi n x y).dep:Int)=(if(if decide (rk x.top<rk n)=true then(x.dep:Int)+1 else x.dep)<(if decide (rk y.top<rk n+1)=true then(y.dep:Int)+1 else y.dep)then(if decide (rk y.top<rk n+1)=true then(y.dep:Int)+1 else y.dep)else(if decide (rk x.top<rk n)=true then(x.dep:Int)+1 else x.dep)):=by
  simp only [Ex.dep,decide_eq_true_eq]
  split <;> split <;> split <;> omega
 rw [e1,e2]
 generalize hs1:par (decide (rk x.top<rk n)) x.rtxt=s1 at *
 generalize hs2:par (decide (rk y.top<rk n+1)) y.rtxt=s2 at *
 generalize hd1:(if decide (rk x.top<rk n)=true then(x.dep:Int)+1 else x.dep)=d1 at *
 generalize hdd2:(if decide (rk y.top<rk n+1)=true then(y.dep:Int)+1 else y.dep)=d2 at *
 generalize sgc n.op=sg at *
 have g1:(s1++[32]).length=s1.length+1:=by simp
 have g2:(s1++[32]++sg).length=s1.length+2:=by simp;omega
 have g3:(s1++[32]++sg++[32]).length=s1.length+3:=by simp;omega
 have g4:([32]:List UInt8).length=1:=rfl
 generalize hb1:decide (rk x.top<rk n)=b1 at *
 have hb2:decide (rk y.top<rk n+1)=decide (rk y.top≤rk n):=decide_eq_decide.2 (by omega)
 rw [hb2]at c4
 generalize hb3:decide (rk y.top≤rk n)=b2 at *
 have hlt:∀z:Bool,decide (rk x.top<rk n)=z→(z=true→rk x.top<rk n)∧(z=false→¬rk x.top<rk n):=fun z h=>by subst h;exact⟨of_decide_eq_true,of_decide_eq_false⟩
 have hle:∀z:Bool,decide (rk y.top≤rk n)=z→(z=true→rk y.top≤rk n)∧(z=false→¬rk y.top≤rk n):=fun z h=>by subst h;exact⟨of_decide_eq_true,of_decide_eq_false⟩
 replace hlt:=hlt _ hb1
 replace hle:=hle _ hb3
 clear e1 e2 hs1 hs2 hd1 hdd2 hb1 hb2 hb3
 generalize rk x.top=r1 at *
 generalize rk y.top=r2 at *
 generalize rk n=r at *
 refine PuH.intro Tryz.func91 rfl (by kernel_rfl) fun C hC=>?_
 repeat(first|(refine AS ⟨?_⟩;intros)|(refine O1 ⟨?_⟩;intros)|(refine Wcx (c0) ?_)|(refine Wcgx (c0) ?_))
 rename_i b6
 refine WP.via (fun F H=>LeF F (fm [(3,sl [str x.rtxt,str y.rtxt] 2),(4,sl [lit (.int .i64 x.dep),lit (.int .i64 y.dep)] 2),(2,sl (ns.map ndx).flatten ns.length),(6,lit (.pointer (some ⟨b6,0,none⟩))),(14,lit (.int .i64 r)),(15,str s1),(16,lit (.int .i64 d1))])∧H=[(b6,33,ndx n),(w,wT,wC bad false)]) ?_ ?_
 ·cases b1 with
  |true =>
   have hlt':=hlt.1 rfl
   clear hlt hle
   refine WdM [] [(b6,33,ndx n),(w,wT,wC bad false)] (fun _=>[]) ?_
   refine MkD 20 ?_
   repeat(refine A1 ⟨?_⟩;intros)
   refine Wdo (ov_idxS (cs':=[str x.rtxt]) (i:=0) rfl rfl (by omega) (by omega) rfl (by simp)) ?_
   repeat(refine A1 ⟨?_⟩;intros)
   refine Wdo (ov_idxS (cs':=[lit (.int .i64 x.dep)]) (i:=0) rfl rfl (by omega) (by omega) rfl (by simp)) ?_
   repeat(refine A1 ⟨?_⟩;intros)
   rw [hx]
   refine Wdo (ov_idxS (cs':=ndx x.top) rfl rfl (by omega) (by omega) hcut hne) ?_
   repeat(first|(refine A1 ⟨?_⟩;intros)|refine W4 c1 ⟨?_⟩|refine W4 c3 ⟨?_⟩)
   refine mkD0 ?_
   refine MkN ?_
   refine thenN ?_
   exact⟨lfA,rfl⟩
  |false =>
   have hlt':=hlt.2 rfl
   clear hlt hle
   refine WdM [] [(b6,33,ndx n),(w,wT,wC bad false)] (fun _=>[]) ?_
   refine MkD 20 ?_
   repeat(refine A1 ⟨?_⟩;intros)
   refine Wdo (ov_idxS (cs':=[str x.rtxt]) (i:=0) rfl rfl (by omega) (by omega) rfl (by simp)) ?_
   repeat(refine A1 ⟨?_⟩;intros)
   refine Wdo (ov_idxS (cs':=[lit (.int .i64 x.dep)]) (i:=0) rfl rfl (by omega) (by omega) rfl (by simp)) ?_
   repeat(refine A1 ⟨?_⟩;intros)
   rw [hx]
   refine Wdo (ov_idxS (cs':=ndx x.top) rfl rfl (by omega) (by omega) hcut hne) ?_
   repeat(first|(refine A1 ⟨?_⟩;intros)|refine W4 c1 ⟨?_⟩|refine W4 c3 ⟨?_⟩)
   refine mkD0 ?_
   refine MkN ?_
   refine thenN ?_
   exact⟨lfA,rfl⟩
 rintro F H ⟨hF,rfl⟩
 refine WP.le hF ?_
 clear hF hlt c1 c3
 refine WP.seq' ?_
 refine WP.via (fun F H=>LeF F (fm [(6,lit (.pointer (some ⟨b6,0,none⟩))),(15,str s1),(16,lit (.int .i64 d1)),(17,str s2),(18,lit (.int .i64 d2))])∧H=[(b6,33,ndx n),(w,wT,wC bad false)]) ?_ ?_
 ·cases b2 with
  |true =>
   have hle':=hle.1 rfl
   clear hle
   refine WdM [] [(b6,33,ndx n),(w,wT,wC bad false)] (fun _=>[]) ?_
   refine MkD 20 ?_
   repeat(refine A1 ⟨?_⟩;intros)
   refine Wdo (ov_idxS (cs':=[str y.rtxt]) (i:=1) rfl rfl (by omega) (by omega) rfl (by simp)) ?_
   repeat(refine A1 ⟨?_⟩;intros)
   refine Wdo (ov_idxS (cs':=[lit (.int .i64 y.dep)]) (i:=1) rfl rfl (by omega) (by omega) rfl (by simp)) ?_
   repeat(refine A1 ⟨?_⟩;intros)
   rw [hy]
   refine Wdo (ov_idxS (cs':=ndx y.top) rfl rfl (by omega) (by omega) hcut2 hne) ?_
   repeat(first|(refine A1 ⟨?_⟩;intros)|refine W4 c2 ⟨?_⟩|refine W4 c4 ⟨?_⟩)
   refine mkD0 ?_
   refine MkN ?_
   refine thenN ?_
   exact⟨lfA,rfl⟩
  |false =>
   have hle':=hle.2 rfl
   clear hle
   refine WdM [] [(b6,33,ndx n),(w,wT,wC bad false)] (fun _=>[]) ?_
   refine MkD 20 ?_
   repeat(refine A1 ⟨?_⟩;intros)
   refine Wdo (ov_idxS (cs':=[str y.rtxt]) (i:=1) rfl rfl (by omega) (by omega) rfl (by simp)) ?_
   repeat(refine A1 ⟨?_⟩;intros)
   refine Wdo (ov_idxS (cs':=[lit (.int .i64 y.dep)]) (i:=1) rfl rfl (by omega) (by omega) rfl (by simp)) ?_
   repeat(refine A1 ⟨?_⟩;intros)
   rw [hy]
   refine Wdo (ov_idxS (cs':=ndx y.top) rfl rfl (by omega) (by omega) hcut2 hne) ?_
   repeat(first|(refine A1 ⟨?_⟩;intros)|refine W4 c2 ⟨?_⟩|refine W4 c4 ⟨?_⟩)
   refine mkD0 ?_
   refine MkN ?_
   refine thenN ?_
   exact⟨lfA,rfl⟩
 rintro F H ⟨hF,rfl⟩
 refine WP.le hF ?_
 clear hF hle c2 c4 c0
 repeat(refine A1 ⟨?_⟩;intros)
 refine Wo (ov_loadL rfl mmA (by rw [Nat.mul_one];exact hsg)) ?_
 repeat(refine A1 ⟨?_⟩;intros)
 refine Wo (ov_max rfl rfl rfl) ?_
 repeat(refine A1 ⟨?_⟩;intros)
 exact endHR _ _ (end2 (RV.tmp (s:=str _) rfl) (RV.tmp rfl) (Le.refl _)) (List.Sublist.cons _ (List.sublist_cons_self _ _)) ⟨rfl,rfl⟩
theorem okN_k {n:Nd}(h:okN n=true):(1≤n.k∧n.k≤6)∧(n.k=6→1≤n.op∧n.op≤4):=by
 unfold okN at h
 simp only [Bool.and_eq_true,Bool.or_eq_true,decide_eq_true_eq]at h
 obtain⟨⟨⟨⟨⟨h1,_⟩,_⟩,h2⟩,_⟩,_⟩:=h
 refine⟨h1,fun hk=>?_⟩
 rcases h2 with h2|h2
 ·exact⟨h2.1.2,h2.2⟩
 ·exact absurd hk h2.1
def Trees (ns:List Nd) (ss:List Nat):Prop:=∀j,j<ss.length→∃t:Ex,t.At ns j∧t.size=ss.getD j 0
theorem step1_trees {ns:List Nd}{ss:List Nat}{n:Nd}{s:Nat}(hat:ns[ss.length]? = some n) (h:step1 ss n=some s) (hT:Trees ns ss):∃t:Ex,t.At ns ss.length∧t.size=s:=by
 unfold step1 at h
 by_cases e:okN n=true
 ·rw [if_pos e]at h
  obtain⟨hk,ho⟩:=okN_k e
  by_cases k5:n.k=5
  ·rw [if_pos k5]at h
   by_cases hc:0<ss.length∧n.x=(ss.length:Int)-1
   ·rw [if_pos hc]at h
    obtain⟨x,hx,hs⟩:=hT (ss.length-1) (by omega)
    refine⟨.un n x,⟨hat,k5,ss.length-1,by omega,hx⟩,?_⟩
    simp only [Ex.size,hs]
    exact Option.some.inj h
   ·rw [if_neg hc]at h;cases h
  ·rw [if_neg k5]at h
   by_cases k6:n.k=6
   ·rw [if_pos k6]at h
    generalize hs1:ss.getD (ss.length-1) 0=s1 at h
    by_cases hc:(0<ss.length∧n.y=(ss.length:Int)-1)∧s1+1≤ss.length∧n.x=(ss.length:Int)-1-(s1:Nat)
    ·rw [if_pos hc]at h
     obtain⟨⟨c1,c2⟩,c3,c4⟩:=hc
     obtain⟨y,hy,hsy⟩:=hT (ss.length-1) (by omega)
     obtain⟨x,hx,hsx⟩:=hT (ss.length-1-s1) (by omega)
     refine⟨.bi n x y,⟨hat,k6,ho k6,ss.length-1-s1,ss.length-1,by omega,by omega,hx,hy⟩,?_⟩
     have:=Option.some.inj h
     simp only [Ex.size,hsx,hsy,hs1]
     omega
    ·rw [if_neg hc]at h;cases h
   ·rw [if_neg k6]at h
    exact⟨.leaf n,⟨hat,hk.1,by omega⟩,Option.some.inj h⟩
 ·rw [if_neg e]at h;cases h
theorem sizes_trees {ns:List Nd}:∀(rest:List Nd) (ss out:List Nat),ns.drop ss.length=rest→ss.length≤ns.length→sizes rest ss=some out→Trees ns ss→Trees ns out∧out.length=ns.length
 | [],ss,out,hd,hl,h,hT=>by
  unfold sizes at h
  obtain rfl:=Option.some.inj h
  refine⟨hT,?_⟩
  have:=congrArg List.length hd
  simp at this
  omega
 |n::rest,ss,out,hd,hl,h,hT=>by
  rw [sizes_cons]at h
  have hat:ns[ss.length]? = some n:=by
   have:=congrArg (·[0]?) hd
   simpa using this
  have hlt:ss.length<ns.length:=(List.getElem?_eq_some_iff.1 hat).1
  cases hs:step1 ss n with
  |none=>rw [hs]at h;cases h
  |some s =>
   rw [hs]at h
   obtain⟨t,ht,hts⟩:=step1_trees hat hs hT
   refine sizes_trees rest (ss++[s]) out ?_ (by simp;omega) h ?_
   ·rw [List.length_append,List.length_singleton]
    have:=drop_cons hat
    rw [hd]at this
    exact((List.cons.inj this).2).symm
   ·intro j hj
    simp only [List.length_append,List.length_singleton]at hj
    by_cases hjl:j<ss.length
    ·obtain⟨t',h1,h2⟩:=hT j hjl
     refine⟨t',h1,?_⟩
     rw [h2];simp [List.getD,List.getElem?_append_left hjl]
    ·have:j=ss.length:=by omega
     subst this
     exact⟨t,ht,by rw [hts];simp [List.getD]⟩
theorem okL_tree {ns:List Nd}(h:okL ns=true):0<ns.length∧∃t:Ex,t.At ns (ns.length-1)∧t.size=ns.length:=by
 unfold okL at h
 cases hs:sizes ns []with
 |none=>rw [hs]at h;cases h
 |some out =>
  rw [hs]at h
  simp only [Bool.and_eq_true,decide_eq_true_eq]at h
  obtain⟨hT,hl⟩:=sizes_trees ns [] out rfl (Nat.zero_le _) hs (fun j hj=>by simp at hj)
  obtain⟨t,h1,h2⟩:=hT (ns.length-1) (by omega)
  exact⟨h.1,t,h1,by rw [h2];exact h.2⟩
theorem expr_f {ns:List Nd}{L w d:Nat}{l:List UInt8}{H:LH}(hok:∀n∈ns,n.ok L) (hL:L≤200) (hns:ns.length≤100000) (h:Wtr w l d H) (hf:okL ns=false) :
  PuH Tryz.prog 97 [lit (.pointer (some ⟨w,0,none⟩)),sl (ns.map ndx).flatten ns.length] H (fun _ _=>False) (fun pv _=>pv=inval):=by
 refine PuH.intro Tryz.func97 rfl (by kernel_rfl) fun C hC=>?_
 repeat(refine A1 ⟨?_⟩;intros)
 refine WfX (checkList_pu ns hok (by omega) hns) ?_ ?_
 ·rintro _ _ ⟨e,_⟩
  rw [hf]at e;cases e
 ·rintro _ _ ⟨_,rfl⟩
  rw [hC]
theorem expr_t {ns:List Nd}{L w d:Nat}{l:List UInt8}{H:LH}(hok:∀n∈ns,n.ok L) (hL:L≤200) (hns:ns.length≤100000) (h:Wtr w l d H) (ht:okL ns=true){t:Ex}(hat:t.At ns (ns.length-1)) (hsz:t.size=ns.length) (hdp:t.dep≤200) (hl:l.length+t.txt.length≤70000000) :
  PuH Tryz.prog 97 [lit (.pointer (some ⟨w,0,none⟩)),sl (ns.map ndx).flatten ns.length] H (fun r H'=>t.good=true∧r=Ab.tup []∧Wtr w (l++t.txt) 0 H') (fun pv _=>t.good=false∧pv=inval):=by
 have hpos:=(okL_tree ht).1
 have hp:=part_pu hok hL (by omega) w t _ hat
 obtain⟨a,s,Hb,ha,hb,rfl⟩:=h
 have c:=hp 0 l _ ⟨a,s,Hb,ha,hb,rfl⟩ (by omega) (by omega)
 refine PuH.intro Tryz.func97 rfl (by kernel_rfl) fun C hC=>?_
 repeat(refine A1 ⟨?_⟩;intros)
 refine WfX (checkList_pu ns hok (by omega) (by omega)) ?_ ?_
 ·rintro _ _ ⟨_,rfl,rfl⟩
  simp only [List.cons_append,List.nil_append,List.append_nil]
  repeat(refine A1 ⟨?_⟩;intros)
  rw [show((ns.length:Int)-1)=((ns.length-1:Nat):Int) by omega]
  refine WfX c ?_ ?_
  ·rintro _ _ ⟨g,rfl,h'⟩
   simp only [List.cons_append,List.nil_append]
   repeat(refine A1 ⟨?_⟩;intros)
   exact endHN _ _ end0 (List.Sublist.refl _) ⟨g,rfl,h'⟩
  ·rintro _ _ ⟨g,rfl⟩
   rw [hC]
   exact⟨g,rfl⟩
 ·rintro _ _ ⟨e,_⟩
  rw [ht]at e;cases e
def stp (i:Nat) (n:Nd) (st:List (Ex×Nat)):Option (List (Ex×Nat)) :=
 if okN n=true then
  if n.k=5 then(match st with
   |(x,j)::r=>if n.x=(j:Nat)then some ((.un n x,i)::r)else none
   | []=>none)
  else if n.k=6 then(match st with
   |(y,k)::(x,j)::r=>if n.x=(j:Nat)∧n.y=(k:Nat)then some ((.bi n x y,i)::r)else none
   |_=>none)
  else some ((.leaf n,i)::st)
 else none
def stk:List Nd→Nat→List (Ex×Nat)→Option (List (Ex×Nat))
 | [],_,st=>some st
 |n::ns,i,st=>match stp i n st with
  |some st'=>stk ns (i+1) st'
  |none=>none
theorem stk_cons (n:Nd) (ns:List Nd) (i:Nat) (st:List (Ex×Nat)):stk (n::ns) i st=match stp i n st with
  |some st'=>stk ns (i+1) st'
  |none=>none:=rfl
inductive Sk (ns:List Nd) (ss:List Nat):Nat→List (Ex×Nat)→Prop
 |nil:Sk ns ss 0 []
 |cons {i:Nat}{t:Ex}{st:List (Ex×Nat)}(h1:t.At ns i) (h2:t.size=ss.getD i 0) (h3:t.size≤i+1) (h:Sk ns ss (i+1-t.size) st):Sk ns ss (i+1) ((t,i)::st)
theorem Sk.more {ns:List Nd}{ss:List Nat}{i s:Nat}{st:List (Ex×Nat)}(h:Sk ns ss i st):i≤ss.length→Sk ns (ss++[s]) i st:=by
 induction h with
 |nil=>exact fun _ => .nil
 | @cons i t st h1 h2 h3 _ ih =>
  intro hi
  refine .cons h1 ?_ h3 (ih (by have:=t.size_pos;omega))
  rw [h2]
  simp [List.getD,List.getElem?_append_left (show i<ss.length by omega)]
theorem Sk.all {ns:List Nd}{ss:List Nat}{i:Nat}{st:List (Ex×Nat)}(h:Sk ns ss i st):∀e∈st,e.1.At ns e.2∧e.1.size≤i∧e.2<i:=by
 induction h with
 |nil=>intro e he;cases he
 | @cons i t st h1 h2 h3 _ ih =>
  intro e he
  have:=t.size_pos
  rcases List.mem_cons.1 he with rfl|he
  ·exact⟨h1,h3,Nat.lt_succ_self _⟩
  ·obtain⟨a,b,c⟩:=ih e he
   exact⟨a,by omega,by omega⟩
theorem Sk.len {ns:List Nd}{ss:List Nat}{i:Nat}{st:List (Ex×Nat)}(h:Sk ns ss i st):st.length≤i:=by
 induction h with
 |nil=>exact Nat.le_refl _
 | @cons i t st h1 h2 h3 _ ih =>
  have:=t.size_pos
  simp only [List.length_cons];omega
theorem getD_snoc (ss:List Nat) (s:Nat):(ss++[s]).getD ss.length 0=s:=by simp [List.getD]
theorem stp_step {ns:List Nd}{ss:List Nat}{n:Nd}{st:List (Ex×Nat)}(hat:ns[ss.length]? = some n) (h:Sk ns ss ss.length st) :
  match stp ss.length n st with
  |some st'=>∃s,step1 ss n=some s∧Sk ns (ss++[s]) (ss.length+1) st'
  |none=>step1 ss n=none:=by
 generalize hi:ss.length=i at *
 unfold stp step1
 rw [hi]
 by_cases e:okN n=true
 ·rw [if_pos e,if_pos e]
  obtain⟨hk,ho⟩:=okN_k e
  by_cases k5:n.k=5
  ·rw [if_pos k5,if_pos k5]
   cases h with
   |nil=>simp only;rw [if_neg (by omega)]
   | @cons j t st' h1 h2 h3 h4 =>
    simp only [Nat.add_sub_cancel]
    by_cases hx:n.x=(j:Nat)
    ·rw [if_pos hx,if_pos (by omega)]
     refine⟨_,rfl, .cons ⟨hat,k5,j,hx,h1⟩ ?_ ?_ ?_⟩
     ·rw [←hi,getD_snoc];simp only [Ex.size];omega
     ·simp only [Ex.size];omega
     ·have:=(Sk.more (s:=1+ss.getD j 0) h4 (by omega))
      simp only [Ex.size]
      rw [show j+1+1-(1+t.size)=j+1-t.size by omega]
      exact this
    ·rw [if_neg hx,if_neg (by omega)]
  ·rw [if_neg k5,if_neg k5]
   by_cases k6:n.k=6
   ·rw [if_pos k6,if_pos k6]
    cases h with
    |nil=>simp only;rw [if_neg (by omega)]
    | @cons k y st' h1 h2 h3 h4 =>
     simp only [Nat.add_sub_cancel]
     rw [←h2]
     have hy1:=y.size_pos
     generalize hm:k+1-y.size=m at h4
     cases h4 with
     |nil=>simp only;rw [if_neg (by omega)]
     | @cons j x r g1 g2 g3 g4 =>
      simp only
      have hj:k-y.size=j:=by omega
      rw [hj,←g2]
      by_cases hx:n.x=(j:Nat)∧n.y=(k:Nat)
      ·rw [if_pos hx,if_pos (by omega)]
       refine⟨_,rfl, .cons ⟨hat,k6,ho k6,j,k,hx.1,hx.2,g1,h1⟩ ?_ ?_ ?_⟩
       ·rw [←hi,getD_snoc];simp only [Ex.size];omega
       ·simp only [Ex.size];omega
       ·have:=(Sk.more (s:=1+y.size+x.size) g4 (by omega))
        simp only [Ex.size]
        rw [show k+1+1-(1+x.size+y.size)=j+1-x.size by omega]
        exact this
      ·rw [if_neg hx,if_neg (by omega)]
   ·rw [if_neg k6,if_neg k6]
    refine⟨1,rfl, .cons ⟨hat,hk.1,by omega⟩ ?_ ?_ ?_⟩
    ·rw [←hi,getD_snoc];rfl
    ·simp only [Ex.size];omega
    ·have:=(Sk.more (s:=1) h (by omega))
     simpa [Ex.size] using this
 ·rw [if_neg e,if_neg e]
theorem stk_sizes {ns:List Nd}:∀(rest:List Nd) (ss:List Nat) (st:List (Ex×Nat)),ns.drop ss.length=rest→ss.length≤ns.length→Sk ns ss ss.length st→
  match stk rest ss.length st with
  |some st'=>∃out,sizes rest ss=some out∧out.length=ns.length∧Sk ns out ns.length st'
  |none=>sizes rest ss=none
 | [],ss,st,hd,hl,h=>by
  have hlen:ss.length=ns.length:=by
   have:=congrArg List.length hd
   simp at this
   omega
  unfold stk sizes
  exact⟨ss,rfl,hlen,hlen▸h⟩
 |n::rest,ss,st,hd,hl,h=>by
  rw [stk_cons,sizes_cons]
  have hat:ns[ss.length]? = some n:=by
   have:=congrArg (·[0]?) hd
   simpa using this
  have hlt:ss.length<ns.length:=(List.getElem?_eq_some_iff.1 hat).1
  have hs:=stp_step hat h
  cases hst:stp ss.length n st with
  |none=>rw [hst]at hs;simp only at hs⊢;rw [hs]
  |some st' =>
   rw [hst]at hs
   obtain⟨s,hs1,hs2⟩:=hs
   simp only
   rw [hs1]
   have hrec:=stk_sizes rest (ss++[s]) st' (by
    rw [List.length_append,List.length_singleton]
    have:=drop_cons hat
    rw [hd]at this
    exact((List.cons.inj this).2).symm) (by simp;omega) (by rw [List.length_append,List.length_singleton];exact hs2)
   rw [List.length_append,List.length_singleton]at hrec
   exact hrec
theorem stk_okL (ns:List Nd):match stk ns 0 []with
  |some st=>okL ns=decide (st.length=1)∧∀t j r,st=(t,j)::r→t.At ns j∧(r=[]→j=ns.length-1∧t.size=ns.length)
  |none=>okL ns=false:=by
 have h:=stk_sizes (ns:=ns) ns [] [] rfl (Nat.zero_le _) .nil
 simp only [List.length_nil]at h
 cases hst:stk ns 0 []with
 |none =>
  rw [hst]at h
  exact okL_none h
 |some st =>
  rw [hst]at h
  obtain⟨out,h1,h2,h3⟩:=h
  simp only
  unfold okL
  rw [h1]
  simp only
  generalize hN:ns.length=N at *
  cases h3 with
  |nil=>exact⟨rfl,fun _ _ _ h=>by cases h⟩
  | @cons i t st' g1 g2 g3 g4 =>
   simp only [Nat.add_sub_cancel]
   rw [←g2]
   have hp:=t.size_pos
   generalize hm:i+1-t.size=m at g4
   cases g4 with
   |nil =>
    refine⟨by simp;omega,fun t' j r he=>?_⟩
    cases he
    exact⟨g1,fun _=>⟨rfl,by omega⟩⟩
   | @cons i' t' st'' q1 q2 q3 q4 =>
    refine⟨by simp;omega,fun t' j r he=>?_⟩
    cases he
    exact⟨g1,fun hr=>by cases hr⟩
def stGood (st:List (Ex×Nat)):Bool:=st.all (·.1.good)
def stxt (st:List (Ex×Nat)):List SV:=(st.map fun e=>str e.1.rtxt).reverse
def sdep (st:List (Ex×Nat)):List SV:=(st.map fun e=>lit (.int .i64 (e.1.dep:Nat))).reverse
def stop (st:List (Ex×Nat)):List SV:=(st.map fun e=>lit (.int .i64 (e.2:Nat))).reverse
theorem stxt_cons (e:Ex×Nat) (r:List (Ex×Nat)):stxt (e::r)=stxt r++[str e.1.rtxt]:=by simp [stxt]
theorem sdep_cons (e:Ex×Nat) (r:List (Ex×Nat)):sdep (e::r)=sdep r++[lit (.int .i64 (e.1.dep:Nat))]:=by simp [sdep]
theorem stop_cons (e:Ex×Nat) (r:List (Ex×Nat)):stop (e::r)=stop r++[lit (.int .i64 (e.2:Nat))]:=by simp [stop]
theorem stxt_len (st:List (Ex×Nat)):(stxt st).length=st.length:=by simp [stxt]
theorem sdep_len (st:List (Ex×Nat)):(sdep st).length=st.length:=by simp [sdep]
theorem stop_len (st:List (Ex×Nat)):(stop st).length=st.length:=by simp [stop]
abbrev maxI:Nat:=9223372036854775807
def bnd (m n:Nat):Nat:=min (m+(m+1)*n) maxI
def bstep (env:List UInt8→Option Nat) (n:Nd) (st:List Nat):Option (Nat×List Nat) :=
 if n.k=1 then(match env n.nm with
  |some v=>some (v,st)
  |none=>none)
 else if n.k=4 then some (1,st)
 else if n.k=5 then(match st with
  |a::r=>some (a,r)
  | []=>none)
 else if n.k=6 then(match st with
  |b::a::r=>some (bnd a b,r)
  |_=>none)
 else some (0,st)
def brun (env:List UInt8→Option Nat):List Nd→List Nat→List Nat→Option (List Nat)
 | [],_,out=>some out
 |n::ns,st,out=>match bstep env n st with
  |some (v,r)=>brun env ns (v::r) (out++[v])
  |none=>none
inductive BS (out:List Nat):List (Ex×Nat)→List Nat→Prop
 |nil:BS out [] []
 |cons {x:Ex}{j v:Nat}{st:List (Ex×Nat)}{vs:List Nat}(h:out[j]? = some v) (k:BS out st vs):BS out ((x,j)::st) (v::vs)
theorem BS.more {out:List Nat}{st:List (Ex×Nat)}{vs:List Nat}(h:BS out st vs) (v:Nat):BS (out++[v]) st vs:=by
 induction h with
 |nil=>exact .nil
 |cons h _ ih=>exact .cons (by rw [List.getElem?_append_left (List.getElem?_eq_some_iff.1 h).1];exact h) ih
theorem BS.len {out:List Nat}{st:List (Ex×Nat)}{vs:List Nat}(h:BS out st vs):vs.length=st.length:=by
 induction h with
 |nil=>rfl
 |cons _ _ ih=>simp [ih]
def LeS:List Nat→List Nat→Prop
 | [],[]=>True
 |a::l,b::m=>a≤b∧LeS l m
 |_,_=>False
theorem LeS.getD:∀{l m:List Nat}(k:Nat),LeS l m→l.getD k 0≤m.getD k 0
 | [],[],_,_=>Nat.le_refl _
 |_::_,_::_,0,h=>h.1
 |_::_,_::_,k+1,h=>LeS.getD k h.2
 | [],_::_,_,h=>h.elim
 |_::_,[],_,h=>h.elim
def fpos (l:List (List UInt8)) (s:List UInt8):Int:=match l.findIdx? (fun x=>decide (x=s))with
 |some i=>(i:Int)
 |none => -1
theorem fpos_at {l:List (List UInt8)}{s:List UInt8}{k:Nat}(hk:k<l.length) (h:∀j,j<k→l[j]?≠some s) (he:l[k]? = some s):fpos l s=k:=by
 have:l.findIdx? (fun x=>decide (x=s))=some k:=by
  rw [List.findIdx?_eq_some_iff_getElem]
  refine⟨hk,?_,fun j hj=>?_⟩
  ·rw [List.getElem?_eq_getElem hk]at he
   simpa using he
  ·have:=h j hj
   rw [List.getElem?_eq_getElem (by omega)]at this
   simpa using this
 unfold fpos;rw [this]
theorem fpos_none {l:List (List UInt8)}{s:List UInt8}(h:∀j,j<l.length→l[j]?≠some s):fpos l s = -1:=by
 have:l.findIdx? (fun x=>decide (x=s))=none:=by
  rw [List.findIdx?_eq_none_iff]
  intro x hx
  obtain⟨j,hj⟩:=List.mem_iff_getElem?.1 hx
  have:=h j (List.getElem?_eq_some_iff.1 hj).1
  rw [hj]at this
  simpa using this
 unfold fpos;rw [this]
theorem fpos_lt (l:List (List UInt8)) (s:List UInt8):fpos l s<0∧fpos l s = -1∨∃i:Nat,fpos l s=i∧i<l.length:=by
 unfold fpos
 cases h:l.findIdx? (fun x=>decide (x=s))with
 |none=>exact .inl ⟨by decide,rfl⟩
 |some i =>
  rw [List.findIdx?_eq_some_iff_getElem]at h
  exact .inr ⟨i,rfl,h.1⟩
theorem strs_at {l:List (List UInt8)}{k:Nat}{s:List UInt8}(h:l[k]? = some s):((l.map str).drop (((k:Nat):Int).toNat*1)).take 1=[str s]:=by
 obtain⟨hk,rfl⟩:=List.getElem?_eq_some_iff.1 h
 rw [Int.toNat_natCast,Nat.mul_one,List.drop_eq_getElem_cons (by simpa using hk)]
 simp
theorem index_pu (l:List (List UInt8)) (s:List UInt8) (hl:l.length≤1000000000):Pu Tryz.prog 102 [sl (l.map str) l.length,str s] (lit (.int .i64 (fpos l s))):=by
 refine Pu.intro Tryz.func102 rfl (by kernel_rfl) fun C=>?_
 repeat(refine A1 ⟨?_⟩;intros)
 refine WP.loop (ι:=Nat) (fun k=>k≤l.length∧∀j,j<k→l[j]?≠some s) (fun k=>l.length-k)
  (fun k=>fm [(0,sl (l.map str) l.length),(1,str s),(7,lit (.int .i64 l.length)),(8,lit (.int .i64 k))]) (fun _=>[]) 0 ⟨Nat.zero_le _,fun j hj=>by omega⟩ lfA rfl ?_
 rintro k ⟨hk,hall⟩ K hK
 by_cases hkl:k<l.length
 ·have hget:=List.getElem?_eq_getElem hkl
  have hat:=strs_at hget
  have hne:l.map str≠[]:=fun e=>by rw [List.map_eq_nil_iff]at e;rw [e]at hkl;simp at hkl
  by_cases he:l[k]=s
  ·have hf:=fpos_at hkl hall (by rw [hget,he])
   rw [hf]
   rw [he]at hat
   clear hK hall
   repeat(refine A1 ⟨?_⟩;intros)
   refine Wo (ov_idxS rfl rfl (by omega) (by omega) hat hne) ?_
   repeat(refine A1 ⟨?_⟩;intros)
   refine Wo (ov_seql (r:=true) rfl rfl (decide_eq_true rfl)) ?_
   repeat(refine A1 ⟨?_⟩;intros)
   exact E1
  ·have hgo:=fun F' H' (h:LeF F' (fm [(0,sl (l.map str) l.length),(1,str s),(7,lit (.int .i64 l.length)),(8,lit (.int .i64 (k+1:Nat)))])) (h2:H'=[])=>hK F' H' (k+1) ⟨by omega,fun j hj=>by
    rcases Nat.lt_succ_iff_lt_or_eq.1 hj with h|rfl
    ·exact hall j h
    ·rw [hget];simpa using he⟩ (by omega) h h2
   generalize l[k]=x at *
   clear hK hall
   repeat(refine A1 ⟨?_⟩;intros)
   refine Wo (ov_idxS rfl rfl (by omega) (by omega) hat hne) ?_
   repeat(refine A1 ⟨?_⟩;intros)
   refine Wo (ov_seql (r:=false) rfl rfl (decide_eq_false (fun e=>he e.symm))) ?_
   repeat(refine A1 ⟨?_⟩;intros)
   exact hgo _ _ lfA rfl
 ·obtain rfl:k=l.length:=by omega
  rw [fpos_none hall]
  clear hK hall
  repeat(refine A1 ⟨?_⟩;intros)
  exact E1
theorem getD_cell {w:World}{b:Nat}{T:TypeId}{arr:Array Value}{l:List UInt8}{rest:List SV}{m:Mem}(hb:w.heap[b]? = some (.cells arr T (0,0))) (hall:All2 m (bys l++rest) arr.toList) (j:Nat) (y:UInt8) (hj:l[j]? = some y):w.cell? ((⟨b,0,none⟩:Addr).add j)=some (.int .u8 y.toNat):=by
 rw [add_none,cell_of w b _ arr _ _ hb]
 have hjl:j<l.length:=(List.getElem?_eq_some_iff.1 hj).1
 have hg:(bys l++rest)[j]? = some (lit (.int .u8 (y.toNat:Nat))):=by
  rw [List.getElem?_append_left (by rw [bys_len];exact hjl)]
  simp [bys,hj]
 obtain⟨v,hv,hp,_⟩:=hall.get hg
 rw [lit_p]at hp
 subst hp
 simpa using hv
section
variable {P:Program}{C:Ctx}{n:Nat}{F:Fr}{H:LH}{ops:Array Oper}{K:Fr→LH→Prop}{rest:List Oper}{ty:TypeId}{pos:String}{aft:Array Edge}
theorem freeze_other (w:World) (b n k:Nat) (h:k≠b):(w.freeze ⟨b,0,none⟩ n).heap[k]? = w.heap[k]?:=by
 unfold World.freeze
 split
 ·rfl
 ·simp only [Array.getElem?_modify];rw [if_neg (fun e=>h e.symm)]
theorem WPL.unsafeStr {d:Nat}{x y:Operand}{pt it e:TypeId}{g:Nat}{l:List UInt8}{more:List SV}{H':LH}(hp:P.underlying pt=some (.pointer e)) (hc:P.cellsOf e=1) (hx:ev F x=lit (.pointer (some ⟨g,0,none⟩))) (hy:ev F y=lit (.int .i64 l.length)) (hl:l≠[]) (hl2:l.length≤9223372036854775807)
  (hdel:HDel g e (bys l++more) H H') (k:WPL P C n ops rest K (upd F d (str l)) H') (hd:Nat.blt d n=true) :
  WPL P C n ops (⟨some d, .call ⟨.builtin .unsafeString,#[x,y],#[pt,it]⟩,ty,pos,aft,none⟩::rest) K F H:=by
 unfold WPL
 intro a w hs Q hq
 refine wpList_plain rfl fun K' hK'=>?_
 have hs':=hs.drop hdel
 obtain⟨hdef,hn,m,h1,h2,h3,h4,h5⟩:=hs
 have hpp:∀x,(ev F x).p m (a.eval x):=fun x=>by
  cases x with
  |tmp t=>exact h5 t
  |const v=>unfold ev lit;rfl
  |global g=>unfold ev lit;rfl
  |func f=>unfold ev lit;rfl
 have e0:=hpp x;rw [hx,lit_p]at e0
 have e1:=hpp y;rw [hy,lit_p]at e1
 obtain⟨hmb,arr,hb,hall⟩:=h2.2 _ hdel.mem
 have hlen:=hall.length
 simp only [List.length_append,bys_len,Array.length_toList]at hlen
 have hsh:w.shape? g=some (e,arr.size):=by simp [World.shape?,hb]
 have hrun:=Lib.run_unsafeString_row (P:=P) (w:=w) pt it ty e hp hc g arr.size hsh l hl (by omega) hl2 (fun j y hj=>getD_cell hb hall j y hj)
 unfold Oper.wp
 have hexec:execOp a.eval (⟨some d, .call ⟨.builtin .unsafeString,#[x,y],#[pt,it]⟩,ty,pos,aft,none⟩:Oper)=(do let v←Builtin.unsafeString_ #[pt,it] ty #[a.eval x,a.eval y];pure (.value v)):=by
  simp [execOp,resolve,invoke,builtin]
 rw [hexec,e0,e1]
 simp only [Sem.run_bind,hrun,Result.andThen_ok,Sem.run_pure]
 unfold WPL at k
 have hkeys:=hdel.keys h2.1
 refine hK' _ _ (k (a.put (some d) (.string ⟨l.toArray⟩)) _ ⟨hdef,by simpa [Act.put] using hn,m,?_,?_,?_,fun e he=>h4 e (hdel.sub e he),fun t=>?_⟩ Q hq)
 ·exact⟨fun j o hj=>by rw [freeze_other _ _ _ _ (fun e=>by rw [e,hmb]at hj;cases hj)];exact h1 j o hj,h1.base⟩
 ·refine⟨hkeys.1,fun e he=>?_⟩
  obtain⟨q1,arr',q2,q3⟩:=h2.2 e (hdel.sub e he)
  exact⟨q1,arr',by rw [freeze_other _ _ _ _ (hkeys.2 e he)];exact q2,q3⟩
 ·have hz:(w.freeze ⟨g,0,none⟩ l.length).heap.size=w.heap.size:=by unfold World.freeze;split <;> simp
  have ho:(w.freeze ⟨g,0,none⟩ l.length).os=w.os∧(w.freeze ⟨g,0,none⟩ l.length).tape=w.tape∧(w.freeze ⟨g,0,none⟩ l.length).output=w.output:=by unfold World.freeze;split <;> exact⟨rfl,rfl,rfl⟩
  refine⟨h3.le,h3.old,ho.1.trans h3.os,ho.2.1.trans h3.tape,ho.2.2.trans h3.output,hz▸h3.size,fun j hlt hnj=>?_⟩
  rw [freeze_other _ _ _ _ ?_]
  ·exact h3.block j hlt hnj
  ·rintro rfl
   rcases h4 _ hdel.mem with h|h
   ·exact hnj h
   ·exact absurd hlt (Nat.not_lt.2 h)
 ·rw [getD_put (Nat.lt_of_lt_of_le (Nat.blt_eq.mp hd) hn)]
  unfold Ab.upd
  by_cases ht:t=d
  ·subst ht;rw [if_pos rfl,Nat.beq_refl];exact lit_p.2 rfl
  ·rw [if_neg ht]
   have:Nat.beq t d=false:=by
    cases hbb:Nat.beq t d with
    |false=>rfl
    |true=>exact absurd (Nat.eq_of_beq_eq_true hbb) ht
   rw [this]
   exact h5 t
end
theorem len_pu {w d:Nat}{l:List UInt8}{H:LH}(h:Wtr w l d H):PuH Tryz.prog 159 [lit (.pointer (some ⟨w,0,none⟩))] H (fun r H'=>r=lit (.int .i64 l.length)∧H'=H) noX:=by
 obtain⟨a,s,Hb,ha,hb,rfl⟩:=h
 rcases hb with⟨rfl,rfl,rfl⟩|⟨hne,b,c,hlc,hc,rfl,rfl⟩
 ·refine PuH.intro Tryz.func159 rfl (by kernel_rfl) fun C hC=>?_
  repeat(refine A1 ⟨?_⟩;intros)
  exact endHR _ _ (end1 (RV.tmp rfl) (Le.refl _)) (List.Sublist.refl _) ⟨rfl,rfl⟩
 ·refine PuH.intro Tryz.func159 rfl (by kernel_rfl) fun C hC=>?_
  repeat(refine A1 ⟨?_⟩;intros)
  exact endHR _ _ (end1 (RV.tmp rfl) (Le.refl _)) (List.Sublist.refl _) ⟨rfl,rfl⟩
theorem ov_sliceData {P:Program}{F:Fr}{H:LH}{ty:TypeId}{x:Operand}{b k c:Nat}{ts:Array TypeId}(hc:c≠0) (hx:ev F x=lit (.slice (some ⟨b,0,none⟩) k c)):OpV P (.call ⟨.builtin .unsafeSliceData,#[x],ts⟩) ty F H (lit (.pointer (some ⟨b,0,none⟩))) :=
 OpV.pure fun m w o a ho _ _ _ h=>by
  have h0:=h x (by simp [Op.operands,Call.operands]);rw [hx,lit_p]at h0
  have hrun:=Lib.run_unsafeSliceData_row (P:=P) (w:=w) ts o.type ⟨b,0,none⟩ k c hc
  exact⟨_,by simp [execOp,ho,resolve,invoke,builtin,h0,hrun],lit_p.2 rfl⟩
theorem bstring_pu {w d:Nat}{l:List UInt8}{H:LH}(h:Wtr w l d H) (hne:l≠[]) (hl:l.length≤1000000000):PuH Tryz.prog 160 [lit (.pointer (some ⟨w,0,none⟩))] H (fun r H'=>r=str l) noX:=by
 obtain⟨a,s,Hb,ha,hb,rfl⟩:=h
 rcases hb with⟨rfl,_⟩|⟨_,b,c,hlc,hc,rfl,rfl⟩
 ·exact absurd rfl hne
 have hlp:=List.length_pos_iff.2 hne
 refine PuH.intro Tryz.func160 rfl (by kernel_rfl) fun C hC=>?_
 repeat(first|(refine AS ⟨?_⟩;intros)|(refine O1 ⟨?_⟩;intros))
 refine WdN 10 ?_
 repeat(refine A1 ⟨?_⟩;intros)
 refine Wdo (ov_sliceData (by omega) rfl) ?_
 repeat(refine A1 ⟨?_⟩;intros)
 simp only [List.drop_succ_cons,List.drop_zero]
 refine WPL.unsafeStr (by kernel_rfl) (by kernel_rfl) rfl rfl hne (by omega) (.there _ (.here _)) ?_ rfl
 repeat(refine A1 ⟨?_⟩;intros)
 exact endHR _ _ (end1 (RV.tmp rfl) (Le.refl _)) (List.nil_sublist _) rfl
theorem wexpr1_f {ns:List Nd}{L w d b:Nat}{l:List UInt8}{H:LH}(hok:∀n∈ns,n.ok L) (hL:L≤200) (hns:ns.length≤100000) (h:Wtr w l d H) (hf:okL ns=false) :
  PuH Tryz.prog 96 [lit (.pointer (some ⟨w,0,none⟩)),lit (.pointer (some ⟨b,0,none⟩))] ((b,22,[sl (ns.map ndx).flatten ns.length])::H) (fun _ _=>False) (fun pv _=>pv=inval):=by
 have c:=expr_f hok hL hns h hf
 refine PuH.intro Tryz.func96 rfl (by kernel_rfl) fun C hC=>?_
 repeat(refine A1 ⟨?_⟩;intros)
 refine WfX c ?_ ?_
 ·rintro _ _ ⟨⟩
 ·rintro _ _ rfl
  rw [hC]
theorem wexpr1_t {ns:List Nd}{L w d b:Nat}{l:List UInt8}{H:LH}(hok:∀n∈ns,n.ok L) (hL:L≤200) (hns:ns.length≤90) (h:Wtr w l d H) (ht:okL ns=true){t:Ex}(hat:t.At ns (ns.length-1)) (hsz:t.size=ns.length) (hl:l.length+t.txt.length≤70000000) :
  PuH Tryz.prog 96 [lit (.pointer (some ⟨w,0,none⟩)),lit (.pointer (some ⟨b,0,none⟩))] ((b,22,[sl (ns.map ndx).flatten ns.length])::H) (fun r H'=>t.good=true∧r=Ab.tup []∧Wtr w (l++t.txt) 0 H') (fun pv _=>t.good=false∧pv=inval):=by
 have c:=expr_t hok hL (by omega) h ht hat hsz (by have:=t.dep_le;omega) hl
 refine PuH.intro Tryz.func96 rfl (by kernel_rfl) fun C hC=>?_
 repeat(refine A1 ⟨?_⟩;intros)
 refine WfX c ?_ ?_
 ·rintro _ _ ⟨g,rfl,h'⟩
  simp only [List.cons_append,List.nil_append]
  repeat(refine A1 ⟨?_⟩;intros)
  exact endHN _ _ end0 (List.sublist_cons_self _ _) ⟨g,rfl,h'⟩
 ·rintro _ _ ⟨g,rfl⟩
  rw [hC]
  exact⟨g,rfl⟩
theorem wtr_new (w:Nat):Wtr w [] 0 [(w,289,wrC fresh (lit (.slice none 0 0)) 0 false)]:=⟨_,_,[], .inl rfl,Byt.nil,rfl⟩
end Go.Ab
