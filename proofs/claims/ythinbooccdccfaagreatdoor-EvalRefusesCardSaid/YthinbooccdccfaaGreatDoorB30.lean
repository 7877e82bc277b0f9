/- Texts laid one behind the other: LexX, LexY, ParseB, ParseW, ParseX, ParseY. -/
import Derived.Test.YthinbooccdccfaaGreatDoorB29
import Derived.Test.YthinbooccdccfaaGreatDoorB27
import Derived.Test.YthinbooccdccfaaGreatDoorB23
import Derived.Test.YthinbooccdccfaaGreatDoorB25
set_option linter.unusedSectionVars false
set_option linter.unusedVariables false
set_option linter.unusedSimpArgs false
namespace Go.Ab
open Go.Proofs
variable [Base]
def nx (l:List UInt8) (k:Nat):Option (Tok×Nat):=match l.drop (k+skipN (l.drop k))with
 | []=>some (⟨0,[],1,k+skipN (l.drop k)+1⟩,k+skipN (l.drop k))
 |b::r=>if clsN b.toNat=3 then(if 24<runN (b::r)then none else some (⟨1,(b::r).take (runN (b::r)),1,k+skipN (l.drop k)+1⟩,k+skipN (l.drop k)+runN (b::r)))
  else some (⟨3,[b],1,k+skipN (l.drop k)+1⟩,k+skipN (l.drop k)+1)
theorem lexF_succ (f:Nat) (l:List UInt8) (c:Nat):lexF (f+1) l c=match l.drop (skipN l)with
  | []=>some [⟨0,[],1,c+skipN l⟩]
  |b::r=>if clsN b.toNat=3 then
    (if 24<runN (b::r)then none else match lexF f ((b::r).drop (runN (b::r))) (c+skipN l+runN (b::r))with
     |some ts=>some (⟨1,(b::r).take (runN (b::r)),1,c+skipN l⟩::ts)
     |none=>none)
   else match lexF f r (c+skipN l+1)with
    |some ts=>some (⟨3,[b],1,c+skipN l⟩::ts)
    |none=>none:=rfl
theorem lexF_nx (f:Nat) (l:List UInt8) (k:Nat):lexF (f+1) (l.drop k) (k+1)=match nx l k with
  |none=>none
  |some (t,k')=>if t.k=0 then some [t]else match lexF f (l.drop k') (k'+1)with
   |some ts=>some (t::ts)
   |none=>none:=by
 have hdd:(l.drop k).drop (skipN (l.drop k))=l.drop (k+skipN (l.drop k)):=by rw [List.drop_drop]
 rw [lexF_succ]
 unfold nx
 rw [hdd]
 generalize hr:l.drop (k+skipN (l.drop k))=R
 cases R with
 |nil=>simp only [if_true];rw [show k+1+skipN (l.drop k)=k+skipN (l.drop k)+1 by omega]
 |cons b r =>
  simp only
  by_cases h3:clsN b.toNat=3
  ·rw [if_pos h3,if_pos h3]
   by_cases h24:24<runN (b::r)
   ·rw [if_pos h24,if_pos h24]
   ·rw [if_neg h24,if_neg h24]
    simp only
    rw [if_neg (by decide),show(b::r).drop (runN (b::r))=l.drop (k+skipN (l.drop k)+runN (b::r)) by rw [←hr,List.drop_drop],show k+1+skipN (l.drop k)+runN (b::r)=k+skipN (l.drop k)+runN (b::r)+1 by omega,show k+1+skipN (l.drop k)=k+skipN (l.drop k)+1 by omega]
  ·rw [if_neg h3,if_neg h3]
   simp only
   rw [if_neg (by decide),show r=l.drop (k+skipN (l.drop k)+1) by rw [←List.drop_drop,hr];rfl,show k+1+skipN (l.drop k)+1=k+skipN (l.drop k)+1+1 by omega,show k+1+skipN (l.drop k)=k+skipN (l.drop k)+1 by omega]
theorem skip_head:∀(l:List UInt8) (b:UInt8) (r:List UInt8),l.drop (skipN l)=b::r→b.toNat≠32
 | [],_,_,h=>by simp at h
 |c::l,b,r,h=>by
  by_cases h32:c.toNat=32
  ·rw [skipN_32 h32]at h
   exact skip_head l b r h
  ·rw [skipN_ne h32]at h
   rw [List.drop_zero]at h
   obtain⟨rfl,_⟩:=List.cons.inj h
   exact h32
set_option maxHeartbeats 4000000 in
theorem rnext_pu [Sent 6] (r:Nat) (l:List UInt8) (k:Nat) (hok:∀b∈l,okC b=true) (hk:k≤l.length) (hl:l.length≤100000) :
  PuH Tryz.prog 222 [lit (.pointer (some ⟨r,0,none⟩))] [(r,rdT,rdC l k)] (fun v H=>match nx l k with
   |some (t,k')=>v=Ab.tup [ag (tkx t),lit .nilIface]∧H=[(r,rdT,rdC l k')]
   |none=>v=Ab.tup [ag (tkx ⟨0,[],0,0⟩),errE]) noX:=by
 have hsk:=skipN_le (l.drop k)
 rw [List.length_drop]at hsk
 have c0:=skip_pu r l k hok hk hl
 unfold nx
 have ha:k+skipN (l.drop k)≤l.length:=by omega
 clear hsk
 have hns:∀b r,l.drop (k+skipN (l.drop k))=b::r→b.toNat≠32:=fun b r h=>skip_head (l.drop k) b r (by rw [List.drop_drop];exact h)
 generalize k+skipN (l.drop k)=a at *
 by_cases hal:a<l.length
 ·obtain⟨b,hd,hm,hg⟩:=at_byte hal
  have hb:=b.toNat_lt
  have c1:=classOf_pu (b:=b.toNat) (by omega)
  rcases cls_ok (hok b hm)with⟨h32,hc⟩|⟨h32,hc⟩|⟨h32,hc⟩
  ·exact absurd h32 (hns b _ hd)
  ·rw [hd]
   simp only
   rw [if_pos hc,←hd]
   rw [hc,←hg]at c1
   have c2:=rrun_pu r l a hok ha hl
   have hn1:=runN_pos (r:=l.drop (a+1)) hc
   have hn2:=runN_le (l.drop a)
   rw [←hd]at hn1
   rw [List.length_drop]at hn2
   have c3:=rtake_pu r l a (runN (l.drop a)) (by omega) hl
   have hlen:((l.drop a).take (runN (l.drop a))).length=runN (l.drop a):=by rw [List.length_take,List.length_drop];omega
   generalize runN (l.drop a)=n at *
   generalize(l.drop a).take n=tx at *
   clear hd hg
   by_cases h24:24<n
   ·rw [if_pos h24]
    simp only
    refine PuH.intro Tryz.func222 rfl (by kernel_rfl) fun C hC=>?_
    repeat(refine A1 ⟨?_⟩;intros)
    refine WfT c0 ?_
    rintro _ _ ⟨rfl,rfl⟩
    simp only [List.cons_append,List.nil_append]
    repeat(first|(refine A1 ⟨?_⟩;intros)|refine W4 c1 ⟨?_⟩)
    refine WpubS 46 rfl (HDel.here _) (by omega) (by omega) ?_
    refine WfT c2 ?_
    rintro _ _ ⟨rfl,rfl⟩
    simp only [List.cons_append,List.nil_append]
    refine WfT c3 ?_
    rintro _ _ ⟨rfl,rfl⟩
    simp only [List.cons_append,List.nil_append]
    repeat(first|(refine AS ⟨?_⟩;intros)|(refine O1 ⟨?_⟩;intros))
    rename_i b2 b4 b46
    refine WP.perm (List.Perm.swap _ _ _) ?_
    refine WdM [11] [(b4,tkT,[lit (.int .i64 1),str tx,lit (.int .i64 1),lit (.int .i64 (a+1:Nat))]),(r,rdT,rdC l (a+n))] (fun _=>[(b2,tkT,tkx ⟨0,[],0,0⟩)]) ?_
    refine MkD 11 ?_
    repeat(refine A1 ⟨?_⟩;intros)
    refine Wdo (ov_boxP (sv:=ag _) rfl) ?_
    refine Wdo (ov_makeIface (s:=pt _) (by kernel_rfl) rfl) ?_
    repeat(refine A1 ⟨?_⟩;intros)
    refine mkD0 ?_
    refine MkR (sv:=top) (TS.store (sv:=ag (tkx ⟨0,[],0,0⟩)) (ds:=tkx ⟨0,[],0,0⟩) rfl rfl rfl rfl (HUpd.here _) rfl rfl) ?_
    refine MkD 1 ?_
    repeat(refine A1 ⟨?_⟩;intros)
    refine mkD0 ?_
    refine MkN ?_
    repeat(refine A1 ⟨?_⟩;intros)
    exact endHR (Ab.tup [ag (tkx ⟨0,[],0,0⟩),errE]) [] (end2 (RV.cellA rfl mmA rfl rfl) (RV.tmp rfl) (Le.tup2 (Le.refl _) Le.ifcT)) (List.nil_sublist _) rfl
   ·rw [if_neg h24]
    simp only
    refine PuH.intro Tryz.func222 rfl (by kernel_rfl) fun C hC=>?_
    repeat(refine A1 ⟨?_⟩;intros)
    refine WfT c0 ?_
    rintro _ _ ⟨rfl,rfl⟩
    simp only [List.cons_append,List.nil_append]
    repeat(first|(refine A1 ⟨?_⟩;intros)|refine W4 c1 ⟨?_⟩)
    refine WpubS 46 rfl (HDel.here _) (by omega) (by omega) ?_
    refine WfT c2 ?_
    rintro _ _ ⟨rfl,rfl⟩
    simp only [List.cons_append,List.nil_append]
    refine WfT c3 ?_
    rintro _ _ ⟨rfl,rfl⟩
    simp only [List.cons_append,List.nil_append]
    repeat(refine A1 ⟨?_⟩;intros)
    exact endHR _ _ (end2 (RV.cellA rfl mmA rfl rfl) (RV.tmp rfl) (Le.refl _)) (by repeat(first|exact List.Sublist.refl _|refine List.Sublist.cons _ ?_)) ⟨rfl,rfl⟩
  ·rw [hd]
   simp only
   rw [if_neg (by omega)]
   rw [hc,←hg]at c1
   have c3:=rtake_pu r l a 1 (by omega) hl
   rw [hd,List.take_succ_cons,List.take_zero,show((1:Nat):Int)=1 from rfl]at c3
   clear hd hg
   refine PuH.intro Tryz.func222 rfl (by kernel_rfl) fun C hC=>?_
   repeat(refine A1 ⟨?_⟩;intros)
   refine WfT c0 ?_
   rintro _ _ ⟨rfl,rfl⟩
   simp only [List.cons_append,List.nil_append]
   repeat(first|(refine A1 ⟨?_⟩;intros)|refine W4 c1 ⟨?_⟩)
   refine WfT c3 ?_
   rintro _ _ ⟨rfl,rfl⟩
   simp only [List.cons_append,List.nil_append]
   repeat(refine A1 ⟨?_⟩;intros)
   exact endHR _ _ (end2 (RV.cellA rfl mmA rfl rfl) (RV.tmp rfl) (Le.refl _)) (by repeat(first|exact List.Sublist.refl _|refine List.Sublist.cons _ ?_)) ⟨rfl,rfl⟩
 ·rw [List.drop_eq_nil_of_le (by omega)]
  refine PuH.intro Tryz.func222 rfl (by kernel_rfl) fun C hC=>?_
  repeat(refine A1 ⟨?_⟩;intros)
  refine WfT c0 ?_
  rintro _ _ ⟨rfl,rfl⟩
  simp only [List.cons_append,List.nil_append]
  repeat(refine A1 ⟨?_⟩;intros)
  exact endHR _ _ (end2 (RV.cellA rfl mmA rfl rfl) (RV.tmp rfl) (Le.refl _)) (by repeat(first|exact List.Sublist.refl _|refine List.Sublist.cons _ ?_)) ⟨rfl,rfl⟩
abbrev toks (ts:List Tok):SV:=sl (ts.map tkx).flatten ts.length
theorem nx_some {l:List UInt8}{k k':Nat}{t:Tok}(hk:k≤l.length) (h:nx l k=some (t,k')):k'≤l.length∧(t.k≠0→k<k')∧t.t.length≤24:=by
 have hsk:=skipN_le (l.drop k)
 rw [List.length_drop]at hsk
 have ha:k+skipN (l.drop k)≤l.length:=by omega
 unfold nx at h
 have hka:k≤k+skipN (l.drop k):=Nat.le_add_right _ _
 generalize k+skipN (l.drop k)=a at *
 cases hr:l.drop a with
 |nil =>
  rw [hr]at h
  simp only [Option.some.injEq,Prod.mk.injEq]at h
  obtain⟨rfl,rfl⟩:=h
  exact⟨ha,fun h=>absurd rfl h,by simp⟩
 |cons b r =>
  rw [hr]at h
  simp only at h
  have hlen:l.length-a=r.length+1:=by rw [←List.length_drop,hr];rfl
  by_cases h3:clsN b.toNat=3
  ·rw [if_pos h3]at h
   have h1:=runN_pos (r:=r) h3
   have h2:=runN_le (b::r)
   simp only [List.length_cons]at h2
   by_cases h24:24<runN (b::r)
   ·rw [if_pos h24]at h;cases h
   ·rw [if_neg h24]at h
    simp only [Option.some.injEq,Prod.mk.injEq]at h
    obtain⟨rfl,rfl⟩:=h
    exact⟨by omega,fun _=>by omega,by simp only [List.length_take,List.length_cons];omega⟩
  ·rw [if_neg h3]at h
   simp only [Option.some.injEq,Prod.mk.injEq]at h
   obtain⟨rfl,rfl⟩:=h
   exact⟨by omega,fun _=>by omega,by simp⟩
theorem toks_snoc (A:List Tok) (t:Tok):((A++[t]).map tkx).flatten=(A.map tkx).flatten++tkx t:=by
 rw [List.map_append,List.flatten_append];simp only [List.map_cons,List.map_nil,List.flatten_cons,List.flatten_nil,List.append_nil]
def ttsR (o:Option (List Tok)):SV:=match o with
 |some ts=>Ab.tup [toks ts,lit .nilIface]
 |none=>Ab.tup [lit (.slice none 0 0),errE]
set_option maxHeartbeats 4000000 in
theorem tokens_pu [Sent 6] (l:List UInt8) (hok:∀b∈l,okC b=true) (hl:l.length≤65536):Pu Tryz.prog 163 [str l] (ttsR (lexT l)):=by
 refine Pu.intro Tryz.func163 rfl (by kernel_rfl) fun C=>?_
 repeat(refine A1 ⟨?_⟩;intros)
 rename_i r
 refine WP.loopS (ι:=Nat×Nat×List Tok×SV×LH) (fun x=>x.2.1≤l.length∧l.length+1≤x.1+x.2.1∧x.2.2.1.length≤x.2.1∧Own tkT 4 x.2.2.1.length (x.2.2.1.map tkx).flatten x.2.2.2.1 x.2.2.2.2∧lexT l=(match lexF x.1 (l.drop x.2.1) (x.2.1+1)with
   |some ts=>some (x.2.2.1++ts)
   |none=>none)) (fun x=>l.length-x.2.1)
  (fun x=>fm [(4,lit (.pointer (some ⟨r,0,none⟩))),(5,x.2.2.2.1)]) (fun x=>(r,rdT,rdC l x.2.1)::x.2.2.2.2) (l.length+1,0,[],lit (.slice none 0 0),[])
  ⟨Nat.zero_le _,by simp,Nat.le_refl _,Own.nil _ _,by simp only [List.drop_zero,List.nil_append];unfold lexT;split <;> (rename_i h;exact h)⟩ lfA (List.Sublist.refl _) ?_
 rintro ⟨f,k,A,s,Hs⟩ ⟨hk,hf,hA,hown,hlex⟩ K hK
 simp only at hk hf hA hown hlex⊢
 obtain⟨f,rfl⟩:∃f',f=f'+1:=⟨f-1,by omega⟩
 rw [lexF_nx]at hlex
 have hco:=hown.co
 have c:=rnext_pu r l k hok hk (by omega)
 cases hn:nx l k with
 |none =>
  rw [hn]at c hlex
  simp only at c hlex
  rw [hlex]
  clear hK
  repeat(refine A1 ⟨?_⟩;intros)
  refine WfT c ?_
  rintro _ H' rfl
  repeat(refine A1 ⟨?_⟩;intros)
  refine Wo (ov_ineF (s:=top) (by kernel_rfl) rfl) ?_
  repeat(refine A1 ⟨?_⟩;intros)
  refine endR (end2 (RV.tmp rfl) (RV.tmp rfl) (Le.of_eq rfl))
 |some q =>
  obtain⟨t,k'⟩:=q
  rw [hn]at c hlex
  simp only at c hlex
  obtain⟨g1,g2,g3⟩:=nx_some hk hn
  repeat(refine A1 ⟨?_⟩;intros)
  refine WfT c ?_
  rintro _ _ ⟨rfl,rfl⟩
  refine WPL.perm List.perm_append_comm ?_
  simp only [List.cons_append,List.nil_append]
  repeat(refine A1 ⟨?_⟩;intros)
  refine Wown hown (by omega) (fun s' H' hown'=>?_)
  simp only [List.cons_append,List.nil_append]
  have hown'':Own tkT 4 (A++[t]).length ((A++[t]).map tkx).flatten s' H':=by
   rw [toks_snoc,List.length_append,List.length_singleton];exact hown'
  by_cases h0:t.k=0
  ·rw [if_pos h0]at hlex
   simp only at hlex
   rw [hlex]
   clear hK hown'
   obtain⟨hcl,⟨h0',_⟩|⟨b2,c2,hnc,hcm,rfl,rfl⟩⟩:=hown''
   ·simp at h0'
   refine WPL.pub (d:=29) (s':=toks (A++[t])) (HDel.there _ (HDel.there _ (HDel.there _ (HDel.here _)))) rfl (fun m arr h1 h2=>pub_ownL h1 h2 hnc hcm) ?_
   repeat(refine A1 ⟨?_⟩;intros)
   refine endR (end2 (RV.tmp rfl) (RV.tmp rfl) (Le.of_eq rfl))
  ·rw [if_neg h0]at hlex
   have hgo:=fun F' H''=>hK F' H'' (f,k',A++[t],s',H') ⟨g1,by have:=g2 h0;simp only;omega,by have:=g2 h0;simp only [List.length_append,List.length_singleton];omega,hown'',by
    simp only
    rw [hlex]
    cases lexF f (l.drop k') (k'+1)with
    |none=>rfl
    |some ts=>simp⟩ (by have:=g2 h0;simp only;omega)
   have hco':=hown''.co
   clear hK hlex hown hown'
   repeat(refine A1 ⟨?_⟩;intros)
   exact hgo _ _ lfA (List.Sublist.cons _ (List.Sublist.cons _ (List.Sublist.refl _)))
theorem stk_app (A B:List Nd):∀(i:Nat) (st:List (Ex×Nat)),stk (A++B) i st=match stk A i st with
  |some st'=>stk B (i+A.length) st'
  |none=>none:=by
 induction A with
 |nil=>intro i st;rfl
 |cons n A ih =>
  intro i st
  rw [List.cons_append,stk_cons,stk_cons]
  cases stp i n st with
  |none=>rfl
  |some st' =>
   simp only
   rw [ih,List.length_cons,show i+1+A.length=i+(A.length+1) by omega]
def Rn (A:List Nd) (i:Nat) (x:Ex):Prop:=(∀s,stk A i s=some ((x,i+A.length-1)::s))∧1≤A.length
theorem okNB {op x y:Int}{a:Tok}(h1:1≤op) (h4:op≤4):okN (ndB op x y a)=true:=by
 unfold okN ndB;simp [zp,zq,h1,h4]
theorem okNU {x:Int}{a:Tok}:okN (ndU x a)=true:=by
 unfold okN ndU;simp [zp,zq]
theorem okNA {k:Int}{a:Tok}(h:k=2∨k=3):okN (ndA k a)=true:=by
 rcases h with rfl|rfl <;> rfl
theorem okNm {a:Tok}:okN (ndN a)=true:=by
 unfold okN ndN;simp [zp,zq]
theorem Rn.leaf {n:Nd}{i:Nat}(h1:okN n=true) (h5:n.k≠5) (h6:n.k≠6):Rn [n] i (.leaf n) :=
 ⟨fun s=>by rw [stk_cons,show stp i n s=some ((.leaf n,i)::s)from by unfold stp;rw [if_pos h1,if_neg h5,if_neg h6]];rfl,Nat.le_refl _⟩
theorem Rn.un {A:List Nd}{n:Nd}{i:Nat}{x:Ex}(h:Rn A i x) (h1:okN n=true) (h5:n.k=5) (hx:n.x=(i+A.length:Nat)-1):Rn (A++[n]) i (.un n x):=by
 obtain⟨hs,hp⟩:=h
 refine⟨fun s=>?_,by simp⟩
 rw [stk_app,hs]
 simp only
 rw [stk_cons,show stp (i+A.length) n ((x,i+A.length-1)::s)=some ((.un n x,i+A.length)::s)from by unfold stp;rw [if_pos h1,if_pos h5];simp only;rw [if_pos (by omega)]]
 rw [List.length_append,List.length_singleton,show i+(A.length+1)-1=i+A.length by omega]
 rfl
theorem Rn.bi {A B:List Nd}{n:Nd}{i:Nat}{x y:Ex}(h:Rn A i x) (k:Rn B (i+A.length) y) (h1:okN n=true) (h6:n.k=6) (hx:n.x=(i+A.length:Nat)-1) (hy:n.y=(i+A.length+B.length:Nat)-1):Rn (A++B++[n]) i (.bi n x y):=by
 obtain⟨hs,hp⟩:=h
 obtain⟨ks,kp⟩:=k
 refine⟨fun s=>?_,by simp;omega⟩
 rw [stk_app,stk_app,hs]
 simp only
 rw [ks]
 simp only
 rw [List.length_append,stk_cons,show stp (i+(A.length+B.length)) n ((y,i+A.length+B.length-1)::(x,i+A.length-1)::s)=some ((.bi n x y,i+(A.length+B.length))::s)from by unfold stp;rw [if_pos h1,if_neg (by omega),if_pos h6];simp only;rw [if_pos ⟨by omega,by omega⟩]]
 rw [List.length_append,List.length_append,List.length_singleton,show i+(A.length+B.length+1)-1=i+(A.length+B.length) by omega]
 rfl
theorem prs_ok : ∀ (f lv d i : Nat) (ts : List Tok) (acc : Option (List Nd × Ex)) (A : List Nd) (x : Ex) (ts' : List Tok), (1 ≤ lv ∧ lv ≤ 3) → (lv = 3 → acc = none) → TOk ts → (match acc with
      |some (A0,x0)=>Rn A0 i x0
      |none=>True)→prs f lv d i ts acc=some (A,x,ts')→Rn A i x∧TOk ts'∧ts'.length+(if acc.isNone then 1 else 0)≤ts.length:=by
  intro f
  induction f with
  |zero=>intro lv d i ts acc A x ts' _ _ _ _ h;unfold prs at h;cases h
  |succ f ih =>
    intro lv d i ts acc A x ts' hlv h3 hT hacc h
    cases acc with
    |none =>
      unfold prs at h
      simp only [Option.isNone_none,if_true]
      by_cases l3:lv=3
      · subst l3
        rw [if_pos rfl]at h
        have tl:∀s,tis ts s=true→TOk ts.tail∧ts.tail.length+1=ts.length:=fun s hs=>by
          obtain⟨a,r,rfl,ha,_⟩:=tis_ne hs
          exact⟨(hT.tail ha).1,by simp⟩
        by_cases c1:tis ts [126]=true
        · rw [if_pos c1]at h
          obtain⟨hT',hl'⟩:=tl _ c1
          by_cases hd':200≤d
          · rw [if_pos hd']at h;cases h
          · rw [if_neg hd']at h
            cases hp:prs f 3 (d+1) i ts.tail none with
            |none=>rw [hp]at h;cases h
            |some q =>
              obtain⟨A1,x1,t1⟩:=q
              rw [hp]at h
              simp only [Option.some.injEq,Prod.mk.injEq]at h
              obtain⟨rfl,rfl,rfl⟩:=h
              obtain⟨g1,g2,g3⟩:=ih 3 _ _ _ _ _ _ _ (by omega) (fun _=>rfl) hT' trivial hp
              simp only [Option.isNone_none,if_true]at g3
              exact⟨g1.un okNU rfl rfl,g2,by omega⟩
        · rw [if_neg c1]at h
          by_cases c2:tis ts [40]=true
          · rw [if_pos c2]at h
            obtain⟨hT',hl'⟩:=tl _ c2
            by_cases hd':200≤d
            · rw [if_pos hd']at h;cases h
            · rw [if_neg hd']at h
              cases hp:prs f 1 (d+1) i ts.tail none with
              |none=>rw [hp]at h;cases h
              |some q =>
                obtain⟨A1,x1,t1⟩:=q
                rw [hp]at h
                simp only at h
                obtain⟨g1,g2,g3⟩:=ih 1 _ _ _ _ _ _ _ (by omega) (fun _=>rfl) hT' trivial hp
                simp only [Option.isNone_none,if_true]at g3
                by_cases c3:tis t1 [41]=true
                · rw [if_pos c3]at h
                  simp only [Option.some.injEq,Prod.mk.injEq]at h
                  obtain⟨rfl,rfl,rfl⟩:=h
                  obtain⟨a,r,rfl,ha,_⟩:=tis_ne c3
                  exact⟨g1,(g2.tail ha).1,by simp at g3⊢;omega⟩
                · rw [if_neg c3]at h;cases h
          · rw [if_neg c2]at h
            by_cases c3:tis ts wAll=true
            · rw [if_pos c3]at h
              obtain⟨hT',hl'⟩:=tl _ c3
              simp only [Option.some.injEq,Prod.mk.injEq]at h
              obtain⟨rfl,rfl,rfl⟩:=h
              exact⟨.leaf (okNA (.inl rfl)) (show(2:Int)≠5 by decide) (show(2:Int)≠6 by decide),hT',by omega⟩
            rw [if_neg c3]at h
            by_cases c4:tis ts wNone=true
            · rw [if_pos c4]at h
              obtain⟨hT',hl'⟩:=tl _ c4
              simp only [Option.some.injEq,Prod.mk.injEq]at h
              obtain⟨rfl,rfl,rfl⟩:=h
              exact⟨.leaf (okNA (.inr rfl)) (show(3:Int)≠5 by decide) (show(3:Int)≠6 by decide),hT',by omega⟩
            rw [if_neg c4]at h
            by_cases c5:tis ts wHalf=true
            · rw [if_pos c5]at h;cases h
            rw [if_neg c5]at h
            by_cases c6:(hd ts).k=1∧resv (hd ts).t=false
            · rw [if_pos c6]at h
              simp only [Option.some.injEq,Prod.mk.injEq]at h
              obtain⟨rfl,rfl,rfl⟩:=h
              cases ts with
              |nil=>exact hT.elim
              |cons a r =>
                have ha:a.k=1:=c6.1
                exact⟨.leaf okNm (show(1:Int)≠5 by decide) (show(1:Int)≠6 by decide),(hT.tail (by omega)).1,by simp⟩
            rw [if_neg c6]at h;cases h
      · rw [if_neg l3]at h
        cases hp:prs f (lv+1) d i ts none with
        |none=>rw [hp]at h;cases h
        |some q =>
          obtain⟨A1,x1,t1⟩:=q
          rw [hp]at h
          simp only at h
          obtain⟨g1,g2,g3⟩:=ih (lv+1) _ _ _ _ _ _ _ (by omega) (fun _=>rfl) hT trivial hp
          obtain⟨k1,k2,k3⟩:=ih lv _ _ _ _ _ _ _ hlv (fun e=>absurd e l3) g2 (by exact g1) h
          simp at g3 k3
          exact⟨k1,k2,by omega⟩
    |some q =>
      obtain⟨A0,x0⟩:=q
      simp only at hacc
      unfold prs at h
      simp only [Option.isNone_some,Bool.false_eq_true,if_false,Nat.add_zero]
      by_cases ho:opAt lv ts=0
      · rw [if_pos ho]at h
        simp only [Option.some.injEq,Prod.mk.injEq]at h
        obtain⟨rfl,rfl,rfl⟩:=h
        exact⟨hacc,hT,Nat.le_refl _⟩
      · rw [if_neg ho]at h
        obtain⟨⟨a,r,rfl,ha⟩,o1,o2⟩:=opAt_ne ho
        cases hp:prs f (lv+1) d (i+A0.length) r none with
        |none=>simp only [List.tail_cons]at h;rw [hp]at h;cases h
        |some q =>
          obtain⟨B,y,t1⟩:=q
          simp only [List.tail_cons]at h
          rw [hp]at h
          simp only at h
          have l3:lv≠3:=fun e=>by have:=h3 e;cases this
          obtain⟨g1,g2,g3⟩:=ih (lv+1) _ _ _ _ _ _ _ (by omega) (fun _=>rfl) (hT.tail ha).1 trivial hp
          simp at g3
          have hop:1≤opAt lv (a::r)∧opAt lv (a::r)≤4:=by
            by_cases h1:lv=1
            · rcases o1 h1 with e|e|e <;> rw [e] <;> decide
            · rw [o2 h1];decide
          obtain⟨k1,k2,k3⟩:=ih lv _ _ _ _ _ _ _ hlv (fun e=>absurd e l3) g2 (hacc.bi g1 (okNB hop.1 hop.2) rfl rfl rfl) h
          simp at k3
          exact⟨k1,k2,by simp;omega⟩
def Like (n m:Nd):Prop:=n.k=m.k∧n.op=m.op∧n.x=m.x∧n.y=m.y
inductive LikeT:Ex→Ex→Prop
 |leaf {n m:Nd}(h:Like n m):LikeT (.leaf n) (.leaf m)
 |un {n m:Nd}{x y:Ex}(h:Like n m) (k:LikeT x y):LikeT (.un n x) (.un m y)
 |bi {n m:Nd}{x y u v:Ex}(h:Like n m) (k:LikeT x u) (l:LikeT y v):LikeT (.bi n x y) (.bi m u v)
inductive LikeS:List (Ex×Nat)→List (Ex×Nat)→Prop
 |nil:LikeS [] []
 |cons {x y:Ex}{j:Nat}{s t:List (Ex×Nat)}(h:LikeT x y) (k:LikeS s t):LikeS ((x,j)::s) ((y,j)::t)
theorem Like.rk {n m:Nd}(h:Like n m):rk n=rk m:=by
 obtain⟨h1,h2,_,_⟩:=h
 unfold Ab.rk
 rw [h1,h2]
theorem LikeT.rk {x y:Ex}(h:LikeT x y):rk x.top=rk y.top:=by
 cases h with
 |leaf h=>exact h.rk
 |un h _=>exact h.rk
 |bi h _ _=>exact h.rk
abbrev psT:TypeId:=297
abbrev exPT:TypeId:=33
abbrev psC (ts:List Tok) (d:Nat) (s:SV):List SV:=[toks ts,lit (.int .i64 d),s]
theorem tkx_len (a:Tok):(tkx a).length=4:=rfl
theorem toks_ne (a:Tok) (r:List Tok):((a::r).map tkx).flatten≠[]:=by
 rw [List.map_cons,List.flatten_cons];exact fun h=>by cases h
theorem toks_hd (a:Tok) (r:List Tok):(((a::r).map tkx).flatten.drop (0*4)).take 4=tkx a:=by
 rw [Nat.zero_mul,List.drop_zero,List.map_cons,List.flatten_cons];rfl
theorem toks_tl (a:Tok) (r:List Tok):((a::r).map tkx).flatten.drop (1*4)=(r.map tkx).flatten:=by
 rw [List.map_cons,List.flatten_cons];rfl
theorem toks_len (ts:List Tok):(ts.map tkx).flatten.length=ts.length*4:=by
 induction ts with
 |nil=>rfl
 |cons a r ih=>rw [List.map_cons,List.flatten_cons,List.length_append,ih,tkx_len,List.length_cons];omega
theorem pnext_pu (s:SV) (hco:CO s [s]) (a:Tok) (r:List Tok) (d:Nat) (hr:r.length≤1000000):PuM Tryz.prog 165 psT (fun p=>[lit (.pointer (some ⟨p,0,none⟩))]) (psC (a::r) d s) (fun _:Unit=>psC (a::r) d s) (fun _=>ag (tkx a)):=by
 have hl:(a::r).length=r.length+1:=rfl
 refine PuM.intro Tryz.func165 rfl (by kernel_rfl) fun C b=>?_
 repeat(refine A1 ⟨?_⟩;intros)
 refine Wo (ov_idxS (cs':=tkx a) (i:=0) rfl rfl (by omega) (by omega) (toks_hd a r) (toks_ne a r)) ?_
 repeat(refine A1 ⟨?_⟩;intros)
 exact endMR () _ (end1 (RV.cellA rfl mmA rfl rfl) (Le.refl _)) mmA (LeL.refl _)
theorem ptake_pu (s:SV) (hco:CO s [s]) (p:Nat) (a:Tok) (r:List Tok) (d:Nat) (hr:r.length≤1000000):PuH Tryz.prog 283 [lit (.pointer (some ⟨p,0,none⟩))] [(p,psT,psC (a::r) d s)] (fun v H=>v=ag (tkx a)∧H=[(p,psT,psC r d s)]) noX:=by
 have hl:(a::r).length=r.length+1:=rfl
 refine PuH.intro Tryz.func283 rfl (by kernel_rfl) fun C hC=>?_
 repeat(refine A1 ⟨?_⟩;intros)
 refine Wo (ov_idxS (cs':=tkx a) (i:=0) rfl rfl (by omega) (by omega) (toks_hd a r) (toks_ne a r)) ?_
 repeat(refine A1 ⟨?_⟩;intros)
 refine Wo (ov_slFn (cs:=((a::r).map tkx).flatten) (sz:=4) 1 rfl rfl rfl (toks_len _) (by omega)) ?_
 rw [toks_tl,show(a::r).length-1=r.length from rfl]
 repeat(refine A1 ⟨?_⟩;intros)
 exact endHR _ _ (end1 (RV.cellA rfl mmA rfl rfl) (Le.refl _)) (by repeat(first|exact List.Sublist.refl _|refine List.Sublist.cons _ ?_)) ⟨rfl,rfl⟩
def Tok.ok (a:Tok):Prop:=(a.k=0∧a.t=[])∨a.k=1∨a.k=3
theorem TOk.hd {a:Tok}{r:List Tok}(h:TOk (a::r)):a.ok:=by
 cases r with
 |nil=>exact .inl h
 |cons b r=>exact .inr h.1
theorem tis_cons (a:Tok) (r:List Tok) (w:List UInt8):tis (a::r) w=(decide (a.k≠0)&&decide (a.t=w)):=rfl
theorem pis_pu (s:SV) (hco:CO s [s]) (a:Tok) (r:List Tok) (d:Nat) (hr:r.length≤1000000) (ha:a.ok) (w:List UInt8) (hw:w≠[]) :
  PuM Tryz.prog 226 psT (fun p=>[lit (.pointer (some ⟨p,0,none⟩)),str w]) (psC (a::r) d s) (fun _:Unit=>psC (a::r) d s) (fun _=>lit (.bool (tis (a::r) w))):=by
 have c:=pnext_pu s hco a r d hr
 rw [tis_cons]
 by_cases hw':a.t=w
 ·have hk:a.k=1∨a.k=3:=by
   rcases ha with⟨_,h⟩|h
   ·exact absurd (hw'.symm.trans h) hw
   ·exact h
  rw [decide_eq_true hw',decide_eq_true (show a.k≠0 by omega)]
  rcases hk with hk|hk <;>
  ·refine PuM.intro Tryz.func226 rfl (by kernel_rfl) fun C b=>?_
   repeat(refine A1 ⟨?_⟩;intros)
   refine Wo (ov_callT c rfl mmA) ?_
   repeat(refine A1 ⟨?_⟩;intros)
   exact endMR () _ (end1 (RV.tmp rfl) (Le.refl _)) mmA (LeL.refl _)
 ·rw [decide_eq_false hw',Bool.and_false]
  refine PuM.intro Tryz.func226 rfl (by kernel_rfl) fun C b=>?_
  repeat(refine A1 ⟨?_⟩;intros)
  refine Wo (ov_callT c rfl mmA) ?_
  repeat(refine A1 ⟨?_⟩;intros)
  exact endMR () _ (end1 (RV.tmp rfl) (Le.refl _)) mmA (LeL.refl _)
def isE (pv:SV):Prop:=∃b:Nat,pv=lit (.iface 141 (.pointer (some ⟨b,0,none⟩)))
theorem pfail_pu (s:SV) (hco:CO s [s]) (p:Nat) (a:Tok) (r:List Tok) (d:Nat) (hr:r.length≤1000000) (g:Nat):PuH Tryz.prog 166 [lit (.pointer (some ⟨p,0,none⟩)),lit (sent g)] [(p,psT,psC (a::r) d s)] (fun _ _=>False) (fun pv _=>isE pv):=by
 have c:=pnext_pu s hco a r d hr
 refine PuH.intro Tryz.func166 rfl (by kernel_rfl) fun C hC=>?_
 repeat(refine A1 ⟨?_⟩;intros)
 refine Wo (ov_callT c rfl mmA) ?_
 repeat(refine A1 ⟨?_⟩;intros)
 refine Wpan ?_
 rw [hC]
 exact⟨_,rfl⟩
theorem pexpect_pu [Sent 5] (s:SV) (hco:CO s [s]) (p:Nat) (a:Tok) (r:List Tok) (d:Nat) (hr:r.length≤1000000) (ha:a.ok) (w:List UInt8) (hw:w≠[]) :
  PuH Tryz.prog 331 [lit (.pointer (some ⟨p,0,none⟩)),str w] [(p,psT,psC (a::r) d s)] (fun v H=>tis (a::r) w=true∧v=Ab.tup []∧H=[(p,psT,psC r d s)]) (fun pv _=>tis (a::r) w=false∧isE pv):=by
 have c:=pis_pu s hco a r d hr ha w hw
 cases h:tis (a::r) w with
 |true =>
  rw [h]at c
  refine PuH.intro Tryz.func331 rfl (by kernel_rfl) fun C hC=>?_
  repeat(refine A1 ⟨?_⟩;intros)
  refine Wo (ov_callT c rfl mmA) ?_
  repeat(refine A1 ⟨?_⟩;intros)
  refine WfT (ptake_pu s hco p a r d hr) ?_
  rintro _ _ ⟨rfl,rfl⟩
  simp only [List.cons_append,List.nil_append]
  repeat(refine A1 ⟨?_⟩;intros)
  exact endHN _ _ end0 (List.Sublist.refl _) ⟨by trivial,rfl,rfl⟩
 |false =>
  rw [h]at c
  refine PuH.intro Tryz.func331 rfl (by kernel_rfl) fun C hC=>?_
  repeat(refine A1 ⟨?_⟩;intros)
  refine Wo (ov_callT c rfl mmA) ?_
  repeat(refine A1 ⟨?_⟩;intros)
  refine WfX (pfail_pu s hco p a r d hr _) ?_ ?_
  ·rintro _ _ ⟨⟩
  ·rintro _ _ h
   rw [hC]
   exact⟨rfl,h⟩
theorem paccept_pu (s:SV) (hco:CO s [s]) (p:Nat) (a:Tok) (r:List Tok) (d:Nat) (hr:r.length≤1000000) (ha:a.ok) (w:List UInt8) (hw:w≠[]) :
  PuH Tryz.prog 332 [lit (.pointer (some ⟨p,0,none⟩)),str w] [(p,psT,psC (a::r) d s)] (fun v H=>v=lit (.bool (tis (a::r) w))∧H=[(p,psT,psC (if tis (a::r) w=true then r else a::r) d s)]) noX:=by
 have c:=pis_pu s hco a r d hr ha w hw
 cases h:tis (a::r) w with
 |true =>
  rw [h]at c
  refine PuH.intro Tryz.func332 rfl (by kernel_rfl) fun C hC=>?_
  repeat(refine A1 ⟨?_⟩;intros)
  refine Wo (ov_callT c rfl mmA) ?_
  repeat(refine A1 ⟨?_⟩;intros)
  refine WfT (ptake_pu s hco p a r d hr) ?_
  rintro _ _ ⟨rfl,rfl⟩
  simp only [List.cons_append,List.nil_append]
  repeat(refine A1 ⟨?_⟩;intros)
  exact endHR _ _ (end1 (RV.tmp rfl) (Le.refl _)) (List.Sublist.refl _) ⟨rfl,rfl⟩
 |false =>
  rw [h]at c
  refine PuH.intro Tryz.func332 rfl (by kernel_rfl) fun C hC=>?_
  repeat(refine A1 ⟨?_⟩;intros)
  refine Wo (ov_callT c rfl mmA) ?_
  repeat(refine A1 ⟨?_⟩;intros)
  exact endHR _ _ (end1 (RV.tmp rfl) (Le.refl _)) (List.Sublist.refl _) ⟨rfl,rfl⟩
theorem pisName_pu (s:SV) (hco:CO s [s]) (a:Tok) (r:List Tok) (d:Nat) (hr:r.length≤1000000):PuM Tryz.prog 363 psT (fun p=>[lit (.pointer (some ⟨p,0,none⟩))]) (psC (a::r) d s) (fun _:Unit=>psC (a::r) d s) (fun _=>lit (.bool (decide (a.k=1∧resv a.t=false)))):=by
 have c:=pnext_pu s hco a r d hr
 have c2:=reserved_pu a.t
 by_cases hk:a.k=1
 ·cases hv:resv a.t with
  |true =>
   rw [hv]at c2
   rw [decide_eq_false (fun h=>by cases h.2)]
   refine PuM.intro Tryz.func363 rfl (by kernel_rfl) fun C b=>?_
   repeat(refine A1 ⟨?_⟩;intros)
   refine Wo (ov_callT c rfl mmA) ?_
   repeat(refine A1 ⟨?_⟩;intros)
   refine WgE ?_
   refine Wo (ov_callT c rfl mmA) ?_
   repeat(first|(refine A1 ⟨?_⟩;intros)|refine W4 c2 ⟨?_⟩)
   exact endMR () _ (end1 (RV.tmp rfl) (Le.refl _)) mmA (LeL.refl _)
  |false =>
   rw [hv]at c2
   rw [decide_eq_true ⟨hk,rfl⟩]
   refine PuM.intro Tryz.func363 rfl (by kernel_rfl) fun C b=>?_
   repeat(refine A1 ⟨?_⟩;intros)
   refine Wo (ov_callT c rfl mmA) ?_
   repeat(refine A1 ⟨?_⟩;intros)
   refine WgE ?_
   refine Wo (ov_callT c rfl mmA) ?_
   repeat(first|(refine A1 ⟨?_⟩;intros)|refine W4 c2 ⟨?_⟩)
   exact endMR () _ (end1 (RV.tmp rfl) (Le.refl _)) mmA (LeL.refl _)
 ·rw [decide_eq_false (fun h=>hk h.1)]
  refine PuM.intro Tryz.func363 rfl (by kernel_rfl) fun C b=>?_
  repeat(refine A1 ⟨?_⟩;intros)
  refine Wo (ov_callT c rfl mmA) ?_
  repeat(refine A1 ⟨?_⟩;intros)
  exact endMR () _ (end1 (RV.tmp rfl) (Le.refl _)) mmA (LeL.refl _)
theorem pname_pu [Sent 5] (s:SV) (hco:CO s [s]) (p:Nat) (a:Tok) (r:List Tok) (d:Nat) (hr:r.length≤1000000):PuH Tryz.prog 334 [lit (.pointer (some ⟨p,0,none⟩))] [(p,psT,psC (a::r) d s)]
  (fun v H=>(a.k=1∧resv a.t=false)∧v=str a.t∧H=[(p,psT,psC r d s)]) (fun pv _=>¬(a.k=1∧resv a.t=false)∧isE pv):=by
 have c:=pisName_pu s hco a r d hr
 by_cases h:a.k=1∧resv a.t=false
 ·rw [decide_eq_true h]at c
  have h':=h
  clear h
  have h:=(show Hid _ from h')
  clear h'
  refine PuH.intro Tryz.func334 rfl (by kernel_rfl) fun C hC=>?_
  repeat(refine A1 ⟨?_⟩;intros)
  refine Wo (ov_callT c rfl mmA) ?_
  repeat(refine A1 ⟨?_⟩;intros)
  refine WfT (ptake_pu s hco p a r d hr) ?_
  rintro _ _ ⟨rfl,rfl⟩
  simp only [List.cons_append,List.nil_append]
  repeat(refine A1 ⟨?_⟩;intros)
  exact endHR _ _ (end1 (RV.tmp rfl) (Le.refl _)) (List.Sublist.refl _) ⟨h,rfl,rfl⟩
 ·rw [decide_eq_false h]at c
  have h':=h
  clear h
  have h:=(show Hid _ from h')
  clear h'
  refine PuH.intro Tryz.func334 rfl (by kernel_rfl) fun C hC=>?_
  repeat(refine A1 ⟨?_⟩;intros)
  refine Wo (ov_callT c rfl mmA) ?_
  repeat(refine A1 ⟨?_⟩;intros)
  refine WfX (pfail_pu s hco p a r d hr _) ?_ ?_
  ·rintro _ _ ⟨⟩
  ·rintro _ _ hx
   rw [hC]
   exact⟨h,hx⟩
theorem pnumber_pu [Sent 5] (s:SV) (hco:CO s [s]) (p:Nat) (a:Tok) (r:List Tok) (d:Nat) (hr:r.length≤1000000) (ha:a.ok):PuH Tryz.prog 381 [lit (.pointer (some ⟨p,0,none⟩))] [(p,psT,psC (a::r) d s)] (fun _ _=>False) (fun pv _=>isE pv):=by
 have c:=pnext_pu s hco a r d hr
 have hk:a.k≠2:=by rcases ha with⟨h,_⟩|h|h <;> omega
 clear ha
 refine PuH.intro Tryz.func381 rfl (by kernel_rfl) fun C hC=>?_
 repeat(refine A1 ⟨?_⟩;intros)
 refine Wo (ov_callT c rfl mmA) ?_
 repeat(refine A1 ⟨?_⟩;intros)
 refine WfX (pfail_pu s hco p a r d hr _) ?_ ?_
 ·rintro _ _ ⟨⟩
 ·rintro _ _ hx
  rw [hC]
  exact hx
theorem TOk.cons {ts:List Tok}(h:TOk ts):∃a r,ts=a::r∧a.ok:=by
 cases ts with
 |nil=>exact h.elim
 |cons a r=>exact⟨a,r,rfl,h.hd⟩
theorem TOk.next {a:Tok}{r:List Tok}{w:List UInt8}(h:TOk (a::r)) (ht:tis (a::r) w=true):TOk r:=by
 rw [tis_cons,Bool.and_eq_true]at ht
 exact(h.tail (of_decide_eq_true ht.1)).1
theorem prational_pu [Sent 5] (s:SV) (hco:CO s [s]) (p:Nat) (ts:List Tok) (hT:TOk ts) (d:Nat) (hr:ts.length≤1000000):PuH Tryz.prog 362 [lit (.pointer (some ⟨p,0,none⟩))] [(p,psT,psC ts d s)] (fun _ _=>False) (fun pv _=>isE pv):=by
 obtain⟨a,r,rfl,ha⟩:=hT.cons
 simp only [List.length_cons]at hr
 have c:=paccept_pu s hco p a r d (by omega) ha [45] (by decide)
 cases h:tis (a::r) [45]with
 |true =>
  obtain⟨b,r',rfl,hb⟩:=(hT.next h).cons
  simp only [List.length_cons]at hr
  rw [h,if_pos rfl]at c
  have c2:=pnumber_pu s hco p b r' d (by omega) hb
  clear hT ha hb
  refine PuH.intro Tryz.func362 rfl (by kernel_rfl) fun C hC=>?_
  repeat(refine A1 ⟨?_⟩;intros)
  refine WfT c ?_
  rintro _ _ ⟨rfl,rfl⟩
  simp only [List.cons_append,List.nil_append]
  repeat(refine A1 ⟨?_⟩;intros)
  refine WfX c2 ?_ ?_
  ·rintro _ _ ⟨⟩
  ·rintro _ _ hx
   rw [hC]
   exact hx
 |false =>
  rw [h,if_neg (by decide)]at c
  have c2:=pnumber_pu s hco p a r d (by omega) ha
  clear hT ha
  refine PuH.intro Tryz.func362 rfl (by kernel_rfl) fun C hC=>?_
  repeat(refine A1 ⟨?_⟩;intros)
  refine WfT c ?_
  rintro _ _ ⟨rfl,rfl⟩
  simp only [List.cons_append,List.nil_append]
  repeat(refine A1 ⟨?_⟩;intros)
  refine WfX c2 ?_ ?_
  ·rintro _ _ ⟨⟩
  ·rintro _ _ hx
   rw [hC]
   exact hx
theorem ppoint_pu [Sent 5] (s:SV) (hco:CO s [s]) (p:Nat) (ts:List Tok) (hT:TOk ts) (d:Nat) (hr:ts.length≤1000000):PuH Tryz.prog 333 [lit (.pointer (some ⟨p,0,none⟩))] [(p,psT,psC ts d s)] (fun _ _=>False) (fun pv _=>isE pv):=by
 obtain⟨a,r,rfl,ha⟩:=hT.cons
 have hr':r.length≤1000000:=by simp only [List.length_cons]at hr;omega
 have c:=pexpect_pu s hco p a r d hr' ha [40] (by decide)
 have c2:=fun h=>prational_pu s hco p r (hT.next (w:=[40]) h) d hr'
 clear ha hT hr
 refine PuH.intro Tryz.func333 rfl (by kernel_rfl) fun C hC=>?_
 repeat(refine A1 ⟨?_⟩;intros)
 refine WfX c ?_ ?_
 ·rintro _ _ ⟨h,rfl,rfl⟩
  simp only [List.cons_append,List.nil_append]
  replace c2:=c2 h
  repeat(refine A1 ⟨?_⟩;intros)
  refine WfX c2 ?_ ?_
  ·rintro _ _ ⟨⟩
  ·rintro _ _ hx
   rw [hC]
   exact hx
 ·rintro _ _ ⟨_,hx⟩
  rw [hC]
  exact hx
theorem flat_snocN (l:List Nd) (n:Nd):((l++[n]).map ndx).flatten=(l.map ndx).flatten++ndx n:=by
 rw [List.map_append,List.flatten_append];simp only [List.map_cons,List.map_nil,List.flatten_cons,List.flatten_nil,List.append_nil]
def Nd.at (n:Nd) (a:Tok):Nd:={n with ln:=a.l,cl:=a.c}
theorem prsadd_pu (p:Nat) (ts:List Tok) (d:Nat) (ns:List Nd) (s:SV) (Hs:LH) (hown:Own exPT 19 ns.length (ns.map ndx).flatten s Hs) (hns:ns.length≤1000000) (n:Nd) (a:Tok) :
  PuH Tryz.prog 284 [lit (.pointer (some ⟨p,0,none⟩)),ag (ndx n),ag (tkx a)] ((p,psT,psC ts d s)::Hs)
   (fun v H=>v=lit (.int .i64 ns.length)∧∃s' Hs',Own exPT 19 (ns++[n.at a]).length ((ns++[n.at a]).map ndx).flatten s' Hs'∧H=(p,psT,psC ts d s')::Hs') noX:=by
 have hco:=hown.co
 refine PuH.intro Tryz.func284 rfl (by kernel_rfl) fun C hC=>?_
 repeat(first|(refine AS ⟨?_⟩;intros)|(refine O1 ⟨?_⟩;intros))
 rename_i b4 b5
 refine WP.perm (List.Perm.swap _ _ _) ?_
 refine WdM [5,7] ((b5,tkT,tkx a)::(p,psT,psC ts d s)::Hs) (fun k=>[(b4,exPT,ndx (if k=0 then n else if k=1 then {n with ln:=a.l}else n.at a))]) ?_
 refine MkD 5 ?_
 repeat(refine A1 ⟨?_⟩;intros)
 refine mkD0 ?_
 refine MkR (sv:=top) (TS.store (sv:=lit (.int .i64 a.l)) (ds:=[lit (.int .i64 a.l)]) rfl rfl rfl rfl (HUpd.here _) rfl rfl) ?_
 refine MkD 1 ?_
 repeat(refine A1 ⟨?_⟩;intros)
 refine mkD0 ?_
 refine MkR (sv:=top) (TS.store (sv:=lit (.int .i64 a.c)) (ds:=[lit (.int .i64 a.c)]) rfl rfl rfl rfl (HUpd.here _) rfl rfl) ?_
 refine MkN ?_
 simp only [List.cons_append,List.nil_append]
 rw [show(if [5,7].length=0 then n else if [5,7].length=1 then {n with ln:=(a.l:Int)}else n.at a)=n.at a from rfl]
 generalize n.at a=na at *
 repeat(first|(refine AS ⟨?_⟩;intros)|(refine O1 ⟨?_⟩;intros))
 refine WdL 7 1 ?_
 repeat(refine A1 ⟨?_⟩;intros)
 refine dL1 (fun b19=>?_)
 refine Gown hown (by omega) (by(repeat(first|exact LOk.nil|refine Lsk ?_|refine Lcv ?_))) (fun s' H1 hown'=>?_) (Tk.skip _ (Tk.skip _ (Tk.skip _ (Tk.skip _ (Tk.same _))))) List.mem_cons_self
 refine Gn (by(repeat(first|exact LOk.nil|refine Lsk ?_|refine Lcv ?_))) ?_
 have hown'':Own exPT 19 (ns++[na]).length ((ns++[na]).map ndx).flatten s' H1:=by
  rw [flat_snocN,List.length_append,List.length_singleton];exact hown'
 have hco':=hown''.co
 have hlen:(ns++[na]).length=ns.length+1:=by simp
 simp only [List.cons_append,List.nil_append]
 repeat(refine A1 ⟨?_⟩;intros)
 refine Ss ?_
 refine Ws (sv:=s') ?_
 repeat(refine A1 ⟨?_⟩;intros)
 refine Wo (ov_lenOwn hown'' rfl) ?_
 repeat(refine A1 ⟨?_⟩;intros)
 exact endHR _ _ (end1 (RV.tmp (s:=lit (.int .i64 (((ns++[na]).length:Nat)-1))) rfl) (Le.refl _)) (by repeat(first|exact List.Sublist.refl _|refine List.Sublist.cons _ ?_)) ⟨by rw [List.length_append,List.length_singleton,show((ns.length+1:Nat):Int)-1=(ns.length:Int) by omega],s',H1,hown'',rfl⟩
abbrev ptrP (p:Nat):SV:=lit (.pointer (some ⟨p,0,none⟩))
def Ps (p:Nat) (ts:List Tok) (d:Nat) (ns:List Nd) (H:LH):Prop:=∃s Hs,Own exPT 19 ns.length (ns.map ndx).flatten s Hs∧H=(p,psT,psC ts d s)::Hs
def LvR (p f lv d:Nat) (ts:List Tok) (ns:List Nd):SV→LH→Prop:=fun v H'=>∃A x ts',prs f lv d ns.length ts none=some (A,x,ts')∧v=lit (.int .i64 ((ns.length+A.length:Nat)-1))∧Ps p ts' d (ns++A) H'
def LvX (f lv d:Nat) (ts:List Tok) (ns:List Nd):SV→LH→Prop:=fun pv _=>prs f lv d ns.length ts none=none∧isE pv
def Lv (fn:FuncId) (p f lv:Nat):Prop:=∀(ts:List Tok) (d:Nat) (ns:List Nd) (H:LH),TOk ts→d≤200→ns.length+ts.length≤100000→8*ts.length+7≤f+2*lv→Ps p ts d ns H→PuH Tryz.prog fn [ptrP p] H (LvR p f lv d ts ns) (LvX f lv d ts ns)
theorem pnested_pu [Sent 6] (fn:FuncId) (p f lv:Nat) (a:Tok) (r:List Tok) (d:Nat) (ns:List Nd) (H:LH) (hd:d≤200) (hr:ns.length+r.length≤100000) (h:Ps p (a::r) d ns H)
  (hin:d<200→∀H1,Ps p r (d+1) ns H1→PuH Tryz.prog fn [ptrP p] H1 (LvR p f lv (d+1) r ns) (LvX f lv (d+1) r ns)) :
  PuH Tryz.prog 330 [ptrP p,fnv fn [ptrP p] []] H (fun v H'=>d<200∧∃A x ts',prs f lv (d+1) ns.length r none=some (A,x,ts')∧v=lit (.int .i64 ((ns.length+A.length:Nat)-1))∧Ps p ts' d (ns++A) H')
   (fun pv _=>(200≤d∨prs f lv (d+1) ns.length r none=none)∧isE pv):=by
 obtain⟨s,Hs,hown,rfl⟩:=h
 have hco:=hown.co
 by_cases h200:200≤d
 ·clear hin
  refine PuH.intro Tryz.func330 rfl (by kernel_rfl) fun C hC=>?_
  repeat(refine A1 ⟨?_⟩;intros)
  refine WfX (pfail_pu s hco p a r d (by omega) _) ?_ ?_
  ·rintro _ _ ⟨⟩
  ·rintro _ _ hx
   rw [hC]
   exact⟨.inl h200,hx⟩
 ·replace hin:=hin (by omega)
  refine PuH.intro Tryz.func330 rfl (by kernel_rfl) fun C hC=>?_
  repeat(refine A1 ⟨?_⟩;intros)
  refine WfT (ptake_pu s hco p a r d (by omega)) ?_
  rintro _ _ ⟨rfl,rfl⟩
  refine WPL.perm List.perm_append_comm ?_
  simp only [List.cons_append,List.nil_append]
  repeat(refine A1 ⟨?_⟩;intros)
  refine WvX (hin _ ⟨s,Hs,hown,rfl⟩) ?_ ?_ (Tk.same _)
  ·rintro _ _ ⟨A,x,ts',hp,rfl,s1,H1,hown1,rfl⟩
   have hco1:=hown1.co
   simp only [List.cons_append,List.nil_append]
   clear hin
   repeat(refine A1 ⟨?_⟩;intros)
   exact endHR _ _ (end1 (RV.tmp rfl) (Le.refl _)) (List.Sublist.refl _) ⟨by omega,A,x,ts',hp,rfl,s1,H1,hown1,by rw [show((d+1:Nat):Int)-1=(d:Int) by omega]⟩
  ·rintro _ _ ⟨hp,hx⟩
   rw [hC]
   exact⟨.inr hp,hx⟩
abbrev bxT:TypeId:=212
theorem psum1_pu (p b:Nat) (a:Tok) (r:List Tok) (d:Nat) (s:SV) (hco:CO s [s]) (Hs:LH) (hr:r.length≤1000000) (ha:a.ok) :
  PuH Tryz.prog 225 [ptrP b] ((b,bxT,[ptrP p])::(p,psT,psC (a::r) d s)::Hs) (fun v H=>v=lit (.int .i64 (opAt 1 (a::r)))∧H=(b,bxT,[ptrP p])::(p,psT,psC (a::r) d s)::Hs) noX:=by
 have c1:=pis_pu s hco a r d hr ha [43] (by decide)
 have c2:=pis_pu s hco a r d hr ha [45] (by decide)
 have c3:=pis_pu s hco a r d hr ha [94] (by decide)
 unfold opAt
 rw [if_pos rfl]
 cases h1:tis (a::r) [43]with
 |true =>
  rw [h1]at c1
  refine PuH.intro Tryz.func225 rfl (by kernel_rfl) fun C hC=>?_
  repeat(refine A1 ⟨?_⟩;intros)
  refine Wo (ov_callT c1 rfl mmA) ?_
  repeat(refine A1 ⟨?_⟩;intros)
  exact endHR _ _ (end1 (RV.tmp rfl) (Le.refl _)) (List.Sublist.refl _) ⟨rfl,rfl⟩
 |false =>
  rw [h1]at c1
  cases h2:tis (a::r) [45]with
  |true =>
   rw [h2]at c2
   refine PuH.intro Tryz.func225 rfl (by kernel_rfl) fun C hC=>?_
   repeat(refine A1 ⟨?_⟩;intros)
   refine Wo (ov_callT c1 rfl mmA) ?_
   repeat(refine A1 ⟨?_⟩;intros)
   refine Wo (ov_callT c2 rfl mmA) ?_
   repeat(refine A1 ⟨?_⟩;intros)
   exact endHR _ _ (end1 (RV.tmp rfl) (Le.refl _)) (List.Sublist.refl _) ⟨rfl,rfl⟩
  |false =>
   rw [h2]at c2
   cases h3:tis (a::r) [94]with
   |true =>
    rw [h3]at c3
    refine PuH.intro Tryz.func225 rfl (by kernel_rfl) fun C hC=>?_
    repeat(refine A1 ⟨?_⟩;intros)
    refine Wo (ov_callT c1 rfl mmA) ?_
    repeat(refine A1 ⟨?_⟩;intros)
    refine Wo (ov_callT c2 rfl mmA) ?_
    repeat(refine A1 ⟨?_⟩;intros)
    refine Wo (ov_callT c3 rfl mmA) ?_
    repeat(refine A1 ⟨?_⟩;intros)
    exact endHR _ _ (end1 (RV.tmp rfl) (Le.refl _)) (List.Sublist.refl _) ⟨rfl,rfl⟩
   |false =>
    rw [h3]at c3
    refine PuH.intro Tryz.func225 rfl (by kernel_rfl) fun C hC=>?_
    repeat(refine A1 ⟨?_⟩;intros)
    refine Wo (ov_callT c1 rfl mmA) ?_
    repeat(refine A1 ⟨?_⟩;intros)
    refine Wo (ov_callT c2 rfl mmA) ?_
    repeat(refine A1 ⟨?_⟩;intros)
    refine Wo (ov_callT c3 rfl mmA) ?_
    repeat(refine A1 ⟨?_⟩;intros)
    exact endHR _ _ (end1 (RV.tmp rfl) (Le.refl _)) (List.Sublist.refl _) ⟨rfl,rfl⟩
theorem pprod1_pu (p b:Nat) (a:Tok) (r:List Tok) (d:Nat) (s:SV) (hco:CO s [s]) (Hs:LH) (hr:r.length≤1000000) (ha:a.ok) :
  PuH Tryz.prog 286 [ptrP b] ((b,bxT,[ptrP p])::(p,psT,psC (a::r) d s)::Hs) (fun v H=>v=lit (.int .i64 (opAt 2 (a::r)))∧H=(b,bxT,[ptrP p])::(p,psT,psC (a::r) d s)::Hs) noX:=by
 have c1:=pis_pu s hco a r d hr ha [42] (by decide)
 unfold opAt
 rw [if_neg (by decide)]
 cases h1:tis (a::r) [42]with
 |true =>
  rw [h1]at c1
  refine PuH.intro Tryz.func286 rfl (by kernel_rfl) fun C hC=>?_
  repeat(refine A1 ⟨?_⟩;intros)
  refine Wo (ov_callT c1 rfl mmA) ?_
  repeat(refine A1 ⟨?_⟩;intros)
  exact endHR _ _ (end1 (RV.tmp rfl) (Le.refl _)) (List.Sublist.refl _) ⟨rfl,rfl⟩
 |false =>
  rw [h1]at c1
  refine PuH.intro Tryz.func286 rfl (by kernel_rfl) fun C hC=>?_
  repeat(refine A1 ⟨?_⟩;intros)
  refine Wo (ov_callT c1 rfl mmA) ?_
  repeat(refine A1 ⟨?_⟩;intros)
  exact endHR _ _ (end1 (RV.tmp rfl) (Le.refl _)) (List.Sublist.refl _) ⟨rfl,rfl⟩
end Go.Ab
