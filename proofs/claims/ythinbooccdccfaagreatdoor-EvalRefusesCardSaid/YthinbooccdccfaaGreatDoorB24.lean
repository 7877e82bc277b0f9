/- Texts laid one behind the other: Nrm, RNum, Rev, FmtN, Fmt, Wrt, RPoint. -/
import Derived.Test.YthinbooccdccfaaGreatDoorB23
import Derived.Test.YthinbooccdccfaaGreatDoorB10
import Derived.Test.YthinbooccdccfaaGreatDoorB08
import Derived.Test.YthinbooccdccfaaGreatDoorB20
import Derived.Test.YthinbooccdccfaaGreatDoorLate
import Derived.Test.YthinbooccdccfaaGreatDoorB04
import Derived.Test.YthinbooccdccfaaGreatDoorB11
import Derived.Test.YthinbooccdccfaaGreatDoorB14
set_option linter.unusedSectionVars false
set_option linter.unusedVariables false
set_option linter.unusedSimpArgs false
namespace Go.Ab
open Go.Proofs
variable [Base]
theorem nrm_eq {xs:List Nat}(hD:D xs) (h:nrm xs=true):xs=dgs (val xs):=by
 rw [←trimL_eq hD]
 rcases List.eq_nil_or_concat xs with e|⟨ys,y,e⟩
 ·subst e;rfl
 ·rw [List.concat_eq_append]at e
  subst e
  have hy:y≠0:=by
   unfold nrm at h
   simp at h
   exact h
  rw [trimL_snoc_ne ys y hy]
def nrmQ (r:RQ):Bool:=decide (r.s=decide (r.v.num<0)∧r.n=dgs r.v.num.natAbs∧r.d=dgs r.v.den)
theorem nrmQ_q {r:RQ}(h:nrmQ r=true):qr r=q r.v:=by
 obtain⟨h1,h2,h3⟩:=of_decide_eq_true h
 show ag [lit (.bool r.s),dg r.n,dg r.d]=ag [lit (.bool (decide (r.v.num<0))),nat r.v.num.natAbs,nat r.v.den]
 rw [←h1,nat,←h2,nat,←h3]
theorem nrmQ_eq {r:RQ}(h1:D r.n) (h2:D r.d):nrmQ r=(nrmI r.s r.n&&nrm r.d&&decide (r.d.length≠0)&&decide (Nat.gcd (val r.n) (val r.d)=1)):=by
 apply Bool.eq_iff_iff.2
 constructor
 ·intro h
  obtain⟨a1,a2,a3⟩:=of_decide_eq_true h
  have e1:nrmI r.s r.n=true:=by rw [a1,a2];exact nrmI_int _
  have e2:nrm r.d=true:=by rw [a3];exact nrm_dgs _
  have e3:r.d.length≠0:=by rw [a3];exact dgs_ne_nil r.v.den_nz
  have e4:Nat.gcd (val r.n) (val r.d)=1:=by rw [a2,a3,val_dgs,val_dgs];exact r.v.reduced
  rw [e1,e2,decide_eq_true e3,decide_eq_true e4];rfl
 ·intro h
  simp only [Bool.and_eq_true,decide_eq_true_eq]at h
  obtain⟨⟨⟨e1,e2⟩,e3⟩,e4⟩:=h
  have hs:nrm r.n=true∧(r.s=true→0<r.n.length):=by
   unfold nrmI at e1
   simp only [Bool.and_eq_true,Bool.or_eq_true,Bool.not_eq_true',decide_eq_true_eq]at e1
   refine⟨e1.1,fun h=>?_⟩
   rcases e1.2 with h'|h'
   ·rw [h]at h';cases h'
   ·exact h'
  have b1:=nrm_eq h1 hs.1
  have b2:=nrm_eq h2 e2
  have hd:val r.d≠0:=fun e=>by rw [e,dgs_zero]at b2;rw [b2]at e3;exact e3 rfl
  have hv:r.v.num=sv r.s (val r.n)∧r.v.den=val r.d:=by
   have:=mk_sv r.s (val r.n) hd
   rw [e4,Nat.div_one,Nat.div_one]at this
   exact this
  unfold nrmQ
  rw [hv.1,hv.2,sv_abs,←b1,←b2,sv_neg]
  refine decide_eq_true ⟨?_,rfl,rfl⟩
  cases hrs:r.s with
  |false=>rfl
  |true =>
   have hp:=hs.2 hrs
   have:0<val r.n:=Nat.pos_of_ne_zero fun e=>by rw [e,dgs_zero]at b1;rw [b1]at hp;simp at hp
   simp [this]
theorem blen_1 {n:Nat}:blen n=1↔n=1:=by
 have h0:=blen0 (n:=n)
 have h1:=blen1 (n:=n)
 omega
theorem fnormal_pu {r:RQ}{L:Nat}(h:r.ok L) (hL:L≤1000000):Pu Tryz.prog 377 [qr r] (lit (.bool (nrmQ r))):=by
 obtain⟨h1,h2,h3,h4⟩:=h
 rw [nrmQ_eq h1 h2]
 have c1:=intNormal_pu r.s r.n (by omega)
 have c2:=natNormal_pu r.d (by omega)
 cases e1:nrmI r.s r.n with
 |false =>
  rw [e1]at c1
  refine Pu.intro Tryz.func377 rfl (by kernel_rfl) fun C=>?_
  repeat(first|(refine A1 ⟨?_⟩;intros)|refine W4 c1 ⟨?_⟩)
  exact E1
 |true =>
  rw [e1]at c1
  cases e2:nrm r.d with
  |false =>
   rw [e2]at c2
   refine Pu.intro Tryz.func377 rfl (by kernel_rfl) fun C=>?_
   repeat(first|(refine A1 ⟨?_⟩;intros)|refine W4 c1 ⟨?_⟩|refine W4 c2 ⟨?_⟩)
   exact E1
  |true =>
   rw [e2]at c2
   by_cases e3:r.d.length=0
   ·rw [decide_eq_false (p:=r.d.length≠0) (fun h=>h e3)]
    refine Pu.intro Tryz.func377 rfl (by kernel_rfl) fun C=>?_
    repeat(first|(refine A1 ⟨?_⟩;intros)|refine W4 c1 ⟨?_⟩|refine W4 c2 ⟨?_⟩)
    exact E1
   ·rw [decide_eq_true (p:=r.d.length≠0) e3]
    have hn:nrm r.n=true:=by
     unfold nrmI at e1
     simp only [Bool.and_eq_true]at e1
     exact e1.1
    have b1:=nrm_eq h1 hn
    have b2:=nrm_eq h2 e2
    have c3:=gcd_n (val r.n) (val r.d) (by rw [←b1];omega) (by rw [←b2];omega)
    rw [nat,nat,←b1,←b2]at c3
    have hg:=dlen_gcd_le (a:=val r.n) (b:=val r.d) (n:=L) (by rw [←b1];omega) (by rw [←b2];omega)
    have c4:=bits_nat (dgs (Nat.gcd (val r.n) (val r.d))) (by omega) (D_dgs _)
    rw [val_dgs]at c4
    have hb:=blen_1 (n:=Nat.gcd (val r.n) (val r.d))
    clear b1 b2 hn e1 e2
    by_cases hg1:Nat.gcd (val r.n) (val r.d)=1
    ·have hbl:=hb.2 hg1
     rw [decide_eq_true hg1]
     clear hb
     rw [hbl]at c4
     generalize Nat.gcd (val r.n) (val r.d)=g at *
     clear hbl
     refine Pu.intro Tryz.func377 rfl (by kernel_rfl) fun C=>?_
     repeat(first|(refine A1 ⟨?_⟩;intros)|refine W4 c1 ⟨?_⟩|refine W4 c2 ⟨?_⟩|refine W4 c3 ⟨?_⟩|refine W4 c4 ⟨?_⟩)
     exact E1
    ·have hbl:blen (Nat.gcd (val r.n) (val r.d))≠1:=fun e=>hg1 (hb.1 e)
     rw [decide_eq_false hg1]
     clear hb
     generalize blen (Nat.gcd (val r.n) (val r.d))=bl at *
     refine Pu.intro Tryz.func377 rfl (by kernel_rfl) fun C=>?_
     repeat(first|(refine A1 ⟨?_⟩;intros)|refine W4 c1 ⟨?_⟩|refine W4 c2 ⟨?_⟩|refine W4 c3 ⟨?_⟩|refine W4 c4 ⟨?_⟩)
     exact E1
theorem sameQ_g (s t:Bool) (xs ys us vs:List Nat) (hx:xs.length≤1000000) (hy:ys.length≤1000000) (hu:us.length≤1000000) (hv:vs.length≤1000000):Pu Tryz.prog 135 [qraw s xs ys,qraw t us vs] (lit (.bool (decide ((s=t∧xs=us)∧ys=vs)))):=by
 have c1:=sameI_pu s t xs us (by omega) (by omega)
 have c2:=sameN_pu ys vs (by omega) (by omega)
 by_cases h1:s=t∧xs=us
 ·rw [decide_eq_true h1]at c1
  by_cases h2:ys=vs
  ·rw [decide_eq_true h2]at c2
   rw [decide_eq_true ⟨h1,h2⟩]
   refine Pu.intro Tryz.func135 rfl (by kernel_rfl) fun C=>?_
   repeat(first|(refine A1 ⟨?_⟩;intros)|refine W4 c1 ⟨?_⟩|refine W4 c2 ⟨?_⟩)
   exact E1
  ·rw [decide_eq_false h2]at c2
   rw [decide_eq_false (fun h=>h2 h.2)]
   refine Pu.intro Tryz.func135 rfl (by kernel_rfl) fun C=>?_
   repeat(first|(refine A1 ⟨?_⟩;intros)|refine W4 c1 ⟨?_⟩|refine W4 c2 ⟨?_⟩)
   exact E1
 ·rw [decide_eq_false h1]at c1
  rw [decide_eq_false (fun h=>h1 h.1)]
  refine Pu.intro Tryz.func135 rfl (by kernel_rfl) fun C=>?_
  repeat(first|(refine A1 ⟨?_⟩;intros)|refine W4 c1 ⟨?_⟩|refine W4 c2 ⟨?_⟩)
  exact E1
theorem rnormalQ_pu {r:RQ}{L:Nat}(h:r.ok L) (hL:L≤1000):Pu Tryz.prog 271 [qr r] (lit (.bool (nrmQ r))):=by
 cases hn:nrmQ r with
 |true =>
  rw [nrmQ_q hn]
  exact normalQ_t r.v (ht_v h) (by omega)
 |false =>
  have hne:=of_decide_eq_false hn
  have hht:=ht_v h
  have c1:=q_pu h (by omega)
  have c2:=toQ_pu r.v (by omega)
  have n1:=ht_num r.v
  have n2:=ht_den r.v
  obtain⟨h1,h2,h3,h4⟩:=h
  have c3:=sameQ_g r.s (decide (r.v.num<0)) r.n r.d (dgs r.v.num.natAbs) (dgs r.v.den) (by omega) (by omega) (show il r.v.num≤_ by omega) (by omega)
  rw [decide_eq_false (p:=(r.s=decide (r.v.num<0)∧r.n=dgs r.v.num.natAbs)∧r.d=dgs r.v.den) (fun h=>hne ⟨h.1.1,h.1.2,h.2⟩)]at c3
  clear hne hn
  refine Pu.intro Tryz.func271 rfl (by kernel_rfl) fun C=>?_
  repeat(first|(refine A1 ⟨?_⟩;intros)|refine W4 c1 ⟨?_⟩|refine W4 c2 ⟨?_⟩|refine W4 c3 ⟨?_⟩)
  exact E1
def numT (r:RQ):List UInt8:=if nrmQ r=true then fmt r.v else []
theorem numT_t {r:RQ}(h:nrmQ r=true):numT r=fmt r.v:=by unfold numT;rw [if_pos h]
theorem numT_f {r:RQ}(h:nrmQ r=false):numT r=[]:=by unfold numT;rw [h];rfl
theorem numT_len {r:RQ}{L:Nat}(h:r.ok L):(numT r).length≤20*L+24:=by
 unfold numT
 split
 ·have:=fmt_len (ht_v h);omega
 ·simp
theorem rnumber_pu (w:Nat) (r:RQ){L:Nat}(h:r.ok L) (hL:L≤100) (bad lg:Bool) :
  PuH Tryz.prog 212 [lit (.pointer (some ⟨w,0,none⟩)),qr r] [(w,105,wC bad lg)]
   (fun r' H=>r'=str (numT r)∧H=[(w,105,wC (bad || !nrmQ r) lg)]) noX:=by
 have c1:=rnormalQ_pu h (by omega)
 have hht:=ht_v h
 cases hn:nrmQ r with
 |false =>
  rw [hn]at c1
  refine PuH.intro Tryz.func212 rfl (by kernel_rfl) fun C hC=>?_
  repeat(first|(refine A1 ⟨?_⟩;intros)|refine W4 c1 ⟨?_⟩)
  exact endHR _ _ (end1 (RV.tmp (s:=str []) rfl) (Le.refl _)) (List.sublist_cons_self _ _) ⟨by rw [numT_f hn],by rw [Bool.not_false,Bool.or_true]⟩
 |true =>
  rw [hn]at c1
  rw [numT_t hn]
  rw [nrmQ_q hn]at c1⊢
  have c2:=q_of r.v (by omega)
  have c3:=rtextP_pu r.v hht (by omega)
  have hf:=fmt_len hht
  generalize hx:fmt r.v=s at *
  have hlen:([40]++s++[44]++[48]++[41]).length=s.length+4:=by simp
  generalize hS:[40]++s++[44]++[48]++[41]=S at *
  have hcut:(S.take (s.length+1)).drop 1=s:=by rw [←hS];simp
  generalize r.v=x at *
  refine PuH.intro Tryz.func212 rfl (by kernel_rfl) fun C hC=>?_
  repeat(first|(refine A1 ⟨?_⟩;intros)|refine W4 c1 ⟨?_⟩|refine W4 c2 ⟨?_⟩|refine W4 c3 ⟨?_⟩)
  refine WP.loopS (ι:=Nat×Nat) (fun y=>y.1≤S.length∧y.2≤y.1) (fun y=>S.length-y.1) (fun y=>fm [(0,lit (.pointer (some ⟨w,0,none⟩))),(5,str S),(6,lit (.int .i64 y.2)),(7,lit (.int .i64 y.1))]) (fun _=>[(w,105,wC bad lg)]) (0,0)
   ⟨Nat.zero_le _,Nat.le_refl _⟩ lfA (by repeat(first|exact List.Sublist.refl _|refine List.Sublist.cons _ ?_)) ?_
  clear c1 c2 c3
  rintro ⟨k,m⟩ ⟨hk,hm⟩ K hK
  simp only at hk hm⊢
  by_cases hkl:k<S.length
  ·have hgo:∀F' H' m',m'≤k+1→LeF F' (fm [(0,lit (.pointer (some ⟨w,0,none⟩))),(5,str S),(6,lit (.int .i64 (m':Nat))),(7,lit (.int .i64 (k+1:Nat)))])→[(w,105,wC bad lg)].Sublist H'→K F' H':=fun F' H' m' h0 h1 h2=>hK F' H' (k+1,m') ⟨by simp only;omega,h0⟩ (by simp only;omega) h1 h2
   clear hK hcut hn
   by_cases b1:(S.getD k 0).toNat<48
   ·repeat(refine A1 ⟨?_⟩;intros)
    exact hgo _ _ 0 (by omega) lfA (List.Sublist.refl _)
   ·by_cases b2:57<(S.getD k 0).toNat
    ·repeat(refine A1 ⟨?_⟩;intros)
     exact hgo _ _ 0 (by omega) lfA (List.Sublist.refl _)
    ·repeat(refine A1 ⟨?_⟩;intros)
     exact hgo _ _ (m+1) (by omega) lfA (List.Sublist.refl _)
  ·clear hK
   repeat(refine A1 ⟨?_⟩;intros)
   refine Wo (ov_ssl (a:=S) (i:=1) (j:=s.length+1) rfl (fun y hy=>by cases hy;exact⟨.i64,1,rfl,rfl⟩) (fun h=>by cases h) (fun y hy=>by cases hy;exact⟨.i64,(S.length:Int)-3,rfl,by omega⟩) (fun h=>by cases h) (by omega) (by omega)) ?_
   rw [hcut]
   repeat(refine A1 ⟨?_⟩;intros)
   exact endHR _ _ (end1 (RV.tmp rfl) (Le.refl _)) (List.Sublist.refl _) ⟨rfl,by rw [Bool.not_true,Bool.or_false]⟩
def rvAt (l m:List UInt8) (i:Nat):Prop:=m.length=l.length∧∀p,p<l.length→m.getD p 0=if p<i∨l.length-i≤p then l.getD (l.length-1-p) 0 else l.getD p 0
theorem rvAt_zero (l:List UInt8):rvAt l l 0:=⟨rfl,fun p hp=>by rw [if_neg (by omega)]⟩
theorem rvAt_step {l m:List UInt8}{i:Nat}(h:rvAt l m i) (hi:i+1≤l.length-1-i):rvAt l ((m.set i (m.getD (l.length-1-i) 0)).set (l.length-1-i) (m.getD i 0)) (i+1):=by
 obtain⟨h1,h2⟩:=h
 refine⟨by rw [List.length_set,List.length_set,h1],fun p hp=>?_⟩
 have ei:=h2 i (by omega)
 have ej:=h2 (l.length-1-i) (by omega)
 rw [if_neg (by omega)]at ei ej
 have g:∀(x:List UInt8) (k:Nat) (v:UInt8) (q:Nat),k<x.length→(x.set k v).getD q 0=if q=k then v else x.getD q 0:=fun x k v q hk=>by
  simp only [List.getD,List.getElem?_set]
  by_cases e:k=q
  ·subst e;simp [hk]
  ·simp [e,Ne.symm e]
 rw [g _ _ _ _ (by rw [List.length_set];omega),g _ _ _ _ (by omega),ei,ej]
 by_cases p1:p=l.length-1-i
 ·subst p1
  rw [if_pos rfl,if_pos (by omega)]
  congr 1;omega
 ·rw [if_neg p1]
  by_cases p2:p=i
  ·subst p2
   rw [if_pos rfl,if_pos (by omega)]
  ·rw [if_neg p2,h2 p hp]
   by_cases p3:p<i∨l.length-i≤p
   ·rw [if_pos p3,if_pos (by omega)]
   ·rw [if_neg p3,if_neg (by omega)]
theorem rvAt_end {l m:List UInt8}{i:Nat}(h:rvAt l m i) (hi:l.length≤2*i+1) (hi2:2*i≤l.length+1):m=l.reverse:=by
 obtain⟨h1,h2⟩:=h
 apply List.ext_getElem?
 intro p
 by_cases hp:p<l.length
 ·have h3:=h2 p hp
  have hm:p<m.length:=by omega
  have e1:m[p]? = some (m.getD p 0):=by simp [List.getD,hm]
  rw [e1,h3,List.getElem?_reverse hp]
  have hl:l.length-1-p<l.length:=by omega
  by_cases p3:p<i∨l.length-i≤p
  ·rw [if_pos p3];simp [List.getD,hl]
  ·rw [if_neg p3]
   have:p=l.length-1-p:=by omega
   rw [←this];simp [List.getD,hp]
 ·rw [List.getElem?_eq_none (by omega),List.getElem?_eq_none (by simp;omega)]
theorem bys_get {l:List UInt8}{rest:List SV}{i:Nat}(h:i<l.length):(bys l++rest)[i]? = some (lit (.int .u8 ((l.getD i 0).toNat:Nat))):=by
 rw [List.getElem?_append_left (by rw [bys_len];exact h)]
 simp [bys,List.getD,h]
theorem bys_set {l:List UInt8}{rest:List SV}{i:Nat}(h:i<l.length) (x:UInt8):spl (bys l++rest) i [lit (.int .u8 (x.toNat:Nat))]=bys (l.set i x)++rest:=by
 simp only [spl]
 rw [List.set_append_left _ _ (by rw [bys_len];exact h)]
 unfold bys
 rw [List.map_set]
theorem ble_bys {l:List UInt8}{rest:List SV}{i:Nat}(h:i<l.length):Nat.ble (i+1) (bys l++rest).length=true:=by
 apply Nat.ble_eq_true_of_le
 rw [List.length_append,bys_len];omega
theorem reverse_pu (b c:Nat) (l:List UInt8) (rest:List SV) (hl:l.length≤1000000000) :
  PuH Tryz.prog 390 [lit (.slice (some ⟨b,0,none⟩) l.length c)] [(b,5,bys l++rest)] (fun r H=>r=Ab.tup []∧H=[(b,5,bys l.reverse++rest)]) noX:=by
 refine PuH.intro Tryz.func390 rfl (by kernel_rfl) fun C hC=>?_
 repeat(refine A1 ⟨?_⟩;intros)
 refine WP.loopS (ι:=Nat×List UInt8) (fun x=>rvAt l x.2 x.1∧2*x.1≤l.length+1) (fun x=>l.length-x.1) (fun x=>fm [(0,lit (.slice (some ⟨b,0,none⟩) l.length c)),(2,lit (.int .i64 x.1)),(3,lit (.int .i64 ((l.length:Int)-1-x.1)))]) (fun x=>[(b,5,bys x.2++rest)]) (0,l) ⟨rvAt_zero l,by omega⟩ ?_ (List.Sublist.refl _) ?_
 ·exact LeF.cons (Le.refl _) (LeF.cons (Le.refl _) (LeF.cons (Le.int (by simp)) (LeF.nil _)))
 ·rintro ⟨i,m⟩ ⟨hm,hi⟩ K hK
  simp only at hi hm⊢
  have hml:=hm.1
  by_cases hc:(i:Int)<(l.length:Int)-1-i
  ·have ej:(l.length:Int)-1-i=((l.length-1-i:Nat):Int):=by omega
   rw [ej]at hc⊢
   generalize hj:l.length-1-i=j at hc⊢
   repeat(first|(refine AS ⟨?_⟩;intros)|(refine O1 ⟨?_⟩;intros))
   refine WdL 13 1 ?_
   repeat(refine A1 ⟨?_⟩;intros)
   refine Wdo (ov_loadL rfl mmA (bys_get (by omega))) ?_
   repeat(refine A1 ⟨?_⟩;intros)
   refine Wdo (ov_loadL rfl mmA (bys_get (by omega))) ?_
   repeat(refine A1 ⟨?_⟩;intros)
   refine dL0 ?_
   refine Gs (b:=b) (o:=i) (sv:=lit (.int .u8 ((m.getD j 0).toNat:Nat))) (cs':=bys (m.set i (m.getD j 0))++rest) rfl rfl rfl (.here _) (bys_set (by omega) _) (ble_bys (by omega)) ?_ ?_
   ·(repeat(first|exact LOk.nil|refine Lsk ?_|refine Lcv ?_))
   refine Gn ?_ ?_
   ·(repeat(first|exact LOk.nil|refine Lsk ?_|refine Lcv ?_))
   repeat(refine A1 ⟨?_⟩;intros)
   refine WPL.store (b:=b) (o:=j) (sv:=lit (.int .u8 ((m.getD i 0).toNat:Nat))) (cs':=bys ((m.set i (m.getD j 0)).set j (m.getD i 0))++rest) rfl rfl rfl (.here _) (bys_set (by rw [List.length_set];omega) _) (ble_bys (by rw [List.length_set];omega)) ?_
   repeat(refine A1 ⟨?_⟩;intros)
   subst hj
   refine hK _ _ (i+1,_) ⟨rvAt_step hm (by omega),by omega⟩ (by simp only;omega) ?_ (List.Sublist.refl _)
   exact LeF.cons (Le.refl _) (LeF.cons (Le.int (by simp)) (LeF.cons (Le.int (by simp only;omega)) (LeF.nil _)))
  ·repeat(refine A1 ⟨?_⟩;intros)
   refine endHN _ _ end0 (List.Sublist.refl _) ⟨rfl,?_⟩
   rw [rvAt_end hm (by omega) (by omega)]
theorem mulPow (q m:Nat):q*10^(m+1)=10*(q*10^m):=by rw [Nat.pow_succ,←Nat.mul_assoc,Nat.mul_comm]
theorem decR_q {q r m:Nat}(h0:¬(q=0∧r=0)):decR (q*10^(m+1)+r)=UInt8.ofNat (48+r%10)::decR (q*10^m+r/10):=by
 have hp:0<10^m:=Nat.pow_pos (by omega)
 have e:=mulPow q m
 generalize hz:q*10^m=z at *
 have hne:q*10^(m+1)+r≠0:=by
  rw [e]
  intro h
  have hz0:z=0:=by omega
  rw [←hz]at hz0
  rcases Nat.mul_eq_zero.1 hz0 with h1|h1
  ·exact h0 ⟨h1,by omega⟩
  ·omega
 rw [decR_pos hne,e]
 congr 2
 ·omega
 ·omega
theorem Own.bytes {l:List UInt8}{s:SV}{H:LH}(hl:l.length≠0) (h:Own 5 1 l.length (bys l) s H):∃b c rest,s=lit (.slice (some ⟨b,0,none⟩) l.length c)∧H=[(b,5,bys l++rest)]:=by
 obtain⟨_,⟨e,_,_⟩|⟨b,c,_,_,rfl,rfl⟩⟩:=h
 ·exact absurd e hl
 ·exact⟨b,c,_,rfl,rfl⟩
theorem byte_dec (r:Nat):[lit (.int .u8 (48+((r%10:Nat):Int)))]=bys [UInt8.ofNat (48+r%10)]:=by
 have e2:(UInt8.ofNat (48+r%10)).toNat=48+r%10:=by rw [UInt8.toNat_ofNat'];omega
 show _=[lit (.int .u8 (((UInt8.ofNat (48+r%10)).toNat:Nat):Int))]
 rw [e2]
 rfl
set_option maxHeartbeats 1000000 in
theorem formatN_pu (n:Nat){L:Nat}(hn:(dgs n).length≤L) (hL:L≤100000):Pu Tryz.prog 378 [nat n] (str (dec n)):=by
 have c0:=trim_nat (dgs n) (by omega) (D_dgs n)
 rw [val_dgs]at c0
 have hdl:=decR_len hn
 refine Pu.intro Tryz.func378 rfl (by kernel_rfl) fun C=>?_
 repeat(first|(refine A1 ⟨?_⟩;intros)|refine W4 c0 ⟨?_⟩)
 refine WP.loopS (ι:=Nat×List UInt8×SV×LH) (fun x=>x.2.1++decR x.1=decR n∧Own 5 1 x.2.1.length (bys x.2.1) x.2.2.1 x.2.2.2∧(dgs x.1).length≤L) (fun x=>x.1) (fun x=>fm [(0,nat x.1),(3,x.2.2.1)]) (fun x=>x.2.2.2) (n,[],lit (.slice none 0 0),[])
  ⟨by rw [List.nil_append],Own.nil _ _,hn⟩ lfA (List.nil_sublist _) ?_
 rintro ⟨x,acc,s,Hs⟩ ⟨hx,hown,hxL⟩ K hK
 simp only at hx hown hxL⊢
 haveI:=hown.co
 by_cases hx0:x=0
 ·subst hx0
  have e:(dgs 0).length=0:=by rw [dgs_zero];rfl
  rw [decR_zero,List.append_nil]at hx
  subst hx
  clear hK
  have ed:(decR n).length=0↔n=0:=by
   constructor
   ·intro h
    by_cases h0:n=0
    ·exact h0
    ·rw [decR_pos h0]at h;cases h
   ·rintro rfl;rw [decR_zero];rfl
  by_cases h0:n=0
  ·have e2:=ed.2 h0
   unfold dec
   rw [if_pos h0]
   clear ed
   repeat(refine A1 ⟨?_⟩;intros)
   refine Wo (ov_lenOwn hown rfl) ?_
   repeat(refine A1 ⟨?_⟩;intros)
   exact E1
  ·have e2:(decR n).length≠0:=fun h=>h0 (ed.1 h)
   unfold dec
   rw [if_neg h0]
   obtain⟨b,c,rest,rfl,rfl⟩:=hown.bytes e2
   clear ed
   generalize hl:decR n=l at *
   repeat(refine A1 ⟨?_⟩;intros)
   refine WfH (reverse_pu b c l rest (by omega)) ?_
   rintro _ _ ⟨rfl,rfl⟩
   simp only [List.cons_append,List.nil_append]
   repeat(refine A1 ⟨?_⟩;intros)
   refine Wo (ov_bytesStr (l:=l.reverse) (rest:=rest) (c:=c) (by kernel_rfl) (by rw [List.length_reverse];rfl) mmA (LeL.refl _)) ?_
   repeat(refine A1 ⟨?_⟩;intros)
   exact E1
 ·have e:=dgs_ne_nil hx0
  repeat(refine A1 ⟨?_⟩;intros)
  have c1:=short_nat (dgs x) 1000000000 (by omega) (D_dgs x) (by omega) (by omega)
  rw [val_dgs]at c1
  have hq:(dgs (x/1000000000)).length≤L:=Nat.le_trans (len_mono (Nat.div_le_self _ _)) hxL
  have hfin:∀F' H' acc' s' Hs',acc'++decR (x/1000000000)=decR n→Own 5 1 acc'.length (bys acc') s' Hs'→LeF F' (fm [(0,nat (x/1000000000)),(3,s')])→Hs'.Sublist H'→K F' H':=fun F' H' acc' s' Hs' g1 g2 h1 h2=>hK F' H' (x/1000000000,acc',s',Hs') ⟨g1,g2,hq⟩ (by simp only;omega) h1 h2
  clear hK
  have hz:acc++decR (x/1000000000*10^(9-0)+x%1000000000)=decR n:=by
   rw [←hx];congr 2;omega
  have hr:x%1000000000<10^(9-0):=by
   show _<1000000000;omega
  generalize x%1000000000=r at *
  generalize x/1000000000=q at *
  repeat(first|(refine A1 ⟨?_⟩;intros)|refine W4 c1 ⟨?_⟩)
  refine WP.loopS (ι:=Nat×Nat×List UInt8×SV×LH) (fun y=>y.1≤9∧y.2.1<10^(9-y.1)∧y.2.2.1++decR (q*10^(9-y.1)+y.2.1)=decR n∧Own 5 1 y.2.2.1.length (bys y.2.2.1) y.2.2.2.1 y.2.2.2.2) (fun y=>9-y.1)
   (fun y=>fm [(0,nat q),(3,y.2.2.2.1),(4,lit (.int .u32 y.2.1)),(15,lit (.int .i64 y.1))]) (fun y=>y.2.2.2.2) (0,r,acc,s,Hs) ⟨by omega,hr,hz,hown⟩ lfA (List.Sublist.refl _) ?_
  clear hr hz hown this hx c1
  rintro ⟨k,r,acc,s,Hs⟩ ⟨hk,hr,hz,hown⟩ K2 hK2
  simp only at hk hr hz hown⊢
  haveI:=hown.co
  by_cases hk9:k=9
  ·subst hk9
   have:r=0:=by simpa using hr
   subst this
   rw [show q*10^(9-9)+0=q from by simp]at hz
   clear hK2 hr
   repeat(refine A1 ⟨?_⟩;intros)
   exact hfin _ _ acc s Hs hz hown lfA (List.Sublist.refl _)
  ·obtain⟨m,hm⟩:∃m,9-k=m+1:=⟨8-k,by omega⟩
   have hm':9-(k+1)=m:=by omega
   rw [hm]at hr hz
   have hrb:r<1000000000:=Nat.lt_of_lt_of_le hr (show 10^(m+1)≤10^9 from Nat.pow_le_pow_right (by omega) (by omega))
   have hal:acc.length≤10*L:=by
    have h2:=congrArg List.length hz
    simp only [List.length_append]at h2
    omega
   by_cases hqr:q=0∧r=0
   ·obtain⟨rfl,rfl⟩:=hqr
    have e:(dgs 0).length=0:=by rw [dgs_zero];rfl
    rw [Nat.zero_mul]at hz
    clear hK2 hr
    repeat(refine A1 ⟨?_⟩;intros)
    exact hfin _ _ acc s Hs hz hown lfA (List.Sublist.refl _)
   ·rw [decR_q hqr]at hz
    have hr1:r/10<10^m:=by
     rw [Nat.pow_succ]at hr;omega
    have hz1:(acc++[UInt8.ofNat (48+r%10)])++decR (q*10^m+r/10)=decR n:=by rw [←hz];simp
    have hfin2:∀F' H' s' Hs',Own 5 1 (acc.length+1) (bys acc++bys [UInt8.ofNat (48+r%10)]) s' Hs'→LeF F' (fm [(0,nat q),(3,s'),(4,lit (.int .u32 (r/10:Nat))),(15,lit (.int .i64 (k+1:Nat)))])→Hs'.Sublist H'→K2 F' H':=fun F' H' s' Hs' g h1 h2=>hK2 F' H' (k+1,r/10,acc++[UInt8.ofNat (48+r%10)],s',Hs') ⟨by simp only;omega,by simp only;rw [hm'];exact hr1,by simp only;rw [hm'];exact hz1,by simp only;rw [List.length_append,bys_append];exact g⟩ (by simp only;omega) h1 h2
    clear hK2 hz hz1 hr hfin
    by_cases hq0:q=0
    ·have hr0:r≠0:=fun h=>hqr ⟨hq0,h⟩
     subst hq0
     have e:(dgs 0).length=0:=by rw [dgs_zero];rfl
     clear hqr
     repeat(refine A1 ⟨?_⟩;intros)
     refine Wown hown (by omega) (fun s1 H1 o1=>?_)
     rw [byte_dec r]at o1
     haveI:=o1.co
     have ht:(r:Int).tdiv 10=((r/10:Nat):Int):=(Int.ofNat_tdiv r 10).symm
     repeat(refine A1 ⟨?_⟩;intros)
     exact hfin2 _ _ s1 H1 o1 lfA (List.sublist_cons_self _ _)
    ·have e:=dgs_ne_nil hq0
     clear hqr
     repeat(refine A1 ⟨?_⟩;intros)
     refine Wown hown (by omega) (fun s1 H1 o1=>?_)
     rw [byte_dec r]at o1
     haveI:=o1.co
     have ht:(r:Int).tdiv 10=((r/10:Nat):Int):=(Int.ofNat_tdiv r 10).symm
     repeat(refine A1 ⟨?_⟩;intros)
     exact hfin2 _ _ s1 H1 o1 lfA (List.sublist_cons_self _ _)
theorem formatI_pu (z:Int){L:Nat}(hz:il z≤L) (hL:L≤10000):Pu Tryz.prog 391 [int z] (str (if z<0 then [45]++dec z.natAbs else dec z.natAbs)):=by
 have e1:il z=(dgs z.natAbs).length:=rfl
 have c:=sign_raw (decide (z<0)) (dgs z.natAbs) (by omega) (D_dgs _)
 rw [val_dgs,sv_int]at c
 have c1:=formatN_pu z.natAbs (L:=L) (by omega) (by omega)
 have hl:=dec_len (n:=z.natAbs) (L:=L) (by omega)
 generalize dec z.natAbs=s at *
 have k1:([45]:List UInt8).length=1:=rfl
 by_cases h:z<0
 ·rw [Int.sign_eq_neg_one_of_neg h]at c
  rw [if_pos h]
  refine Pu.intro Tryz.func391 rfl (by kernel_rfl) fun C=>?_
  repeat(first|(refine A1 ⟨?_⟩;intros)|refine W4 c ⟨?_⟩|refine W4 c1 ⟨?_⟩)
  exact E1
 ·obtain⟨hs,hs2⟩:0≤z.sign∧z.sign≤1:=by
   rcases Int.lt_trichotomy z 0 with h0|h0|h0
   ·omega
   ·rw [h0];decide
   ·rw [Int.sign_eq_one_of_pos h0];omega
  generalize z.sign=g at *
  rw [if_neg h]
  refine Pu.intro Tryz.func391 rfl (by kernel_rfl) fun C=>?_
  repeat(first|(refine A1 ⟨?_⟩;intros)|refine W4 c ⟨?_⟩|refine W4 c1 ⟨?_⟩)
  exact E1
theorem rwhole_pu (x:Rat) (h:ht x≤10000000):Pu Tryz.prog 392 [fr x] (lit (.bool (decide (x.den=1)))):=by
 have b1:=ht_den x
 by_cases hs:small x
 ·rw [fr_s hs]
  have h1:=hs.2
  by_cases h2:x.den=1
  ·rw [decide_eq_true h2,h2]
   refine Pu.intro Tryz.func392 rfl (by kernel_rfl) fun C=>?_
   repeat(refine A1 ⟨?_⟩;intros)
   exact E1
  ·rw [decide_eq_false h2]
   have h3:=x.den_nz
   refine Pu.intro Tryz.func392 rfl (by kernel_rfl) fun C=>?_
   repeat(refine A1 ⟨?_⟩;intros)
   exact E1
 ·rw [fr_b hs]
  have c:=bits_nat (dgs x.den) (by omega) (D_dgs _)
  rw [val_dgs]at c
  have h1:=blen_1 (n:=x.den)
  by_cases h2:x.den=1
  ·have h3:=h1.2 h2
   rw [decide_eq_true h2]
   refine Pu.intro Tryz.func392 rfl (by kernel_rfl) fun C=>?_
   repeat(first|(refine A1 ⟨?_⟩;intros)|refine W4 c ⟨?_⟩)
   exact E1
  ·have h3:blen x.den≠1:=fun h=>h2 (h1.1 h)
   rw [decide_eq_false h2]
   refine Pu.intro Tryz.func392 rfl (by kernel_rfl) fun C=>?_
   repeat(first|(refine A1 ⟨?_⟩;intros)|refine W4 c ⟨?_⟩)
   exact E1
theorem string_pu (x:Rat){L:Nat}(hx:ht x≤L) (hL:L≤10000):Pu Tryz.prog 379 [fr x] (str (fmt x)):=by
 have n1:=ht_num x
 have n2:=ht_den x
 have a1:=num_pu x (by omega)
 have a2:=den_pu x (by omega)
 have a3:=rwhole_pu x (by omega)
 have c1:=formatI_pu x.num (L:=L) (by omega) (by omega)
 have c2:=formatN_pu x.den (L:=L) (by omega) (by omega)
 have l1:=dec_len (n:=x.num.natAbs) (L:=L) (show il x.num≤L by omega)
 have l2:=dec_len (n:=x.den) (L:=L) (by omega)
 have k1:([45]:List UInt8).length=1:=rfl
 have k2:([47]:List UInt8).length=1:=rfl
 unfold fmt
 have l3:(if x.num<0 then [45]++dec x.num.natAbs else dec x.num.natAbs).length≤10*L+2:=by
  split
  ·rw [List.length_append,k1];omega
  ·omega
 generalize(if x.num<0 then [45]++dec x.num.natAbs else dec x.num.natAbs)=D1 at *
 generalize hD2:dec x.den=D2 at *
 have k3:([47]++D2).length=D2.length+1:=by simp
 by_cases h2:x.den=1
 ·rw [if_pos h2,List.append_nil]
  rw [decide_eq_true h2]at a3
  refine Pu.intro Tryz.func379 rfl (by kernel_rfl) fun C=>?_
  repeat(first|(refine A1 ⟨?_⟩;intros)|refine W4 a1 ⟨?_⟩|refine W4 a2 ⟨?_⟩|refine W4 a3 ⟨?_⟩|refine W4 c1 ⟨?_⟩|refine W4 c2 ⟨?_⟩)
  exact E1
 ·rw [if_neg h2]
  rw [decide_eq_false h2]at a3
  refine Pu.intro Tryz.func379 rfl (by kernel_rfl) fun C=>?_
  repeat(first|(refine A1 ⟨?_⟩;intros)|refine W4 a1 ⟨?_⟩|refine W4 a2 ⟨?_⟩|refine W4 a3 ⟨?_⟩|refine W4 c1 ⟨?_⟩|refine W4 c2 ⟨?_⟩)
  exact E1
theorem formatQ_pu (x:Rat){L:Nat}(hx:ht x≤L) (hL:L≤10000):Pu Tryz.prog 360 [q x] (str (fmt x)):=by
 have n1:=ht_num x
 have n2:=ht_den x
 have e1:il x.num=(dgs x.num.natAbs).length:=rfl
 have c1:=of_raw (decide (x.num<0)) (dgs x.num.natAbs) (dgs x.den) (by omega) (by omega) (D_dgs _) (D_dgs _)
 rw [val_dgs,val_dgs,sv_int,Rat.mkRat_self]at c1
 have c2:=string_pu x hx hL
 refine Pu.intro Tryz.func360 rfl (by kernel_rfl) fun C=>?_
 repeat(first|(refine A1 ⟨?_⟩;intros)|refine W4 c1 ⟨?_⟩|refine W4 c2 ⟨?_⟩)
 exact E1
def Wtr (w:Nat) (l:List UInt8) (d:Nat) (H:LH):Prop:=∃a s Hb,(a=fresh∨a=self w)∧Byt l s Hb∧H=(w,289,wrC a s d false)::Hb
theorem putW_pu {w b d:Nat}{l:List UInt8}{H:LH}(h:Wtr w l d H) (t:List UInt8) (hl:l.length+t.length≤1000000000) :
  PuH Tryz.prog 216 [lit (.pointer (some ⟨w,0,none⟩)),lit (.slice (some ⟨b,0,none⟩) 1 1)] ((b,9,[str t])::H) (fun r H'=>r=Ab.tup []∧Wtr w (l++t) d H') noX:=by
 obtain⟨a,s,Hb,ha,hb,rfl⟩:=h
 exact(put1_pu ha hb t hl d false).mono (fun r H'=>by
  rintro ⟨s',Hb',hb',rfl,rfl⟩
  exact⟨rfl,_,_,_, .inr rfl,hb',rfl⟩) fun _ _ h=>h
theorem digits_pu (w n:Nat) (hn:(dgs n).length≤300):PuH Tryz.prog 359 [lit (.pointer (some ⟨w,0,none⟩)),nat n] [] (fun r H'=>r=Ab.tup []∧H'=[]) noX:=by
 have c:=bits_nat (dgs n) (by omega) (D_dgs _)
 have hb:=blen_val (D_dgs n)
 rw [val_dgs]at c hb
 refine PuH.intro Tryz.func359 rfl (by kernel_rfl) fun C hC=>?_
 repeat(first|(refine A1 ⟨?_⟩;intros)|refine W4 c ⟨?_⟩)
 exact endHN _ _ end0 (List.Sublist.refl _) ⟨rfl,rfl⟩
theorem rational_pu {w d:Nat}{l:List UInt8}{H:LH}(h:Wtr w l d H) (r:RQ){L:Nat}(hr:r.ok L) (hL:L≤200) (hl:l.length≤100000000) :
  PuH Tryz.prog 328 [lit (.pointer (some ⟨w,0,none⟩)),qr r] H (fun r' H'=>nrmQ r=true∧r'=Ab.tup []∧Wtr w (l++fmt r.v) d H') (fun pv _=>nrmQ r=false∧pv=inval):=by
 have c0:=fnormal_pu hr (by omega)
 have c1:Pu Tryz.prog 358 [qr r] (lit (.bool (nrmQ r))):=by
  refine Pu.intro Tryz.func358 rfl (by kernel_rfl) fun C=>?_
  repeat(first|(refine A1 ⟨?_⟩;intros)|refine W4 c0 ⟨?_⟩)
  exact E1
 clear c0
 have hht:=ht_v hr
 cases hn:nrmQ r with
 |false =>
  rw [hn]at c1
  refine PuH.intro Tryz.func328 rfl (by kernel_rfl) fun C hC=>?_
  repeat(first|(refine A1 ⟨?_⟩;intros)|refine W4 c1 ⟨?_⟩)
  refine WneedF ?_
  rw [hC]
  exact⟨rfl,rfl⟩
 |true =>
  rw [hn]at c1
  rw [nrmQ_q hn]at c1⊢
  have n1:=ht_num r.v
  have n2:=ht_den r.v
  have e1:il r.v.num=(dgs r.v.num.natAbs).length:=rfl
  have c2:=formatQ_pu r.v hht (by omega)
  have hf:=fmt_len hht
  generalize r.v=x at *
  refine PuH.intro Tryz.func328 rfl (by kernel_rfl) fun C hC=>?_
  repeat(first|(refine A1 ⟨?_⟩;intros)|refine W4 c1 ⟨?_⟩)
  refine WneedT ?_
  repeat(refine A1 ⟨?_⟩;intros)
  refine WfH (digits_pu w x.num.natAbs (by omega)) ?_
  rintro _ _ ⟨rfl,rfl⟩
  simp only [List.cons_append,List.nil_append]
  repeat(refine A1 ⟨?_⟩;intros)
  refine WfH (digits_pu w x.den (by omega)) ?_
  rintro _ _ ⟨rfl,rfl⟩
  simp only [List.cons_append,List.nil_append]
  repeat(first|(refine A1 ⟨?_⟩;intros)|refine W4 c2 ⟨?_⟩)
  refine WfH (putW_pu h (fmt x) (by omega)) ?_
  rintro _ _ ⟨rfl,h'⟩
  repeat(refine A1 ⟨?_⟩;intros)
  exact endHN _ _ end0 (List.sublist_append_left _ _) ⟨by trivial,rfl,h'⟩
def ptxt (a b:RQ):List UInt8:=[40]++fmt a.v++[44]++fmt b.v++[41]
theorem ptxt_len {a b:RQ}{L:Nat}(ha:a.ok L) (hb:b.ok L):(ptxt a b).length≤40*L+60:=by
 have h1:=fmt_len (ht_v ha)
 have h2:=fmt_len (ht_v hb)
 unfold ptxt
 simp only [List.length_append,List.length_cons,List.length_nil]
 omega
theorem point_pu {w d:Nat}{l:List UInt8}{H:LH}(h:Wtr w l d H) (a b:RQ){L:Nat}(ha:a.ok L) (hb:b.ok L) (hL:L≤200) (hl:l.length≤90000000) :
  PuH Tryz.prog 277 [lit (.pointer (some ⟨w,0,none⟩)),pr a b] H (fun r' H'=>(nrmQ a&&nrmQ b)=true∧r'=Ab.tup []∧Wtr w (l++ptxt a b) d H') (fun pv _=>(nrmQ a&&nrmQ b)=false∧pv=inval):=by
 have h1:=fmt_len (ht_v ha)
 have h2:=fmt_len (ht_v hb)
 have k1:([40]:List UInt8).length=1:=rfl
 have k2:([44]:List UInt8).length=1:=rfl
 have k3:([41]:List UInt8).length=1:=rfl
 refine PuH.intro Tryz.func277 rfl (by kernel_rfl) fun C hC=>?_
 repeat(refine A1 ⟨?_⟩;intros)
 refine WfH (putW_pu h [40] (by omega)) ?_
 rintro _ _ ⟨rfl,g1⟩
 refine WPL.perm List.perm_append_comm ?_
 simp only [List.cons_append,List.nil_append]
 repeat(refine A1 ⟨?_⟩;intros)
 refine WfX (rational_pu g1 a ha hL (by rw [List.length_append];omega)) ?_ ?_
 ·rintro _ _ ⟨n1,rfl,g2⟩
  simp only [List.cons_append,List.nil_append]
  repeat(refine A1 ⟨?_⟩;intros)
  have hl2:(l++[40]++fmt a.v).length≤l.length+20*(L+1)+5:=by
   rw [List.length_append,List.length_append];omega
  refine WfH (putW_pu g2 [44] (by omega)) ?_
  rintro _ _ ⟨rfl,g3⟩
  refine WPL.perm List.perm_append_comm ?_
  simp only [List.cons_append,List.nil_append]
  repeat(refine A1 ⟨?_⟩;intros)
  refine WfX (rational_pu g3 b hb hL (by rw [List.length_append];omega)) ?_ ?_
  ·rintro _ _ ⟨n2,rfl,g4⟩
   simp only [List.cons_append,List.nil_append]
   repeat(refine A1 ⟨?_⟩;intros)
   refine WfH (putW_pu g4 [41] (by rw [List.length_append,List.length_append];omega)) ?_
   rintro _ _ ⟨rfl,g5⟩
   repeat(refine A1 ⟨?_⟩;intros)
   exact endHN _ _ end0 (List.sublist_append_left _ _) ⟨by rw [n1,n2];rfl,rfl,by simpa only [ptxt,List.append_assoc] using g5⟩
  ·rintro _ _ ⟨n2,rfl⟩
   rw [hC]
   exact⟨by rw [n1,n2];rfl,rfl⟩
 ·rintro _ _ ⟨n1,rfl⟩
  rw [hC]
  exact⟨by rw [n1];rfl,rfl⟩
def ptxt2 (a b c e:RQ):List UInt8:=[32]++ptxt a b++([32]++ptxt c e)
theorem points_pu {w d bp:Nat}{l:List UInt8}{H:LH}(h:Wtr w l d H) (a b c e:RQ){L:Nat}(ha:a.ok L) (hb:b.ok L) (hc:c.ok L) (he:e.ok L) (hL:L≤200) (hl:l.length≤80000000) :
  PuH Tryz.prog 217 [lit (.pointer (some ⟨w,0,none⟩)),lit (.slice (some ⟨bp,0,none⟩) 2 2)]
   ((bp,31,[lit (.bool a.s),dg a.n,dg a.d,lit (.bool b.s),dg b.n,dg b.d,lit (.bool c.s),dg c.n,dg c.d,lit (.bool e.s),dg e.n,dg e.d])::H)
   (fun r' H'=>(nrmQ a&&nrmQ b&&(nrmQ c&&nrmQ e))=true∧r'=Ab.tup []∧Wtr w (l++ptxt2 a b c e) d H') (fun pv _=>(nrmQ a&&nrmQ b&&(nrmQ c&&nrmQ e))=false∧pv=inval):=by
 have h1:=ptxt_len ha hb
 have h2:=ptxt_len hc he
 have k1:([32]:List UInt8).length=1:=rfl
 refine PuH.intro Tryz.func217 rfl (by kernel_rfl) fun C hC=>?_
 repeat(refine A1 ⟨?_⟩;intros)
 refine WneedT ?_
 repeat(refine A1 ⟨?_⟩;intros)
 refine WP.unroll 3 ?_
 refine WPR.succ ?_
 repeat(refine A1 ⟨?_⟩;intros)
 refine WfH (putW_pu h [32] (by omega)) ?_
 rintro _ _ ⟨rfl,g1⟩
 refine WPL.perm List.perm_append_comm ?_
 simp only [List.cons_append,List.nil_append]
 repeat(refine A1 ⟨?_⟩;intros)
 refine WfX (point_pu g1 a b ha hb hL (by rw [List.length_append];omega)) ?_ ?_
 ·rintro _ _ ⟨n1,rfl,g2⟩
  simp only [List.cons_append,List.nil_append]
  repeat(refine A1 ⟨?_⟩;intros)
  have hl2:(l++[32]++ptxt a b).length=l.length+1+(ptxt a b).length:=by
   rw [List.length_append,List.length_append];omega
  refine WfH (putW_pu g2 [32] (by omega)) ?_
  rintro _ _ ⟨rfl,g3⟩
  refine WPL.perm List.perm_append_comm ?_
  simp only [List.cons_append,List.nil_append]
  repeat(refine A1 ⟨?_⟩;intros)
  refine WfX (point_pu g3 c e hc he hL (by rw [List.length_append];omega)) ?_ ?_
  ·rintro _ _ ⟨n2,rfl,g4⟩
   simp only [List.cons_append,List.nil_append]
   repeat(refine A1 ⟨?_⟩;intros)
   refine endHN _ _ end0 ?_ ⟨by rw [n1,n2];rfl,rfl,by simpa only [ptxt2,List.append_assoc] using g4⟩
   repeat(first|exact List.Sublist.refl _|refine List.Sublist.cons _ ?_)
  ·rintro _ _ ⟨n2,rfl⟩
   rw [hC]
   exact⟨by rw [n1,n2];rfl,rfl⟩
 ·rintro _ _ ⟨n1,rfl⟩
  rw [hC]
  exact⟨by rw [n1];rfl,rfl⟩
abbrev wT:TypeId:=105
def rpT (a b:RQ):List UInt8:=[40]++numT a++[44]++numT b++[41]
theorem rpT_good {a b:RQ}(h:(nrmQ a&&nrmQ b)=true):rpT a b=ptxt a b:=by
 rw [Bool.and_eq_true]at h
 unfold rpT ptxt
 rw [numT_t h.1,numT_t h.2]
theorem rpT_len {a b:RQ}{L:Nat}(ha:a.ok L) (hb:b.ok L):(rpT a b).length≤40*L+60:=by
 have h1:=numT_len ha
 have h2:=numT_len hb
 unfold rpT
 simp only [List.length_append,List.length_cons,List.length_nil]
 omega
theorem rpoint_pu (w:Nat) (a b:RQ){L:Nat}(ha:a.ok L) (hb:b.ok L) (hL:L≤100) (bad lg:Bool) :
  PuH Tryz.prog 154 [lit (.pointer (some ⟨w,0,none⟩)),pr a b] [(w,wT,wC bad lg)] (fun r H=>r=str (rpT a b)∧H=[(w,wT,wC (bad || !nrmQ a || !nrmQ b) lg)]) noX:=by
 have c1:=rnumber_pu w a ha hL bad lg
 have c2:=rnumber_pu w b hb hL (bad || !nrmQ a) lg
 have h1:=numT_len ha
 have h2:=numT_len hb
 have k1:([40]:List UInt8).length=1:=rfl
 have k2:([44]:List UInt8).length=1:=rfl
 have k3:([41]:List UInt8).length=1:=rfl
 rw [show rpT a b=[40]++numT a++[44]++numT b++[41]from rfl]
 have q1:([40]++numT a).length=1+(numT a).length:=by simp;omega
 have q2:([40]++numT a++[44]).length=2+(numT a).length:=by simp;omega
 have q3:([40]++numT a++[44]++numT b).length=2+(numT a).length+(numT b).length:=by simp;omega
 refine PuH.intro Tryz.func154 rfl (by kernel_rfl) fun C hC=>?_
 repeat(first|(refine AS ⟨?_⟩;intros)|(refine O1 ⟨?_⟩;intros))
 rename_i b3
 refine WP.perm (List.Perm.swap _ _ _) ?_
 refine WdM [3,9] [(b3,31,[lit (.bool a.s),dg a.n,dg a.d,lit (.bool b.s),dg b.n,dg b.d])] (fun s=>[(w,wT,wC ([bad,bad || !nrmQ a,bad || !nrmQ a || !nrmQ b].getD s false) lg)]) ?_
 refine MkD 3 ?_
 repeat(refine A1 ⟨?_⟩;intros)
 refine mkD0 ?_
 refine MkC c1 ?_
 refine MkD 5 ?_
 repeat(refine A1 ⟨?_⟩;intros)
 refine mkD0 ?_
 refine MkC c2 ?_
 refine MkD 3 ?_
 repeat(refine A1 ⟨?_⟩;intros)
 refine mkD0 ?_
 refine MkN ?_
 repeat(refine A1 ⟨?_⟩;intros)
 exact endHR _ _ (end1 (RV.tmp (s:=str _) rfl) (Le.refl _)) (List.sublist_append_left _ _) ⟨rfl,rfl⟩
end Go.Ab
