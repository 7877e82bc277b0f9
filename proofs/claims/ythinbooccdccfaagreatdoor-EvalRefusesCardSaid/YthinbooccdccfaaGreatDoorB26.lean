/- Texts laid one behind the other: Part, RRes, RNode, Shape. -/
import Derived.Test.YthinbooccdccfaaGreatDoorB25
import Derived.Test.YthinbooccdccfaaGreatDoorB23
import Derived.Test.YthinbooccdccfaaGreatDoorLate
import Derived.Test.YthinbooccdccfaaGreatDoorB14
set_option linter.unusedSectionVars false
set_option linter.unusedVariables false
set_option linter.unusedSimpArgs false
namespace Go.Ab
open Go.Proofs
variable [Base]
inductive Ex
 |leaf (n:Nd)
 |un (n:Nd) (x:Ex)
 |bi (n:Nd) (l r:Ex)
def Ex.top:Ex→Nd
 | .leaf n=>n
 | .un n _=>n
 | .bi n _ _=>n
def Ex.size:Ex→Nat
 | .leaf _=>1
 | .un _ x=>1+x.size
 | .bi _ l r=>1+l.size+r.size
def rk (n:Nd):Int:=if n.k=6 then(if n.op=2 then 2 else 1)else 3
def Ex.At (ns:List Nd):Ex→Nat→Prop
 | .leaf n,i=>ns[i]? = some n∧1≤n.k∧n.k≤4
 | .un n x,i=>ns[i]? = some n∧n.k=5∧∃j:Nat,n.x=j∧x.At ns j
 | .bi n l r,i=>ns[i]? = some n∧n.k=6∧(1≤n.op∧n.op≤4)∧∃j k:Nat,n.x=j∧n.y=k∧l.At ns j∧r.At ns k
theorem Ex.At.top {ns:List Nd}:∀{t:Ex}{i:Nat},t.At ns i→ns[i]? = some t.top
 | .leaf _,_,h=>h.1
 | .un _ _,_,h=>h.1
 | .bi _ _ _,_,h=>h.1
def Ex.dep:Ex→Nat
 | .leaf _=>0
 | .un _ x=>(if rk x.top<3 then x.dep+1 else x.dep)+1
 | .bi n l r=>max (if rk l.top<rk n then l.dep+1 else l.dep) (if rk r.top<rk n+1 then r.dep+1 else r.dep)
theorem Ex.size_pos:∀t:Ex,1≤t.size
 | .leaf _=>Nat.le_refl _
 | .un _ x=>by simp only [Ex.size];omega
 | .bi _ l r=>by simp only [Ex.size];omega
theorem Ex.dep_le:∀t:Ex,t.dep≤2*t.size
 | .leaf _=>Nat.zero_le _
 | .un _ x=>by
  have:=x.dep_le
  simp only [Ex.dep,Ex.size]
  split <;> omega
 | .bi _ l r=>by
  have h1:=l.dep_le
  have h2:=r.dep_le
  simp only [Ex.dep,Ex.size]
  split <;> split <;> omega
def pdp (lv:Int) (x:Ex):Nat:=if rk x.top<lv then x.dep+1 else x.dep
def sgn (op:Int):List UInt8:=if op=1 then [32,43,32]else if op=2 then [32,42,32]else if op=3 then [32,45,32]else [32,94,32]
def par (b:Bool) (s:List UInt8):List UInt8:=if b=true then [40]++s++[41]else s
def Ex.txt:Ex→List UInt8
 | .leaf n=>if n.k=1 then n.nm else if n.k=2 then [97,108,108]else if n.k=3 then [110,111,110,101]else [104,97,108,102]++ptxt2 n.a n.b n.c n.e
 | .un _ x=>[126]++par (decide (rk x.top<3)) x.txt
 | .bi n l r=>par (decide (rk l.top<rk n)) l.txt++sgn n.op++par (decide (rk r.top<rk n+1)) r.txt
def Ex.good:Ex→Bool
 | .leaf n=>if n.k=1 then nmOk n.nm else if n.k=4 then(nrmQ n.a&&nrmQ n.b&&(nrmQ n.c&&nrmQ n.e))else true
 | .un _ x=>x.good
 | .bi _ l r=>l.good&&r.good
theorem par_len (b:Bool) (s:List UInt8):s.length≤(par b s).length∧(par b s).length≤s.length+2:=by
 unfold par
 split
 ·simp only [List.length_append,List.length_cons,List.length_nil];omega
 ·omega
def PartOk (ns:List Nd) (w:Nat) (t:Ex) (i:Nat):Prop :=
 ∀(d:Nat) (l:List UInt8) (H:LH),Wtr w l d H→d+t.dep≤200→l.length+t.txt.length+2*t.size≤80000000→
  PuH Tryz.prog 162 [lit (.pointer (some ⟨w,0,none⟩)),sl (ns.map ndx).flatten ns.length,lit (.int .i64 i)] H (fun r H'=>t.good=true∧r=Ab.tup []∧Wtr w (l++t.txt) d H') (fun pv _=>t.good=false∧pv=inval)
theorem operand1_pu {ns:List Nd}{w i d b4 b5 b6:Nat}{t:Ex}{l:List UInt8}{H:LH}(hp:PartOk ns w t i) (h:Wtr w l d H) (hd:d+t.dep≤200) (hl:l.length+t.txt.length+2*t.size≤80000000) :
  PuH Tryz.prog 278 [lit (.pointer (some ⟨b4,0,none⟩)),lit (.pointer (some ⟨b5,0,none⟩)),lit (.pointer (some ⟨b6,0,none⟩))]
   ([(b6,3,[lit (.int .i64 i)]),(b5,22,[sl (ns.map ndx).flatten ns.length]),(b4,206,[lit (.pointer (some ⟨w,0,none⟩))])]++H)
   (fun r H'=>t.good=true∧r=Ab.tup []∧∃H2,H'=[(b6,3,[lit (.int .i64 i)]),(b5,22,[sl (ns.map ndx).flatten ns.length]),(b4,206,[lit (.pointer (some ⟨w,0,none⟩))])]++H2∧Wtr w (l++t.txt) d H2) (fun pv _=>t.good=false∧pv=inval):=by
 have c:=hp d l H h hd hl
 refine PuH.intro Tryz.func278 rfl (by kernel_rfl) fun C hC=>?_
 simp only [List.cons_append,List.nil_append]
 repeat(refine A1 ⟨?_⟩;intros)
 refine WfX c ?_ ?_
 ·rintro _ _ ⟨g,rfl,h'⟩
  simp only [List.cons_append,List.nil_append]
  repeat(refine A1 ⟨?_⟩;intros)
  exact endHN _ _ end0 (List.Sublist.refl _) ⟨g,rfl,_,rfl,h'⟩
 ·rintro _ _ ⟨g,rfl⟩
  rw [hC]
  exact⟨g,rfl⟩
theorem operand_pu {ns:List Nd}{w i d:Nat}{t:Ex}{l:List UInt8}{H:LH}(hns:ns.length≤100000) (hp:PartOk ns w t i) (hat:ns[i]? = some t.top) (h:Wtr w l d H) (m:Int) (hd:d+pdp m t≤200) (hl:l.length+t.txt.length+2*t.size+2≤80000000) :
  PuH Tryz.prog 220 [lit (.pointer (some ⟨w,0,none⟩)),sl (ns.map ndx).flatten ns.length,lit (.int .i64 i),lit (.int .i64 m)] H
   (fun r H'=>t.good=true∧r=Ab.tup []∧Wtr w (l++par (decide (rk t.top<m)) t.txt) d H') (fun pv _=>t.good=false∧pv=inval):=by
 have hil:i<ns.length:=(List.getElem?_eq_some_iff.1 hat).1
 have hcut:=flat_at (f:=ndx) (n:=19) ndx_len hat
 have hne:(ns.map ndx).flatten≠[]:=flat_ne ndx_len (by omega) (fun e=>by rw [e]at hil;simp at hil)
 have c0:=rank_pu t.top
 change Pu _ _ _ (lit (.int .i64 (rk t.top)))at c0
 unfold pdp at hd
 generalize hn:t.top=n at *
 by_cases hr:m≤rk n
 ·rw [show par (decide (rk n<m)) t.txt=t.txt from by rw [decide_eq_false (by omega)];rfl]
  rw [if_neg (by omega)]at hd
  have c:=hp d l H h (by omega) (by omega)
  refine PuH.intro Tryz.func220 rfl (by kernel_rfl) fun C hC=>?_
  repeat(refine A1 ⟨?_⟩;intros)
  refine Wo (ov_idxS (cs':=ndx n) rfl rfl (by omega) (by omega) hcut hne) ?_
  repeat(first|(refine A1 ⟨?_⟩;intros)|refine W4 c0 ⟨?_⟩)
  refine WfX c ?_ ?_
  ·rintro _ _ ⟨g,rfl,h'⟩
   simp only [List.cons_append,List.nil_append]
   repeat(refine A1 ⟨?_⟩;intros)
   exact endHR _ _ end0 (by repeat(first|exact List.Sublist.refl _|refine List.Sublist.cons _ ?_)) ⟨g,rfl,h'⟩
  ·rintro _ _ ⟨g,rfl⟩
   rw [hC]
   exact⟨g,rfl⟩
 ·rw [show par (decide (rk n<m)) t.txt=[40]++t.txt++[41]from by rw [decide_eq_true (by omega)];rfl]
  have k1:([40]:List UInt8).length=1:=rfl
  have k2:([41]:List UInt8).length=1:=rfl
  have k3:(l++[40]).length=l.length+1:=by simp
  have k4:(l++[40]++t.txt).length=l.length+1+t.txt.length:=by rw [List.length_append,k3]
  rw [if_pos (by omega)]at hd
  refine PuH.intro Tryz.func220 rfl (by kernel_rfl) fun C hC=>?_
  repeat(refine A1 ⟨?_⟩;intros)
  refine Wo (ov_idxS (cs':=ndx n) rfl rfl (by omega) (by omega) hcut hne) ?_
  repeat(first|(refine A1 ⟨?_⟩;intros)|refine W4 c0 ⟨?_⟩)
  refine WfH (putW_pu h [40] (by omega)) ?_
  rintro _ _ ⟨rfl,g1⟩
  refine WPL.perm List.perm_append_comm ?_
  simp only [List.cons_append,List.nil_append]
  repeat(refine A1 ⟨?_⟩;intros)
  refine WPL.perm (List.perm_append_comm (l₁:=[_,_,_])) ?_
  refine WfX (deeper_pu g1 (by omega) (fun H1 h1=>operand1_pu hp h1 (by omega) (by omega))) ?_ ?_ rfl (Tk.same _)
  ·rintro _ _ ⟨g,rfl,H2,rfl,g2⟩
   simp only [List.nil_append]
   refine WPL.perm List.perm_append_comm ?_
   simp only [List.cons_append,List.nil_append]
   repeat(refine A1 ⟨?_⟩;intros)
   refine WfH (putW_pu g2 [41] (by omega)) ?_
   rintro _ _ ⟨rfl,g3⟩
   repeat(refine A1 ⟨?_⟩;intros)
   exact endHN _ _ end0 (List.sublist_append_left _ _) ⟨g,rfl,by rw [show l++40::(t.txt++[41])=l++[40]++t.txt++[41] by simp];exact g3⟩
  ·rintro _ _ ⟨g,rfl⟩
   rw [hC]
   exact⟨g,rfl⟩
theorem nameW_pu {w d:Nat}{l:List UInt8}{H:LH}(h:Wtr w l d H) (s:List UInt8) (hs:s.length≤1000) (hl:l.length≤100000000) :
  PuH Tryz.prog 215 [lit (.pointer (some ⟨w,0,none⟩)),str s] H (fun r H'=>nmOk s=true∧r=Ab.tup []∧Wtr w (l++s) d H') (fun pv _=>nmOk s=false∧pv=inval):=by
 obtain⟨a,sb,Hb,ha,hb,rfl⟩:=h
 refine(name_pu ha hb s hs hl d false).mono (fun r H'=>?_) fun pv H' h=>h
 rintro ⟨g,s',Hb',hb',rfl,rfl⟩
 exact⟨g,rfl,_,_,_, .inr rfl,hb',rfl⟩
abbrev sgns:List SV:=[str [],str [32,43,32],str [32,42,32],str [32,45,32],str [32,94,32]]
theorem part_leaf {ns:List Nd}{L:Nat}(hok:∀n∈ns,n.ok L) (hL:L≤200) (hns:ns.length≤100000) (w:Nat) (n:Nd) (i:Nat) (hat:(Ex.leaf n).At ns i):PartOk ns w (.leaf n) i:=fun d l H h hd hl=>by
  obtain⟨hat,hk1,hk4⟩:=hat
  have hil:i<ns.length:=(List.getElem?_eq_some_iff.1 hat).1
  have hcut:=flat_at (f:=ndx) (n:=19) ndx_len hat
  have hne:(ns.map ndx).flatten≠[]:=flat_ne ndx_len (by omega) (fun e=>by rw [e]at hil;simp at hil)
  obtain⟨na,nb,nc,ne,nn⟩:=hok n (List.mem_of_getElem? hat)
  clear hok
  by_cases k1:n.k=1
  ·rw [show(Ex.leaf n).txt=n.nm from by unfold Ex.txt;rw [if_pos k1]]at hl⊢
   rw [show(Ex.leaf n).good=nmOk n.nm from by unfold Ex.good;rw [if_pos k1]]
   refine PuH.intro Tryz.func162 rfl (by kernel_rfl) fun C hC=>?_
   repeat(refine A1 ⟨?_⟩;intros)
   refine Wo (ov_idxS (cs':=ndx n) rfl rfl (by omega) (by omega) hcut hne) ?_
   repeat(refine A1 ⟨?_⟩;intros)
   refine Wo (ov_buildA (e:=9) (len:=5) (cs:=sgns) (by kernel_rfl) (by repeat(first|exact Parts.nil|(apply Parts.cons;exact Eq.refl (lit _);infer_instance))) (by exact rfl)) ?_
   repeat(refine A1 ⟨?_⟩;intros)
   refine WfX (nameW_pu h n.nm (by omega) (by omega)) ?_ ?_
   ·rintro _ _ ⟨g,rfl,h'⟩
    simp only [List.cons_append,List.nil_append]
    repeat(refine A1 ⟨?_⟩;intros)
    exact endHN _ _ end0 (by repeat(first|exact List.Sublist.refl _|exact List.sublist_append_left _ _|refine List.Sublist.cons _ ?_)) ⟨g,rfl,h'⟩
   ·rintro _ _ ⟨g,rfl⟩
    rw [hC]
    exact⟨g,rfl⟩
  by_cases k2:n.k=2
  ·rw [show(Ex.leaf n).txt=[97,108,108]from by unfold Ex.txt;rw [if_neg k1,if_pos k2]]at hl⊢
   rw [show(Ex.leaf n).good=true from by unfold Ex.good;rw [if_neg (by omega),if_neg (by omega)]]
   have q:([97,108,108]:List UInt8).length=3:=rfl
   refine PuH.intro Tryz.func162 rfl (by kernel_rfl) fun C hC=>?_
   repeat(refine A1 ⟨?_⟩;intros)
   refine Wo (ov_idxS (cs':=ndx n) rfl rfl (by omega) (by omega) hcut hne) ?_
   repeat(refine A1 ⟨?_⟩;intros)
   refine Wo (ov_buildA (e:=9) (len:=5) (cs:=sgns) (by kernel_rfl) (by repeat(first|exact Parts.nil|(apply Parts.cons;exact Eq.refl (lit _);infer_instance))) (by exact rfl)) ?_
   repeat(refine A1 ⟨?_⟩;intros)
   refine WfH (putW_pu h [97,108,108] (by omega)) ?_
   rintro _ _ ⟨rfl,h'⟩
   repeat(refine A1 ⟨?_⟩;intros)
   exact endHN _ _ end0 (by repeat(first|exact List.Sublist.refl _|exact List.sublist_append_left _ _|refine List.Sublist.cons _ ?_)) ⟨rfl,rfl,h'⟩
  by_cases k3:n.k=3
  ·rw [show(Ex.leaf n).txt=[110,111,110,101]from by unfold Ex.txt;rw [if_neg k1,if_neg k2,if_pos k3]]at hl⊢
   rw [show(Ex.leaf n).good=true from by unfold Ex.good;rw [if_neg (by omega),if_neg (by omega)]]
   have q:([110,111,110,101]:List UInt8).length=4:=rfl
   refine PuH.intro Tryz.func162 rfl (by kernel_rfl) fun C hC=>?_
   repeat(refine A1 ⟨?_⟩;intros)
   refine Wo (ov_idxS (cs':=ndx n) rfl rfl (by omega) (by omega) hcut hne) ?_
   repeat(refine A1 ⟨?_⟩;intros)
   refine Wo (ov_buildA (e:=9) (len:=5) (cs:=sgns) (by kernel_rfl) (by repeat(first|exact Parts.nil|(apply Parts.cons;exact Eq.refl (lit _);infer_instance))) (by exact rfl)) ?_
   repeat(refine A1 ⟨?_⟩;intros)
   refine WfH (putW_pu h [110,111,110,101] (by omega)) ?_
   rintro _ _ ⟨rfl,h'⟩
   repeat(refine A1 ⟨?_⟩;intros)
   exact endHN _ _ end0 (by repeat(first|exact List.Sublist.refl _|exact List.sublist_append_left _ _|refine List.Sublist.cons _ ?_)) ⟨rfl,rfl,h'⟩
  have k4:n.k=4:=by omega
  rw [show(Ex.leaf n).txt=[104,97,108,102]++ptxt2 n.a n.b n.c n.e from by unfold Ex.txt;rw [if_neg k1,if_neg k2,if_neg k3]]at hl⊢
  rw [show(Ex.leaf n).good=(nrmQ n.a&&nrmQ n.b&&(nrmQ n.c&&nrmQ n.e))from by unfold Ex.good;rw [if_neg k1,if_pos k4]]
  have q:([104,97,108,102]:List UInt8).length=4:=rfl
  rw [List.length_append]at hl
  refine PuH.intro Tryz.func162 rfl (by kernel_rfl) fun C hC=>?_
  repeat(refine A1 ⟨?_⟩;intros)
  refine Wo (ov_idxS (cs':=ndx n) rfl rfl (by omega) (by omega) hcut hne) ?_
  repeat(refine A1 ⟨?_⟩;intros)
  refine Wo (ov_buildA (e:=9) (len:=5) (cs:=sgns) (by kernel_rfl) (by repeat(first|exact Parts.nil|(apply Parts.cons;exact Eq.refl (lit _);infer_instance))) (by exact rfl)) ?_
  repeat(refine A1 ⟨?_⟩;intros)
  refine WfH (putW_pu h [104,97,108,102] (by omega)) ?_
  rintro _ _ ⟨rfl,h1⟩
  refine WPL.perm List.perm_append_comm ?_
  simp only [List.cons_append,List.nil_append]
  repeat(refine A1 ⟨?_⟩;intros)
  refine WfX (points_pu h1 n.a n.b n.c n.e na nb nc ne hL (by rw [List.length_append];omega)) ?_ ?_
  ·rintro _ _ ⟨g,rfl,h'⟩
   simp only [List.cons_append,List.nil_append]
   repeat(refine A1 ⟨?_⟩;intros)
   rw [List.append_assoc]at h'
   exact endHN _ _ end0 (by repeat(first|exact List.Sublist.refl _|exact List.sublist_append_left _ _|refine List.Sublist.cons _ ?_)) ⟨g,rfl,h'⟩
  ·rintro _ _ ⟨g,rfl⟩
   rw [hC]
   exact⟨g,rfl⟩
theorem part1_pu {ns:List Nd}{w j d b3 b4 b6 b7:Nat}{x:Ex}{n:Nd}{l:List UInt8}{H:LH}(hns:ns.length≤100000) (hx:n.x=j) (hp:PartOk ns w x j) (hat:ns[j]? = some x.top) (h:Wtr w l d H) (hd:d+pdp 3 x≤200) (hl:l.length+x.txt.length+2*x.size+2≤80000000) :
  PuH Tryz.prog 219 [lit (.pointer (some ⟨b3,0,none⟩)),lit (.pointer (some ⟨b4,0,none⟩)),lit (.pointer (some ⟨b6,0,none⟩))]
   ([(b7,352,sgns),(b6,33,ndx n),(b4,22,[sl (ns.map ndx).flatten ns.length]),(b3,206,[lit (.pointer (some ⟨w,0,none⟩))])]++H)
   (fun r H'=>x.good=true∧r=Ab.tup []∧∃H2,H'=[(b7,352,sgns),(b6,33,ndx n),(b4,22,[sl (ns.map ndx).flatten ns.length]),(b3,206,[lit (.pointer (some ⟨w,0,none⟩))])]++H2∧Wtr w (l++par (decide (rk x.top<3)) x.txt) d H2) (fun pv _=>x.good=false∧pv=inval):=by
 have c:=operand_pu hns hp hat h 3 hd hl
 refine PuH.intro Tryz.func219 rfl (by kernel_rfl) fun C hC=>?_
 simp only [List.cons_append,List.nil_append]
 repeat(refine A1 ⟨?_⟩;intros)
 rw [hx]
 refine WfX c ?_ ?_
 ·rintro _ _ ⟨g,rfl,h'⟩
  simp only [List.cons_append,List.nil_append]
  repeat(refine A1 ⟨?_⟩;intros)
  exact endHN _ _ end0 (List.Sublist.refl _) ⟨g,rfl,_,rfl,h'⟩
 ·rintro _ _ ⟨g,rfl⟩
  rw [hC]
  exact⟨g,rfl⟩
theorem part_un {ns:List Nd}(hns:ns.length≤100000) (w:Nat) (n:Nd) (x:Ex) (i:Nat) (hat:(Ex.un n x).At ns i) (ih:∀j,x.At ns j→PartOk ns w x j):PartOk ns w (.un n x) i:=fun d l H h hd hl=>by
  obtain⟨hat,hk,j,hx,hxa⟩:=hat
  have hp:=ih j hxa
  have hil:i<ns.length:=(List.getElem?_eq_some_iff.1 hat).1
  have hcut:=flat_at (f:=ndx) (n:=19) ndx_len hat
  have hne:(ns.map ndx).flatten≠[]:=flat_ne ndx_len (by omega) (fun e=>by rw [e]at hil;simp at hil)
  have p1:=par_len (decide (rk x.top<3)) x.txt
  rw [show(Ex.un n x).txt=[126]++par (decide (rk x.top<3)) x.txt from rfl]at hl⊢
  rw [show(Ex.un n x).good=x.good from rfl]
  rw [show(Ex.un n x).size=1+x.size from rfl]at hl
  rw [show(Ex.un n x).dep=pdp 3 x+1 from rfl]at hd
  have q:([126]:List UInt8).length=1:=rfl
  rw [List.length_append]at hl
  have q1:(l++[126]).length=l.length+1:=by simp
  refine PuH.intro Tryz.func162 rfl (by kernel_rfl) fun C hC=>?_
  repeat(refine A1 ⟨?_⟩;intros)
  refine Wo (ov_idxS (cs':=ndx n) rfl rfl (by omega) (by omega) hcut hne) ?_
  repeat(refine A1 ⟨?_⟩;intros)
  refine Wo (ov_buildA (e:=9) (len:=5) (cs:=sgns) (by kernel_rfl) (by repeat(first|exact Parts.nil|(apply Parts.cons;exact Eq.refl (lit _);infer_instance))) (by exact rfl)) ?_
  repeat(refine A1 ⟨?_⟩;intros)
  refine WfH (putW_pu h [126] (by omega)) ?_
  rintro _ _ ⟨rfl,h1⟩
  refine WPL.perm List.perm_append_comm ?_
  simp only [List.cons_append,List.nil_append]
  repeat(refine A1 ⟨?_⟩;intros)
  refine WPL.perm (List.perm_append_comm (l₁:=[_,_,_,_])) ?_
  refine WfX (deeper_pu h1 (by omega) (fun H1 g1=>part1_pu hns hx hp hxa.top g1 (by omega) (by omega))) ?_ ?_ rfl (Tk.same _)
  ·rintro _ _ ⟨g,rfl,H2,rfl,h'⟩
   simp only [List.nil_append]
   rw [List.append_assoc]at h'
   repeat(refine A1 ⟨?_⟩;intros)
   exact endHN _ _ end0 (List.sublist_append_left _ _) ⟨g,rfl,h'⟩
  ·rintro _ _ ⟨g,rfl⟩
   rw [hC]
   exact⟨g,rfl⟩
theorem sgns_at {op:Int}(h1:1≤op) (h4:op≤4):sgns[op.toNat*1]? = some (str (sgn op)):=by
 have h:op=1∨op=2∨op=3∨op=4:=by omega
 rcases h with rfl|rfl|rfl|rfl <;> rfl
theorem sgn_len (op:Int):(sgn op).length=3:=by
 unfold sgn
 split
 ·rfl
 split
 ·rfl
 split <;> rfl
theorem part_bi {ns:List Nd}(hns:ns.length≤100000) (w:Nat) (n:Nd) (x y:Ex) (i:Nat) (hat:(Ex.bi n x y).At ns i) (ihx:∀j,x.At ns j→PartOk ns w x j) (ihy:∀j,y.At ns j→PartOk ns w y j):PartOk ns w (.bi n x y) i:=fun d l H h hd hl=>by
  obtain⟨hat,hk,⟨ho1,ho4⟩,j,k,hx,hy,hxa,hya⟩:=hat
  have hpx:=ihx j hxa
  have hpy:=ihy k hya
  have hil:i<ns.length:=(List.getElem?_eq_some_iff.1 hat).1
  have hcut:=flat_at (f:=ndx) (n:=19) ndx_len hat
  have hne:(ns.map ndx).flatten≠[]:=flat_ne ndx_len (by omega) (fun e=>by rw [e]at hil;simp at hil)
  have c0:=rank_pu n
  change Pu _ _ _ (lit (.int .i64 (rk n)))at c0
  have hrk:1≤rk n∧rk n≤2:=by unfold rk;rw [if_pos hk];split <;> omega
  have p1:=par_len (decide (rk x.top<rk n)) x.txt
  have p2:=par_len (decide (rk y.top<rk n+1)) y.txt
  have p3:=sgn_len n.op
  have hsg:=sgns_at ho1 ho4
  rw [show(Ex.bi n x y).txt=par (decide (rk x.top<rk n)) x.txt++sgn n.op++par (decide (rk y.top<rk n+1)) y.txt from rfl]at hl⊢
  rw [show(Ex.bi n x y).good=(x.good&&y.good)from rfl]
  rw [show(Ex.bi n x y).size=1+x.size+y.size from rfl]at hl
  rw [show(Ex.bi n x y).dep=max (pdp (rk n) x) (pdp (rk n+1) y)from rfl]at hd
  have hd1:d+pdp (rk n) x≤200:=Nat.le_trans (Nat.add_le_add_left (Nat.le_max_left _ _) d) hd
  have hd2:d+pdp (rk n+1) y≤200:=Nat.le_trans (Nat.add_le_add_left (Nat.le_max_right _ _) d) hd
  clear hd
  rw [List.length_append,List.length_append]at hl
  have q1:(l++par (decide (rk x.top<rk n)) x.txt).length=l.length+(par (decide (rk x.top<rk n)) x.txt).length:=List.length_append
  have q2:(l++par (decide (rk x.top<rk n)) x.txt++sgn n.op).length=l.length+(par (decide (rk x.top<rk n)) x.txt).length+(sgn n.op).length:=by rw [List.length_append,q1]
  generalize hpd1:par (decide (rk x.top<rk n)) x.txt=s1 at *
  generalize hpd2:par (decide (rk y.top<rk n+1)) y.txt=s2 at *
  have c1:=operand_pu hns hpx hxa.top h (rk n) hd1 (by omega)
  rw [hpd1]at c1
  generalize hrn:rk n=r at *
  refine PuH.intro Tryz.func162 rfl (by kernel_rfl) fun C hC=>?_
  repeat(refine A1 ⟨?_⟩;intros)
  refine Wo (ov_idxS (cs':=ndx n) rfl rfl (by omega) (by omega) hcut hne) ?_
  repeat(refine A1 ⟨?_⟩;intros)
  refine Wo (ov_buildA (e:=9) (len:=5) (cs:=sgns) (by kernel_rfl) (by repeat(first|exact Parts.nil|(apply Parts.cons;exact Eq.refl (lit _);infer_instance))) (by exact rfl)) ?_
  repeat(first|(refine A1 ⟨?_⟩;intros)|refine W4 c0 ⟨?_⟩)
  rw [hx]
  refine WfX c1 ?_ ?_
  ·rintro _ _ ⟨g1,rfl,h1⟩
   simp only [List.cons_append,List.nil_append]
   repeat(first|(refine AS ⟨?_⟩;intros)|(refine O1 ⟨?_⟩;intros))
   refine WdN 6 ?_
   repeat(refine A1 ⟨?_⟩;intros)
   refine Wdo (ov_idxA (e:=9) (len:=5) (by kernel_rfl) rfl rfl (by omega) (by omega)) ?_
   refine Wdo (ov_loadL rfl mmA hsg) ?_
   repeat(refine A1 ⟨?_⟩;intros)
   simp only [List.drop_succ_cons,List.drop_zero]
   refine WfH (putW_pu h1 (sgn n.op) (by omega)) ?_
   rintro _ _ ⟨rfl,h2⟩
   refine WPL.perm List.perm_append_comm ?_
   simp only [List.cons_append,List.nil_append]
   have c2:=operand_pu hns hpy hya.top h2 (r+1) hd2 (by omega)
   rw [hpd2]at c2
   repeat(refine A1 ⟨?_⟩;intros)
   rw [hy]
   refine WfX c2 ?_ ?_
   ·rintro _ _ ⟨g2,rfl,h3⟩
    simp only [List.cons_append,List.nil_append]
    rw [List.append_assoc,List.append_assoc,←List.append_assoc s1]at h3
    repeat(refine A1 ⟨?_⟩;intros)
    exact endHN _ _ end0 (by repeat(first|exact List.Sublist.refl _|exact List.sublist_append_left _ _|refine List.Sublist.cons _ ?_)) ⟨by rw [g1,g2];rfl,rfl,h3⟩
   ·rintro _ _ ⟨g,rfl⟩
    rw [hC]
    exact⟨by rw [g,Bool.and_false],rfl⟩
  ·rintro _ _ ⟨g,rfl⟩
   rw [hC]
   exact⟨by rw [g];rfl,rfl⟩
theorem part_pu {ns:List Nd}{L:Nat}(hok:∀n∈ns,n.ok L) (hL:L≤200) (hns:ns.length≤100000) (w:Nat):∀(t:Ex) (i:Nat),t.At ns i→PartOk ns w t i
 | .leaf n,i,hat=>part_leaf hok hL hns w n i hat
 | .un n x,i,hat=>part_un hns w n x i hat (part_pu hok hL hns w x)
 | .bi n x y,i,hat=>part_bi hns w n x y i hat (part_pu hok hL hns w x) (part_pu hok hL hns w y)
theorem wrap_pu (s:List UInt8) (dp:Int) (b:Bool) (hs:s.length≤1000000) (h0:0≤dp) (h1:dp≤1000000):Pu Tryz.prog 155 [str s,lit (.int .i64 dp),lit (.bool b)] (Ab.tup [str (par b s),lit (.int .i64 (if b=true then dp+1 else dp))]):=by
 have k1:([40]:List UInt8).length=1:=rfl
 have k2:([41]:List UInt8).length=1:=rfl
 have k3:([40]++s).length=s.length+1:=by simp
 cases b with
 |true =>
  rw [show par true s=[40]++s++[41]from rfl,if_pos rfl]
  refine Pu.intro Tryz.func155 rfl (by kernel_rfl) fun C=>?_
  repeat(refine A1 ⟨?_⟩;intros)
  ((first|refine endR ?_|refine endN ?_);exact end2 (RV.tmp rfl) (RV.tmp rfl) (Le.refl _))
 |false =>
  rw [show par false s=s from rfl,if_neg (by decide)]
  refine Pu.intro Tryz.func155 rfl (by kernel_rfl) fun C=>?_
  repeat(refine A1 ⟨?_⟩;intros)
  ((first|refine endR ?_|refine endN ?_);exact end2 (RV.tmp rfl) (RV.tmp rfl) (Le.refl _))
theorem result_pu (w:Nat) (s:List UInt8) (hs:s.length≤65536) (bad:Bool):PuH Tryz.prog 39 [lit (.pointer (some ⟨w,0,none⟩)),str s] [(w,105,wC bad false)]
  (fun r H=>r=(if bad=true then Ab.tup [str [],lit (.int .i64 1)]else Ab.tup [str s,lit (.int .i64 0)])) noX:=by
 cases bad with
 |true =>
  refine PuH.intro Tryz.func39 rfl (by kernel_rfl) fun C hC=>?_
  repeat(refine A1 ⟨?_⟩;intros)
  exact endHR _ _ (end2 (RV.tmp rfl) (RV.tmp rfl) (Le.refl _)) (List.nil_sublist _) (by rw [if_pos rfl];rfl)
 |false =>
  refine PuH.intro Tryz.func39 rfl (by kernel_rfl) fun C hC=>?_
  repeat(refine A1 ⟨?_⟩;intros)
  exact endHR _ _ (end2 (RV.tmp rfl) (RV.tmp rfl) (Le.refl _)) (List.nil_sublist _) (by rw [if_neg (by decide)];rfl)
theorem rzero_pu (a b:RQ){L:Nat}(ha:a.ok L) (hb:b.ok L) (hL:L≤1000):Pu Tryz.prog 152 [pr a b] (lit (.bool (zp a b))):=by
 obtain⟨_,_,a1,a2⟩:=ha
 obtain⟨_,_,b1,b2⟩:=hb
 show Pu _ _ [ag [lit (.bool a.s),dg a.n,dg a.d,lit (.bool b.s),dg b.n,dg b.d]] _
 unfold zp zq
 by_cases p1:a.d.length=0
 case neg =>
  rw [decide_eq_false p1,Bool.and_false,Bool.false_and]
  refine Pu.intro Tryz.func152 rfl (by kernel_rfl) fun C=>?_
  repeat(refine A1 ⟨?_⟩;intros)
  exact E1
 rw [decide_eq_true p1,Bool.and_true]
 by_cases p2:b.d.length=0
 case neg =>
  rw [decide_eq_false p2,Bool.and_false,Bool.and_false]
  refine Pu.intro Tryz.func152 rfl (by kernel_rfl) fun C=>?_
  repeat(refine A1 ⟨?_⟩;intros)
  exact E1
 rw [decide_eq_true p2,Bool.and_true]
 cases p3:a.s with
 |true =>
  refine Pu.intro Tryz.func152 rfl (by kernel_rfl) fun C=>?_
  repeat(refine A1 ⟨?_⟩;intros)
  exact E1
 |false =>
 cases p4:b.s with
 |true =>
  rw [Bool.not_true,Bool.false_and,Bool.and_false]
  refine Pu.intro Tryz.func152 rfl (by kernel_rfl) fun C=>?_
  repeat(refine A1 ⟨?_⟩;intros)
  exact E1
 |false =>
 rw [Bool.not_false,Bool.true_and,Bool.true_and]
 by_cases p5:a.n.length=0
 case neg =>
  rw [decide_eq_false p5,Bool.false_and]
  refine Pu.intro Tryz.func152 rfl (by kernel_rfl) fun C=>?_
  repeat(refine A1 ⟨?_⟩;intros)
  exact E1
 rw [decide_eq_true p5,Bool.true_and]
 by_cases p6:b.n.length=0
 case neg =>
  rw [decide_eq_false p6]
  refine Pu.intro Tryz.func152 rfl (by kernel_rfl) fun C=>?_
  repeat(refine A1 ⟨?_⟩;intros)
  exact E1
 rw [decide_eq_true p6]
 refine Pu.intro Tryz.func152 rfl (by kernel_rfl) fun C=>?_
 repeat(refine A1 ⟨?_⟩;intros)
 exact E1
theorem okN_1 {n:Nd}(h:n.k=1):okN n=((zp n.a n.b&&zp n.c n.e)&&decide (n.op=0)&&decide (n.x=0)&&decide (n.y=0)):=by
 have k1:decide (n.k=1)=true:=decide_eq_true (by omega)
 have k4:decide (n.k=4)=false:=decide_eq_false (by omega)
 have k5:decide (n.k=5)=false:=decide_eq_false (by omega)
 have k6:decide (n.k=6)=false:=decide_eq_false (by omega)
 have n6:decide (n.k≠6)=true:=decide_eq_true (by omega)
 have g1:decide (1≤n.k)=true:=decide_eq_true (by omega)
 have g6:decide (n.k≤6)=true:=decide_eq_true (by omega)
 simp only [okN,k1,k4,k5,k6,n6,g1,g6]
 generalize(zp n.a n.b&&zp n.c n.e)=A
 generalize decide (n.op=0)=B
 generalize decide (n.x=0)=D
 generalize decide (n.y=0)=E
 generalize decide (1≤n.op)=G
 generalize decide (n.op≤4)=I
 generalize decide (n.nm.length=0)=J
 revert A B D E G I J
 decide
theorem okN_23 {n:Nd}(h:n.k=2∨n.k=3):okN n=(decide (n.nm.length=0)&&(zp n.a n.b&&zp n.c n.e)&&decide (n.op=0)&&decide (n.x=0)&&decide (n.y=0)):=by
 have k1:decide (n.k=1)=false:=decide_eq_false (by omega)
 have k4:decide (n.k=4)=false:=decide_eq_false (by omega)
 have k5:decide (n.k=5)=false:=decide_eq_false (by omega)
 have k6:decide (n.k=6)=false:=decide_eq_false (by omega)
 have n6:decide (n.k≠6)=true:=decide_eq_true (by omega)
 have g1:decide (1≤n.k)=true:=decide_eq_true (by omega)
 have g6:decide (n.k≤6)=true:=decide_eq_true (by omega)
 simp only [okN,k1,k4,k5,k6,n6,g1,g6]
 generalize(zp n.a n.b&&zp n.c n.e)=A
 generalize decide (n.op=0)=B
 generalize decide (n.x=0)=D
 generalize decide (n.y=0)=E
 generalize decide (1≤n.op)=G
 generalize decide (n.op≤4)=I
 generalize decide (n.nm.length=0)=J
 revert A B D E G I J
 decide
theorem okN_4 {n:Nd}(h:n.k=4):okN n=(decide (n.nm.length=0)&&decide (n.op=0)&&decide (n.x=0)&&decide (n.y=0)):=by
 have k1:decide (n.k=1)=false:=decide_eq_false (by omega)
 have k4:decide (n.k=4)=true:=decide_eq_true (by omega)
 have k5:decide (n.k=5)=false:=decide_eq_false (by omega)
 have k6:decide (n.k=6)=false:=decide_eq_false (by omega)
 have n6:decide (n.k≠6)=true:=decide_eq_true (by omega)
 have g1:decide (1≤n.k)=true:=decide_eq_true (by omega)
 have g6:decide (n.k≤6)=true:=decide_eq_true (by omega)
 simp only [okN,k1,k4,k5,k6,n6,g1,g6]
 generalize(zp n.a n.b&&zp n.c n.e)=A
 generalize decide (n.op=0)=B
 generalize decide (n.x=0)=D
 generalize decide (n.y=0)=E
 generalize decide (1≤n.op)=G
 generalize decide (n.op≤4)=I
 generalize decide (n.nm.length=0)=J
 revert A B D E G I J
 decide
theorem okN_5 {n:Nd}(h:n.k=5):okN n=(decide (n.nm.length=0)&&(zp n.a n.b&&zp n.c n.e)&&decide (n.op=0)&&decide (n.y=0)):=by
 have k1:decide (n.k=1)=false:=decide_eq_false (by omega)
 have k4:decide (n.k=4)=false:=decide_eq_false (by omega)
 have k5:decide (n.k=5)=true:=decide_eq_true (by omega)
 have k6:decide (n.k=6)=false:=decide_eq_false (by omega)
 have n6:decide (n.k≠6)=true:=decide_eq_true (by omega)
 have g1:decide (1≤n.k)=true:=decide_eq_true (by omega)
 have g6:decide (n.k≤6)=true:=decide_eq_true (by omega)
 simp only [okN,k1,k4,k5,k6,n6,g1,g6]
 generalize(zp n.a n.b&&zp n.c n.e)=A
 generalize decide (n.op=0)=B
 generalize decide (n.x=0)=D
 generalize decide (n.y=0)=E
 generalize decide (1≤n.op)=G
 generalize decide (n.op≤4)=I
 generalize decide (n.nm.length=0)=J
 revert A B D E G I J
 decide
theorem okN_6 {n:Nd}(h:n.k=6):okN n=(decide (n.nm.length=0)&&(zp n.a n.b&&zp n.c n.e)&&decide (1≤n.op)&&decide (n.op≤4)):=by
 have k1:decide (n.k=1)=false:=decide_eq_false (by omega)
 have k4:decide (n.k=4)=false:=decide_eq_false (by omega)
 have k5:decide (n.k=5)=false:=decide_eq_false (by omega)
 have k6:decide (n.k=6)=true:=decide_eq_true (by omega)
 have n6:decide (n.k≠6)=false:=decide_eq_false (by omega)
 have g1:decide (1≤n.k)=true:=decide_eq_true (by omega)
 have g6:decide (n.k≤6)=true:=decide_eq_true (by omega)
 simp only [okN,k1,k4,k5,k6,n6,g1,g6]
 generalize(zp n.a n.b&&zp n.c n.e)=A
 generalize decide (n.op=0)=B
 generalize decide (n.x=0)=D
 generalize decide (n.y=0)=E
 generalize decide (1≤n.op)=G
 generalize decide (n.op≤4)=I
 generalize decide (n.nm.length=0)=J
 revert A B D E G I J
 decide
theorem okN_0 {n:Nd}(h:n.k<1∨6<n.k):okN n=false:=by
 have g:(decide (1≤n.k)&&decide (n.k≤6))=false:=by
  rcases h with h|h
  ·rw [decide_eq_false (show¬1≤n.k by omega)];rfl
  ·rw [decide_eq_false (show¬n.k≤6 by omega),Bool.and_false]
 unfold okN
 rw [g]
 simp only [Bool.false_and]
set_option maxHeartbeats 1000000 in
theorem shape_pu (n:Nd){L:Nat}(h:n.ok L) (hL:L≤1000):Pu Tryz.prog 90 [ag (ndx n)] (lit (.bool (okN n))):=by
 have c1:=rzero_pu n.a n.b h.a h.b hL
 have c2:=rzero_pu n.c n.e h.c h.e hL
 have e1:=@okN_1 _ n
 have e2:=@okN_23 _ n
 have e4:=@okN_4 _ n
 have e5:=@okN_5 _ n
 have e6:=@okN_6 _ n
 have e0:=@okN_0 _ n
 generalize okN n=R at *
 obtain⟨nb,hnb⟩:∃b,b=decide (n.nm.length=0):=⟨_,rfl⟩
 obtain⟨hb,hhb⟩:∃b,b=(zp n.a n.b&&zp n.c n.e):=⟨_,rfl⟩
 obtain⟨ob,hob⟩:∃b,b=decide (n.op=0):=⟨_,rfl⟩
 rw [←hnb,←hhb,←hob]at e2 e5
 rw [←hnb,←hob]at e4
 rw [←hhb,←hob]at e1
 rw [←hnb,←hhb]at e6
 clear h
 refine Pu.intro Tryz.func90 rfl (by kernel_rfl) fun C=>?_
 repeat(first|(refine AS ⟨?_⟩;intros)|(refine O1 ⟨?_⟩;intros))
 rename_i b
 refine WP.via (fun F H=>LeF F (fm [(1,lit (.pointer (some ⟨b,0,none⟩))),(3,lit (.bool nb)),(4,lit (.bool hb)),(5,lit (.bool ob))])∧H=[(b,33,ndx n)]) ?_ ?_
 ·refine WdM [] [(b,33,ndx n)] (fun _=>[]) ?_
  clear e0 e1 e2 e4 e5 e6
  by_cases o1:n.op=0
  ·rw [decide_eq_true o1]at hob
   subst hob
   by_cases r1:n.nm.length=0
   ·rw [decide_eq_true r1]at hnb
    have s1:=nil_dec.1 r1
    subst hnb
    cases z1:zp n.a n.b with
    |false =>
     rw [z1]at c1 hhb
     rw [Bool.false_and]at hhb
     subst hhb
     refine MkD 17 ?_
     repeat(first|(refine A1 ⟨?_⟩;intros)|refine W4 c1 ⟨?_⟩|refine W4 c2 ⟨?_⟩)
     refine mkD0 ?_
     refine MkN ?_
     refine thenN ?_
     exact⟨lfA,rfl⟩
    |true =>
     rw [z1]at c1 hhb
     rw [Bool.true_and]at hhb
     cases z2:zp n.c n.e with
     |false =>
      rw [z2]at c2 hhb
      subst hhb
      refine MkD 17 ?_
      repeat(first|(refine A1 ⟨?_⟩;intros)|refine W4 c1 ⟨?_⟩|refine W4 c2 ⟨?_⟩)
      refine mkD0 ?_
      refine MkN ?_
      refine thenN ?_
      exact⟨lfA,rfl⟩
     |true =>
      rw [z2]at c2 hhb
      subst hhb
      refine MkD 17 ?_
      repeat(first|(refine A1 ⟨?_⟩;intros)|refine W4 c1 ⟨?_⟩|refine W4 c2 ⟨?_⟩)
      refine mkD0 ?_
      refine MkN ?_
      refine thenN ?_
      exact⟨lfA,rfl⟩
   ·rw [decide_eq_false r1]at hnb
    have s1:=nil_dec.2 r1
    subst hnb
    cases z1:zp n.a n.b with
    |false =>
     rw [z1]at c1 hhb
     rw [Bool.false_and]at hhb
     subst hhb
     refine MkD 17 ?_
     repeat(first|(refine A1 ⟨?_⟩;intros)|refine W4 c1 ⟨?_⟩|refine W4 c2 ⟨?_⟩)
     refine mkD0 ?_
     refine MkN ?_
     refine thenN ?_
     exact⟨lfA,rfl⟩
    |true =>
     rw [z1]at c1 hhb
     rw [Bool.true_and]at hhb
     cases z2:zp n.c n.e with
     |false =>
      rw [z2]at c2 hhb
      subst hhb
      refine MkD 17 ?_
      repeat(first|(refine A1 ⟨?_⟩;intros)|refine W4 c1 ⟨?_⟩|refine W4 c2 ⟨?_⟩)
      refine mkD0 ?_
      refine MkN ?_
      refine thenN ?_
      exact⟨lfA,rfl⟩
     |true =>
      rw [z2]at c2 hhb
      subst hhb
      refine MkD 17 ?_
      repeat(first|(refine A1 ⟨?_⟩;intros)|refine W4 c1 ⟨?_⟩|refine W4 c2 ⟨?_⟩)
      refine mkD0 ?_
      refine MkN ?_
      refine thenN ?_
      exact⟨lfA,rfl⟩
  ·-- op
   rw [decide_eq_false o1]at hob
   subst hob
   by_cases r1:n.nm.length=0
   ·rw [decide_eq_true r1]at hnb
    have s1:=nil_dec.1 r1
    subst hnb
    cases z1:zp n.a n.b with
    |false =>
     rw [z1]at c1 hhb
     rw [Bool.false_and]at hhb
     subst hhb
     refine MkD 17 ?_
     repeat(first|(refine A1 ⟨?_⟩;intros)|refine W4 c1 ⟨?_⟩|refine W4 c2 ⟨?_⟩)
     refine mkD0 ?_
     refine MkN ?_
     refine thenN ?_
     exact⟨lfA,rfl⟩
    |true =>
     rw [z1]at c1 hhb
     rw [Bool.true_and]at hhb
     cases z2:zp n.c n.e with
     |false =>
      rw [z2]at c2 hhb
      subst hhb
      refine MkD 17 ?_
      repeat(first|(refine A1 ⟨?_⟩;intros)|refine W4 c1 ⟨?_⟩|refine W4 c2 ⟨?_⟩)
      refine mkD0 ?_
      refine MkN ?_
      refine thenN ?_
      exact⟨lfA,rfl⟩
     |true =>
      rw [z2]at c2 hhb
      subst hhb
      refine MkD 17 ?_
      repeat(first|(refine A1 ⟨?_⟩;intros)|refine W4 c1 ⟨?_⟩|refine W4 c2 ⟨?_⟩)
      refine mkD0 ?_
      refine MkN ?_
      refine thenN ?_
      exact⟨lfA,rfl⟩
   ·rw [decide_eq_false r1]at hnb
    have s1:=nil_dec.2 r1
    subst hnb
    cases z1:zp n.a n.b with
    |false =>
     rw [z1]at c1 hhb
     rw [Bool.false_and]at hhb
     subst hhb
     refine MkD 17 ?_
     repeat(first|(refine A1 ⟨?_⟩;intros)|refine W4 c1 ⟨?_⟩|refine W4 c2 ⟨?_⟩)
     refine mkD0 ?_
     refine MkN ?_
     refine thenN ?_
     exact⟨lfA,rfl⟩
    |true =>
     rw [z1]at c1 hhb
     rw [Bool.true_and]at hhb
     cases z2:zp n.c n.e with
     |false =>
      rw [z2]at c2 hhb
      subst hhb
      refine MkD 17 ?_
      repeat(first|(refine A1 ⟨?_⟩;intros)|refine W4 c1 ⟨?_⟩|refine W4 c2 ⟨?_⟩)
      refine mkD0 ?_
      refine MkN ?_
      refine thenN ?_
      exact⟨lfA,rfl⟩
     |true =>
      rw [z2]at c2 hhb
      subst hhb
      refine MkD 17 ?_
      repeat(first|(refine A1 ⟨?_⟩;intros)|refine W4 c1 ⟨?_⟩|refine W4 c2 ⟨?_⟩)
      refine mkD0 ?_
      refine MkN ?_
      refine thenN ?_
      exact⟨lfA,rfl⟩
 ·rintro F H ⟨hF,rfl⟩
  refine WP.le hF ?_
  clear hF c1 c2 hnb hhb hob
  by_cases q1:n.k=1
  case pos =>
   have eR:=e1 q1
   clear e0 e1 e2 e4 e5 e6
   cases hb with
   |false =>
    replace eR:R=false:=by rw [eR];simp only [Bool.and_false,Bool.false_and]
    subst eR
    repeat(refine A1 ⟨?_⟩;intros)
    exact E1
   |true =>
    cases ob with
    |false =>
     replace eR:R=false:=by rw [eR];simp only [Bool.and_false,Bool.false_and]
     subst eR
     repeat(refine A1 ⟨?_⟩;intros)
     exact E1
    |true =>
     by_cases p2:n.x=0
     case neg =>
      replace eR:R=false:=by rw [eR,decide_eq_false p2];simp only [Bool.and_false,Bool.false_and]
      subst eR
      repeat(refine A1 ⟨?_⟩;intros)
      exact E1
     rw [decide_eq_true p2]at eR
     by_cases p1:n.y=0
     case neg =>
      replace eR:R=false:=by rw [eR,decide_eq_false p1];simp only [Bool.and_false,Bool.false_and]
      subst eR
      repeat(refine A1 ⟨?_⟩;intros)
      exact E1
     rw [decide_eq_true p1]at eR
     replace eR:R=true:=by rw [eR];rfl
     subst eR
     repeat(refine A1 ⟨?_⟩;intros)
     exact E1
  by_cases q2:n.k=2
  case pos =>
   have eR:=e2 (.inl q2)
   clear e0 e1 e2 e4 e5 e6
   cases nb with
   |false =>
    replace eR:R=false:=by rw [eR];simp only [Bool.and_false,Bool.false_and]
    subst eR
    repeat(refine A1 ⟨?_⟩;intros)
    exact E1
   |true =>
    cases hb with
    |false =>
     replace eR:R=false:=by rw [eR];simp only [Bool.and_false,Bool.false_and]
     subst eR
     repeat(refine A1 ⟨?_⟩;intros)
     exact E1
    |true =>
     cases ob with
     |false =>
      replace eR:R=false:=by rw [eR];simp only [Bool.and_false,Bool.false_and]
      subst eR
      repeat(refine A1 ⟨?_⟩;intros)
      exact E1
     |true =>
      by_cases p2:n.x=0
      case neg =>
       replace eR:R=false:=by rw [eR,decide_eq_false p2];simp only [Bool.and_false,Bool.false_and]
       subst eR
       repeat(refine A1 ⟨?_⟩;intros)
       exact E1
      rw [decide_eq_true p2]at eR
      by_cases p1:n.y=0
      case neg =>
       replace eR:R=false:=by rw [eR,decide_eq_false p1];simp only [Bool.and_false,Bool.false_and]
       subst eR
       repeat(refine A1 ⟨?_⟩;intros)
       exact E1
      rw [decide_eq_true p1]at eR
      replace eR:R=true:=by rw [eR];rfl
      subst eR
      repeat(refine A1 ⟨?_⟩;intros)
      exact E1
  by_cases q3:n.k=3
  case pos =>
   have eR:=e2 (.inr q3)
   clear e0 e1 e2 e4 e5 e6
   cases nb with
   |false =>
    replace eR:R=false:=by rw [eR];simp only [Bool.and_false,Bool.false_and]
    subst eR
    repeat(refine A1 ⟨?_⟩;intros)
    exact E1
   |true =>
    cases hb with
    |false =>
     replace eR:R=false:=by rw [eR];simp only [Bool.and_false,Bool.false_and]
     subst eR
     repeat(refine A1 ⟨?_⟩;intros)
     exact E1
    |true =>
     cases ob with
     |false =>
      replace eR:R=false:=by rw [eR];simp only [Bool.and_false,Bool.false_and]
      subst eR
      repeat(refine A1 ⟨?_⟩;intros)
      exact E1
     |true =>
      by_cases p2:n.x=0
      case neg =>
       replace eR:R=false:=by rw [eR,decide_eq_false p2];simp only [Bool.and_false,Bool.false_and]
       subst eR
       repeat(refine A1 ⟨?_⟩;intros)
       exact E1
      rw [decide_eq_true p2]at eR
      by_cases p1:n.y=0
      case neg =>
       replace eR:R=false:=by rw [eR,decide_eq_false p1];simp only [Bool.and_false,Bool.false_and]
       subst eR
       repeat(refine A1 ⟨?_⟩;intros)
       exact E1
      rw [decide_eq_true p1]at eR
      replace eR:R=true:=by rw [eR];rfl
      subst eR
      repeat(refine A1 ⟨?_⟩;intros)
      exact E1
  by_cases q4:n.k=4
  case pos =>
   have eR:=e4 q4
   clear e0 e1 e2 e4 e5 e6
   cases nb with
   |false =>
    replace eR:R=false:=by rw [eR];simp only [Bool.and_false,Bool.false_and]
    subst eR
    repeat(refine A1 ⟨?_⟩;intros)
    exact E1
   |true =>
    cases ob with
    |false =>
     replace eR:R=false:=by rw [eR];simp only [Bool.and_false,Bool.false_and]
     subst eR
     repeat(refine A1 ⟨?_⟩;intros)
     exact E1
    |true =>
     by_cases p2:n.x=0
     case neg =>
      replace eR:R=false:=by rw [eR,decide_eq_false p2];simp only [Bool.and_false,Bool.false_and]
      subst eR
      repeat(refine A1 ⟨?_⟩;intros)
      exact E1
     rw [decide_eq_true p2]at eR
     by_cases p1:n.y=0
     case neg =>
      replace eR:R=false:=by rw [eR,decide_eq_false p1];simp only [Bool.and_false,Bool.false_and]
      subst eR
      repeat(refine A1 ⟨?_⟩;intros)
      exact E1
     rw [decide_eq_true p1]at eR
     replace eR:R=true:=by rw [eR];rfl
     subst eR
     repeat(refine A1 ⟨?_⟩;intros)
     exact E1
  by_cases q5:n.k=5
  case pos =>
   have eR:=e5 q5
   clear e0 e1 e2 e4 e5 e6
   cases nb with
   |false =>
    replace eR:R=false:=by rw [eR];simp only [Bool.and_false,Bool.false_and]
    subst eR
    repeat(refine A1 ⟨?_⟩;intros)
    exact E1
   |true =>
    cases hb with
    |false =>
     replace eR:R=false:=by rw [eR];simp only [Bool.and_false,Bool.false_and]
     subst eR
     repeat(refine A1 ⟨?_⟩;intros)
     exact E1
    |true =>
     cases ob with
     |false =>
      replace eR:R=false:=by rw [eR];simp only [Bool.and_false,Bool.false_and]
      subst eR
      repeat(refine A1 ⟨?_⟩;intros)
      exact E1
     |true =>
      by_cases p1:n.y=0
      case neg =>
       replace eR:R=false:=by rw [eR,decide_eq_false p1];simp only [Bool.and_false,Bool.false_and]
       subst eR
       repeat(refine A1 ⟨?_⟩;intros)
       exact E1
      rw [decide_eq_true p1]at eR
      replace eR:R=true:=by rw [eR];rfl
      subst eR
      repeat(refine A1 ⟨?_⟩;intros)
      exact E1
  by_cases q6:n.k=6
  case pos =>
   have eR:=e6 q6
   clear e0 e1 e2 e4 e5 e6
   cases nb with
   |false =>
    replace eR:R=false:=by rw [eR];simp only [Bool.and_false,Bool.false_and]
    subst eR
    repeat(refine A1 ⟨?_⟩;intros)
    exact E1
   |true =>
    cases hb with
    |false =>
     replace eR:R=false:=by rw [eR];simp only [Bool.and_false,Bool.false_and]
     subst eR
     repeat(refine A1 ⟨?_⟩;intros)
     exact E1
    |true =>
     by_cases p2:1≤n.op
     case neg =>
      replace eR:R=false:=by rw [eR,decide_eq_false p2];simp only [Bool.and_false,Bool.false_and]
      subst eR
      repeat(refine A1 ⟨?_⟩;intros)
      exact E1
     rw [decide_eq_true p2]at eR
     by_cases p1:n.op≤4
     case neg =>
      replace eR:R=false:=by rw [eR,decide_eq_false p1];simp only [Bool.and_false,Bool.false_and]
      subst eR
      repeat(refine A1 ⟨?_⟩;intros)
      exact E1
     rw [decide_eq_true p1]at eR
     replace eR:R=true:=by rw [eR];rfl
     subst eR
     repeat(refine A1 ⟨?_⟩;intros)
     exact E1
  have eR:=e0 (by omega)
  clear e0 e1 e2 e4 e5 e6
  subst eR
  repeat(refine A1 ⟨?_⟩;intros)
  exact E1
end Go.Ab
