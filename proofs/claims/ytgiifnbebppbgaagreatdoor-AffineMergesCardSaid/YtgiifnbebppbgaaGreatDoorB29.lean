/- Texts laid one behind the other: GwH, Opn, Seg. -/
import Derived.Test.YtgiifnbebppbgaaGreatDoorB20
import Derived.Test.YtgiifnbebppbgaaGreatDoorB22
import Derived.Test.YtgiifnbebppbgaaGreatDoorB28
import Derived.Test.YtgiifnbebppbgaaGreatDoorB27
import Derived.Test.YtgiifnbebppbgaaGreatDoorB19
set_option linter.unusedSectionVars false
set_option linter.unusedVariables false
set_option linter.unusedSimpArgs false
namespace Go.Ab
open Go.Proofs
variable [Base]
theorem le_slR {a b:List SV}{k:Nat}(h:LeL a b):Le (sl a k) (sl b k):=fun m v hv=>by
 obtain⟨ad,cap,rfl,h1,h2,h3⟩:=sl_cells hv
 refine sl_mk h1 h2 ?_
 rcases h3 with rfl|⟨b',off,rfl,arr,T,fz,h4,h5⟩
 ·left
  cases b with
  |nil=>rfl
  |cons _ _=>exact h.elim
 ·right
  have hlen:a.length=b.length:=by
   clear h4 h5 hv
   induction a generalizing b with
   |nil=>cases b with
    |nil=>rfl
    |cons _ _=>exact h.elim
   |cons x a ih=>cases b with
    |nil=>exact h.elim
    |cons y b=>simp [ih h.2]
  exact⟨b',off,rfl,arr,T,fz,h4,by rw [←hlen];exact All2.le h h5⟩
abbrev qT:TypeId:=30
abbrev sT:TypeId:=220
abbrev fT:TypeId:=222
theorem Own.one {T:TypeId}{sz b c:Nat}{cs:List SV}(h:cs.length=sz) (hc:1≤c) (hm:c≤maxLen) (hz:c=1):Own T sz 1 cs (lit (.slice (some ⟨b,0,none⟩) 1 c)) [(b,T,cs)]:=by
 subst hz
 refine⟨by omega, .inr ⟨b,1,by omega,hm,rfl,?_⟩⟩
 simp
theorem probes_take {a:Rat}{c:List Rat}:probes (a::c)=(a-1)::(List.zipWith midR (a::c) c++[(a::c).getLast (by simp)+1]):=rfl
def prB (c:List Rat) (k:Nat):List Rat:=(c.getD 0 0-1)::(List.range (k-1)).map fun j=>midR (c.getD j 0) (c.getD (j+1) 0)
theorem prB_step {c:List Rat}{k:Nat}(hk:1≤k):prB c (k+1)=prB c k++[midR (c.getD (k-1) 0) (c.getD k 0)]:=by
 obtain⟨j,rfl⟩:∃j,k=j+1:=⟨k-1,by omega⟩
 unfold prB
 simp only [Nat.add_sub_cancel]
 rw [List.range_succ,List.map_append]
 rfl
theorem zip_range:∀(a:Rat) (c:List Rat),List.zipWith midR (a::c) c=(List.range c.length).map fun j=>midR ((a::c).getD j 0) ((a::c).getD (j+1) 0)
 |_,[]=>rfl
 |a,b::c=>by
  rw [List.zipWith_cons_cons,zip_range b c,List.length_cons,List.range_succ_eq_map,List.map_cons,List.map_map]
  rfl
theorem probes_prB {c:List Rat}(h:c≠[]):probes c=prB c c.length++[c.getD (c.length-1) 0+1]:=by
 cases c with
 |nil=>exact absurd rfl h
 |cons a c =>
  rw [probes_take,zip_range]
  unfold prB
  rw [List.getLast_eq_getElem]
  simp only [List.length_cons,Nat.add_sub_cancel,List.cons_append]
  congr 3
  rw [List.getD,List.getElem?_eq_getElem (by simp)]
  rfl
structure PrSt where
 k:Nat
 s:SV
 Hs:LH
set_option maxHeartbeats 8000000 in
theorem rprobes_pu (c:List Rat) (hl:c.length≤1000000) (hh:∀y∈c,ht y≤40000):Pu Tryz.prog 207 [rqs c] (rqs (probes c)):=by
 by_cases h0:c=[]
 ·subst h0
  show Pu _ _ _ (rqs [0])
  refine Pu.intro Tryz.func207 rfl (by kernel_rfl) fun C=>?_
  repeat(first|(refine Wo (ov_bsA ([lit (.bool false),lit (.slice none 0 0),lit (.slice none 0 0)]) rfl) ?_)|(refine Wdo (ov_bsA ([lit (.bool false),lit (.slice none 0 0),lit (.slice none 0 0)]) rfl) ?_)|(refine A1 ⟨?_⟩;intros))
  exact endR (end1 (RV.tmp rfl) (le_slR (b:=rqx 0) ⟨Le.refl _,leN0,leD0,trivial⟩))
 have h1:=ht_one
 have hpos:=List.length_pos_iff.2 h0
 have hget:∀k,k<c.length→c[k]? = some (c.getD k 0):=fun k hk=>by rw [List.getD,List.getElem?_eq_getElem hk];rfl
 have hht:∀k,k<c.length→ht (c.getD k 0)≤40000:=fun k hk=>hh _ (List.mem_of_getElem? (hget k hk))
 have hatk:∀k,k<c.length→(((c.map rqx).flatten).drop (k*3)).take 3=rqx (c.getD k 0):=fun k hk=>flat_at (f:=rqx) (n:=3) rqx_len (hget k hk)
 have hne:(c.map rqx).flatten≠[]:=flat_ne rqx_len (by omega) h0
 have a0:=hatk 0 hpos
 have b0:=hht 0 hpos
 have aL:=hatk (c.length-1) (by omega)
 have bL:=hht (c.length-1) (by omega)
 have e1:=rqsub_pu (c.getD 0 0) 1 (by omega) (by omega)
 have e2:=rplus_pu (c.getD (c.length-1) 0) 1 (by omega) (by omega)
 rw [probes_prB h0]
 have hg:∀k,1≤k→k<c.length→∀s Hs,Own qT 3 (k+1) (((prB c k).map rqx).flatten++rqx (midR (c.getD (k-1) 0) (c.getD k 0))) s Hs→Own qT 3 (prB c (k+1)).length ((prB c (k+1)).map rqx).flatten s Hs:=fun k hk1 hk2 s Hs h=>by
  rw [prB_step hk1,List.map_append,List.flatten_append,List.length_append,List.length_singleton]
  have e:(prB c k).length=k:=by unfold prB;simp;omega
  rw [e]
  simpa using h
 have hpl:∀k,1≤k→(prB c k).length=k:=fun k hk=>by unfold prB;simp;omega
 have hp1:((prB c 1).map rqx).flatten=rqx (c.getD 0 0-1):=by unfold prB;simp
 have hfin:∀s Hs,Own qT 3 (c.length+1) (((prB c c.length).map rqx).flatten++rqx (c.getD (c.length-1) 0+1)) s Hs→Own qT 3 (prB c c.length++[c.getD (c.length-1) 0+1]).length ((prB c c.length++[c.getD (c.length-1) 0+1]).map rqx).flatten s Hs:=fun s Hs h=>by
  rw [List.map_append,List.flatten_append,List.length_append,List.length_singleton,hpl _ hpos]
  simpa using h
 generalize hX:c.getD 0 0-1=x0 at *
 generalize hY:c.getD (c.length-1) 0+1=xL at *
 have e3:∀k,1≤k→k<c.length→Pu Tryz.prog 259 [rq (c.getD (k-1) 0),rq (c.getD k 0)] (rq (midR (c.getD (k-1) 0) (c.getD k 0))):=fun k h2 h3=>rmid_pu _ _ (by have:=hht (k-1) (by omega);omega) (by have:=hht k h3;omega)
 refine Pu.intro Tryz.func207 rfl (by kernel_rfl) fun C=>?_
 repeat(first|(refine AS ⟨?_⟩;intros)|(refine O1 ⟨?_⟩;intros))
 refine WdN 6 ?_
 repeat(refine A1 ⟨?_⟩;intros)
 refine Wdo (ov_idxS (cs':=rqx (c.getD 0 0)) rfl rfl (by omega) (by omega) a0 hne) ?_
 repeat(first|(refine A1 ⟨?_⟩;intros)|refine W4 rof1 ⟨?_⟩|refine W4 e1 ⟨?_⟩)
 rename_i b3
 refine WP.loopS (ι:=PrSt) (fun y=>1≤y.k∧y.k≤c.length∧Own qT 3 (prB c y.k).length ((prB c y.k).map rqx).flatten y.s y.Hs) (fun y=>c.length-y.k)
  (fun y=>fm [(0,rqs c),(3,y.s),(4,lit (.int .i64 y.k))]) (fun y=>y.Hs) ⟨1,lit (.slice (some ⟨b3,0,none⟩) 1 1),[(b3,qT,rqx x0)]⟩
  ⟨Nat.le_refl _,hpos,by rw [hpl 1 (by omega),hp1];exact Own.one rfl (by omega) (by decide) rfl⟩ lfA (List.Sublist.refl _) ?_
 rintro ⟨k,s,Hs⟩ ⟨hk1,hk2,hown⟩ K hK
 simp only at hk1 hk2 hown⊢
 have hco:=hown.co
 have hkl:=hpl k hk1
 by_cases hkc:k<c.length
 ·have a1:(((c.map rqx).flatten).drop (((k:Int)-1).toNat*3)).take 3=rqx (c.getD (k-1) 0):=by rw [show((k:Int)-1).toNat=k-1 by omega];exact hatk (k-1) (by omega)
  have a2:=hatk k hkc
  have em:=e3 k hk1 hkc
  have hgo:=fun s' Hs' h F' H'=>hK F' H' ⟨k+1,s',Hs'⟩ ⟨by simp only;omega,by simp only;omega,hg k hk1 hkc s' Hs' h⟩ (by simp only;omega)
  rw [hkl]at hown
  clear hK hg hfin e3 hatk hht hget hh
  generalize midR (c.getD (k-1) 0) (c.getD k 0)=xm at *
  repeat(first|(refine AS ⟨?_⟩;intros)|(refine O1 ⟨?_⟩;intros))
  refine WdZ 13 [0,1,2,3,4,5,6,7,8,9,10,11,12] [12] Hs [] ?_ (by rw [List.append_nil])
  refine ZkD 12 ?_
  repeat(refine A1 ⟨?_⟩;intros)
  refine Wdo (ov_idxS (cs':=rqx (c.getD (k-1) 0)) rfl rfl (by omega) (by omega) a1 hne) ?_
  repeat(refine A1 ⟨?_⟩;intros)
  refine Wdo (ov_idxS (cs':=rqx (c.getD k 0)) rfl rfl (by omega) (by omega) a2 hne) ?_
  repeat(first|(refine Wo (ov_bsA (rqx xm) rfl) ?_)|(refine Wdo (ov_bsA (rqx xm) rfl) ?_)|(refine A1 ⟨?_⟩;intros)|refine W4 em ⟨?_⟩)
  refine mkZ0 ?_
  refine ZkA hown (Tk.same _) (by omega) (fun s' H' hown'=>?_)
  refine ZkN ?_
  have hco':=hown'.co
  replace hgo:=hgo s' H' hown'
  rw [List.append_nil,List.append_nil]
  clear hown hown'
  repeat(refine A1 ⟨?_⟩;intros)
  exact hgo _ _ lfA (List.Sublist.refl _)
 ·have hke:k=c.length:=by omega
  subst hke
  rw [hkl]at hown
  clear hK hg e3 hatk hht hget hh
  replace aL:(((c.map rqx).flatten).drop (((c.length:Int)-1).toNat*3)).take 3=rqx (c.getD (c.length-1) 0):=by rw [show((c.length:Int)-1).toNat=c.length-1 by omega];exact aL
  repeat(first|(refine AS ⟨?_⟩;intros)|(refine O1 ⟨?_⟩;intros))
  refine WdZ 11 [0,1,2,3,4,5,6,7,8,9,10] [10] Hs [] ?_ (by rw [List.append_nil])
  refine ZkD 10 ?_
  repeat(refine A1 ⟨?_⟩;intros)
  refine Wdo (ov_idxS (cs':=rqx (c.getD (c.length-1) 0)) rfl rfl (by omega) (by omega) aL hne) ?_
  repeat(first|(refine Wo (ov_bsA (rqx xL) rfl) ?_)|(refine Wdo (ov_bsA (rqx xL) rfl) ?_)|(refine A1 ⟨?_⟩;intros)|refine W4 rof1 ⟨?_⟩|refine W4 e2 ⟨?_⟩)
  refine mkZ0 ?_
  refine ZkA hown (Tk.same _) (by omega) (fun s' H' hown'=>?_)
  refine ZkN ?_
  replace hown':=hfin _ _ hown'
  have hco':=hown'.co
  rw [List.append_nil,List.append_nil]
  refine WPL.rowS 45 hown' rfl (by rw [List.append_nil]) ?_
  repeat(refine A1 ⟨?_⟩;intros)
  exact endR (end1 (RV.tmp rfl) (Le.refl _))
abbrev bls (l:List Bool):SV:=sl (l.map fun b=>[lit (.bool b)]).flatten l.length
theorem bl_len (b:Bool):([lit (.bool b)]:List SV).length=1:=rfl
theorem fromS_take (c:List Rat) (m:List Bool) (k:Nat):(List.range (k+1)).foldl (fromStep c m) []=fromStep c m ((List.range k).foldl (fromStep c m) []) k:=by
 rw [List.range_succ,List.foldl_append];rfl
theorem fromF_len (c:List Rat) (m:List Bool):∀k,((List.range k).foldl (fromStep c m) []).length≤k
 |0=>Nat.le_refl _
 |k+1=>by
  have:=fromF_len c m k
  have:=fromStep_len c m ((List.range k).foldl (fromStep c m) []) k
  rw [fromS_take]
  omega
theorem spl_app:∀(ds A B:List SV) (o:Nat),spl (A++B) (A.length+o) ds=A++spl B o ds
 | [],_,_,_=>rfl
 |d::ds,A,B,o=>by
  show spl ((A++B).set (A.length+o) d) (A.length+o+1) ds=A++spl (B.set o d) (o+1) ds
  rw [List.set_append_right _ _ (by omega),show A.length+o-A.length=o by omega,Nat.add_assoc]
  exact spl_app ds A (B.set o d) (o+1)
theorem flat_split {α:Type}{f:α→List SV}{l:List α}{k:Nat}{a:α}(h:l[k]? = some a):(l.map f).flatten=((l.take k).map f).flatten++(f a++((l.drop (k+1)).map f).flatten):=by
 have e:l.take k++a::l.drop (k+1)=l:=by rw [←drop_at h,List.take_append_drop]
 have e2:((l.take k++a::l.drop (k+1)).map f).flatten=((l.take k).map f).flatten++(f a++((l.drop (k+1)).map f).flatten):=by rw [List.map_append,List.flatten_append,List.map_cons,List.flatten_cons]
 rw [e]at e2
 exact e2
theorem flat_set {α:Type}{f:α→List SV}{l:List α}{k:Nat}{s:α}(h:k<l.length):((l.set k s).map f).flatten=((l.take k).map f).flatten++(f s++((l.drop (k+1)).map f).flatten):=by
 rw [List.set_eq_take_append_cons_drop,if_pos h,List.map_append,List.flatten_append,List.map_cons,List.flatten_cons]
theorem sp_set1 {l:List Spn}{k:Nat}{a:Spn}{R:List SV}(hi:Rat) (h:l[k]? = some a):spl ((l.map spx).flatten++R) (0+k*8+3) (rqx hi)=((l.set k ⟨a.lo,hi,a.nl,a.nh⟩).map spx).flatten++R:=by
 have hk:=(List.getElem?_eq_some_iff.1 h).1
 have hA:(((l.take k).map spx).flatten).length=k*8:=by rw [flat_len spx_len,List.length_take];congr 1;omega
 rw [flat_split h,flat_set hk,List.append_assoc,List.append_assoc,show 0+k*8+3=(((l.take k).map spx).flatten).length+3 by omega,spl_app,List.append_assoc,List.append_assoc]
 rfl
theorem sp_set2 {l:List Spn}{k:Nat}{a:Spn}{R:List SV}(nh:Bool) (h:l[k]? = some a):spl ((l.map spx).flatten++R) (0+k*8+7) [lit (.bool nh)]=((l.set k ⟨a.lo,a.hi,a.nl,nh⟩).map spx).flatten++R:=by
 have hk:=(List.getElem?_eq_some_iff.1 h).1
 have hA:(((l.take k).map spx).flatten).length=k*8:=by rw [flat_len spx_len,List.length_take];congr 1;omega
 rw [flat_split h,flat_set hk,List.append_assoc,List.append_assoc,show 0+k*8+7=(((l.take k).map spx).flatten).length+7 by omega,spl_app,List.append_assoc,List.append_assoc]
 rfl
theorem sp_ble {l:List Spn}{k j:Nat}{R:List SV}(h:k<l.length) (hj:j≤8):Nat.ble (0+k*8+j) ((l.map spx).flatten++R).length=true:=by
 apply Nat.ble_eq_true_of_le
 rw [List.length_append,flat_len spx_len]
 have:(k+1)*8≤l.length*8:=Nat.mul_le_mul_right _ h
 omega
abbrev bT:TypeId:=4
theorem zsp_le (a b:Bool):LeL [lit (.bool false),lit (.slice none 0 0),lit (.slice none 0 0),lit (.bool false),lit (.slice none 0 0),lit (.slice none 0 0),lit (.bool a),lit (.bool b)] (spx ⟨0,0,a,b⟩):=⟨Le.refl _,leN0,leD0,Le.refl _,leN0,leD0,Le.refl _,Le.refl _,trivial⟩
set_option maxHeartbeats 16000000 in
theorem rfrom_pu (c:List Rat) (m:List Bool) (hl:c.length≤1000000) (hm:m.length=c.length+1):Pu Tryz.prog 209 [rqs c,bls m] (sps (fromS c m)):=by
 have hgc:∀k,k<c.length→(((c.map rqx).flatten).drop (k*3)).take 3=rqx (c.getD k 0):=fun k hk=>flat_at (f:=rqx) (n:=3) rqx_len (by rw [List.getD,List.getElem?_eq_getElem hk];rfl)
 have hgm:∀k,k<m.length→(((m.map fun b=>[lit (.bool b)]).flatten).drop (k*1)).take 1=[lit (.bool (m.getD k false))]:=fun k hk=>flat_at (f:=fun b=>[lit (.bool b)]) (n:=1) bl_len (by rw [List.getD,List.getElem?_eq_getElem hk];rfl)
 have hnm:(m.map fun b=>[lit (.bool b)]).flatten≠[]:=flat_ne bl_len (by omega) (fun e=>by rw [e]at hm;simp at hm)
 unfold fromS
 refine Pu.intro Tryz.func209 rfl (by kernel_rfl) fun C=>?_
 repeat(refine A1 ⟨?_⟩;intros)
 refine WP.loopS (ι:=PrSt) (fun y=>y.k≤m.length∧Own sT 8 ((List.range y.k).foldl (fromStep c m) []).length (((List.range y.k).foldl (fromStep c m) []).map spx).flatten y.s y.Hs) (fun y=>m.length-y.k)
  (fun y=>fm [(0,rqs c),(1,bls m),(5,y.s),(10,bls m),(11,lit (.int .i64 m.length)),(12,lit (.int .i64 y.k))]) (fun y=>y.Hs) ⟨0,lit (.slice none 0 0),[]⟩
  ⟨Nat.zero_le _,Own.nil _ _⟩ lfA (List.nil_sublist _) ?_
 rintro ⟨k,s,Hs⟩ ⟨hk,hown⟩ K hK
 simp only at hk hown⊢
 have hco:=hown.co
 have hfl:=fromF_len c m k
 by_cases hkl:k<m.length
 ·have am:=hgm k hkl
  have hgo:=fun s' Hs' h F' H'=>hK F' H' ⟨k+1,s',Hs'⟩ ⟨by simp only;omega,h⟩ (by simp only;omega)
  simp only [fromS_take]at hgo
  have ei:((k:Int)-1).toNat=k-1:=by omega
  have hap:(((m.map fun b=>[(lit (.bool b):SV)]).flatten).drop (((k:Int)-1).toNat*1)).take 1=[lit (.bool (m.getD (k-1) false))]:=by rw [ei];exact hgm (k-1) (by omega)
  have ac1:0<k→(((c.map rqx).flatten).drop (((k:Int)-1).toNat*3)).take 3=rqx (c.getD (k-1) 0):=fun h=>by rw [ei];exact hgc (k-1) (by omega)
  have ac2:=fun h:k<c.length=>hgc k h
  have hnc:0<c.length→(c.map rqx).flatten≠[]:=fun h=>flat_ne rqx_len (by omega) (fun e=>by rw [e]at h;simp at h)
  generalize(List.range k).foldl (fromStep c m) []=out at *
  unfold fromStep at hgo
  clear hK hgc hgm
  cases hmk:m.getD k false with
  |false =>
   rw [hmk]at hgo am
   rw [if_pos rfl]at hgo
   replace hgo:=hgo s Hs hown
   clear hap ac1 ac2 hnc
   repeat(refine A1 ⟨?_⟩;intros)
   refine Wo (ov_idxS (cs':=[lit (.bool false)]) rfl rfl (by omega) (by omega) am hnm) ?_
   repeat(refine A1 ⟨?_⟩;intros)
   exact hgo _ _ lfA (List.Sublist.refl _)
  |true =>
   rw [hmk]at hgo am
   rw [if_neg (by decide)]at hgo
   have hsp:spAt c k=⟨if 0<k then c.getD (k-1) 0 else 0,if k<c.length then c.getD k 0 else 0,decide (k=0),decide (k=c.length)⟩:=rfl
   obtain⟨x,hx⟩:∃x,x=if 0<k then c.getD (k-1) 0 else 0:=⟨_,rfl⟩
   obtain⟨y,hy⟩:∃y,y=if k<c.length then c.getD k 0 else 0:=⟨_,rfl⟩
   rw [←hx,←hy]at hsp
   rw [hsp]at hgo
   have hlo:LeL [lit (.bool false),lit (.slice none 0 0),lit (.slice none 0 0)] (rqx 0):=by repeat(first|exact trivial|refine⟨?_,?_⟩|exact Le.refl _|exact leN0|exact leD0)
   obtain⟨x1,x2,x3,_⟩:=hlo
   have hle:out.length≤1000000:=by omega
   by_cases hj:0<k∧m.getD (k-1) false=true∧0<out.length
   ·obtain⟨j1,j2,j3⟩:=hj
    rw [if_pos ⟨j1,j2,j3⟩]at hgo
    rw [j2]at hap
    rw [if_pos j1]at hx
    have al:=ac1 j1
    rw [←hx]at al
    obtain⟨o,ho⟩:∃o,out[out.length-1]? = some o:=⟨_,List.getElem?_eq_getElem (by omega)⟩
    have hoD:out.getD (out.length-1) Spn.full=o:=by rw [List.getD,ho];rfl
    rw [hoD]at hgo
    have hc0:(c.map rqx).flatten≠[]:=hnc (by omega)
    obtain⟨b1,c1,hnc1,hcm,rfl,rfl⟩:=hown.blk j3
    have hol:=hown.1
    have hout2:Own sT 8 (out.set (out.length-1) ⟨o.lo,y,o.nl,decide (k=c.length)⟩).length ((out.set (out.length-1) ⟨o.lo,y,o.nl,decide (k=c.length)⟩).map spx).flatten (lit (.slice (some ⟨b1,0,none⟩) out.length c1)) [(b1,sT,((out.set (out.length-1) ⟨o.lo,y,o.nl,decide (k=c.length)⟩).map spx).flatten++List.replicate (c1*8-out.length*8) top)]:=by
     refine⟨flat_len spx_len _, .inr ⟨b1,c1,by rw [List.length_set];exact hnc1,hcm,by rw [List.length_set],by rw [List.length_set]⟩⟩
    replace hgo:=hgo _ _ hout2
    have s1:=sp_set1 (R:=List.replicate (c1*8-out.length*8) top) y ho
    have ho2:(out.set (out.length-1) ⟨o.lo,y,o.nl,o.nh⟩)[out.length-1]? = some ⟨o.lo,y,o.nl,o.nh⟩:=by rw [List.getElem?_set_self (by omega)]
    have s2:=sp_set2 (R:=List.replicate (c1*8-out.length*8) top) (decide (k=c.length)) ho2
    rw [List.set_set]at s2
    have q1:=sp_ble (l:=out) (k:=out.length-1) (j:=6) (R:=List.replicate (c1*8-out.length*8) top) (by omega) (by omega)
    have q2:=sp_ble (l:=out.set (out.length-1) ⟨o.lo,y,o.nl,o.nh⟩) (k:=out.length-1) (j:=8) (R:=List.replicate (c1*8-out.length*8) top) (by rw [List.length_set];omega) (by omega)
    clear hown hout2 hol hoD ho ho2
    generalize(out.set (out.length-1) ⟨o.lo,y,o.nl,o.nh⟩).map spx=cs1 at *
    generalize(out.set (out.length-1) ⟨o.lo,y,o.nl,decide (k=c.length)⟩).map spx=cs2 at *
    have eo:0+(out.length-1)*8=((out.length:Int)-1).toNat*8:=by omega
    rw [eo]at s1 s2 q1 q2
    clear eo
    rcases(by omega:k<c.length∨k=c.length)with kc|kc
    ·have ah:=ac2 kc
     rw [if_pos kc]at hy
     rw [←hy]at ah
     have kd:decide (k=c.length)=false:=decide_eq_false (by omega)
     rw [kd]at s2
     clear ac1 ac2 hx hy hsp hnc
     repeat(refine A1 ⟨?_⟩;intros)
     refine Wo (ov_idxS (cs':=[lit (.bool true)]) rfl rfl (by omega) (by omega) am hnm) ?_
     repeat(refine A1 ⟨?_⟩;intros)
     refine Wo (ov_idxS (cs':=rqx x) rfl rfl (by omega) (by omega) al hc0) ?_
     repeat(refine A1 ⟨?_⟩;intros)
     refine Wo (ov_idxS (cs':=rqx y) rfl rfl (by omega) (by omega) ah hc0) ?_
     repeat(first|(refine A1 ⟨?_⟩;intros)|(refine Wo (ov_lenOwn hown rfl) ?_)|(refine Wdo (ov_lenOwn hown rfl) ?_)|(refine Wog (ov_lenOwn hown rfl) ?_)|(refine Wdog (ov_lenOwn hown rfl) ?_))
     refine Wog (ov_idxS (cs':=[lit (.bool true)]) rfl rfl (by omega) (by omega) hap hnm) ?_
     repeat(first|(refine AS ⟨?_⟩;intros)|(refine O1 ⟨?_⟩;intros))
     refine WdL 10 3 ?_
     repeat(refine A1 ⟨?_⟩;intros)
     refine dL0 ?_
     refine Gv ?_ ?_
     ·(repeat(first|exact LOk.nil|refine Lsk ?_|refine Lcv ?_))
     refine Gv ?_ ?_
     ·(repeat(first|exact LOk.nil|refine Lsk ?_|refine Lcv ?_))
     refine Gs (b:=b1) (o:=((out.length:Int)-1).toNat*8+3) (sv:=ag (rqx y)) rfl rfl rfl (.there _ (.here _)) s1 q1 ?_ ?_
     ·(repeat(first|exact LOk.nil|refine Lsk ?_|refine Lcv ?_))
     refine Gn ?_ ?_
     ·(repeat(first|exact LOk.nil|refine Lsk ?_|refine Lcv ?_))
     repeat(refine A1 ⟨?_⟩;intros)
     refine WPL.store (b:=b1) (o:=((out.length:Int)-1).toNat*8+7) (sv:=lit (.bool false)) rfl rfl rfl (.there _ (.here _)) s2 q2 ?_
     repeat(refine A1 ⟨?_⟩;intros)
     exact hgo _ _ lfA (List.Sublist.cons _ (List.Sublist.refl _))
    ·rw [if_neg (by omega)]at hy
     have kd:decide (k=c.length)=true:=decide_eq_true kc
     rw [kd]at s2
     clear ac1 ac2 hx hsp hnc
     subst hy
     repeat(refine A1 ⟨?_⟩;intros)
     refine Wo (ov_idxS (cs':=[lit (.bool true)]) rfl rfl (by omega) (by omega) am hnm) ?_
     repeat(refine A1 ⟨?_⟩;intros)
     refine WPL.lowB (cs':=spx ⟨0,0,false,true⟩) (.here _) (zsp_le false true) ?_
     refine Wo (ov_idxS (cs':=rqx x) rfl rfl (by omega) (by omega) al hc0) ?_
     repeat(first|(refine A1 ⟨?_⟩;intros)|(refine Wo (ov_lenOwn hown rfl) ?_)|(refine Wdo (ov_lenOwn hown rfl) ?_)|(refine Wog (ov_lenOwn hown rfl) ?_)|(refine Wdog (ov_lenOwn hown rfl) ?_))
     refine Wog (ov_idxS (cs':=[lit (.bool true)]) rfl rfl (by omega) (by omega) hap hnm) ?_
     repeat(first|(refine AS ⟨?_⟩;intros)|(refine O1 ⟨?_⟩;intros))
     refine WdL 10 3 ?_
     repeat(refine A1 ⟨?_⟩;intros)
     refine dL0 ?_
     refine Gv ?_ ?_
     ·(repeat(first|exact LOk.nil|refine Lsk ?_|refine Lcv ?_))
     refine Gv ?_ ?_
     ·(repeat(first|exact LOk.nil|refine Lsk ?_|refine Lcv ?_))
     refine Gs (b:=b1) (o:=((out.length:Int)-1).toNat*8+3) (sv:=ag (rqx 0)) rfl rfl rfl (.there _ (.here _)) s1 q1 ?_ ?_
     ·(repeat(first|exact LOk.nil|refine Lsk ?_|refine Lcv ?_))
     refine Gn ?_ ?_
     ·(repeat(first|exact LOk.nil|refine Lsk ?_|refine Lcv ?_))
     repeat(refine A1 ⟨?_⟩;intros)
     refine WPL.store (b:=b1) (o:=((out.length:Int)-1).toNat*8+7) (sv:=lit (.bool true)) rfl rfl rfl (.there _ (.here _)) s2 q2 ?_
     repeat(refine A1 ⟨?_⟩;intros)
     exact hgo _ _ lfA (List.Sublist.cons _ (List.Sublist.refl _))
   ·rw [if_neg hj]at hgo
    obtain⟨b1,hb1⟩:∃b,b=decide (k=0):=⟨_,rfl⟩
    obtain⟨b2,hb2⟩:∃b,b=decide (k=c.length):=⟨_,rfl⟩
    rw [←hb1,←hb2]at hgo
    have hap1:((out.map spx).flatten++spx ⟨x,y,b1,b2⟩)=((out++[(⟨x,y,b1,b2⟩:Spn)]).map spx).flatten:=by rw [List.map_append,List.flatten_append];simp
    have hln:(out++[(⟨x,y,b1,b2⟩:Spn)]).length=out.length+1:=by simp
    replace hgo:=fun s' Hs' (h:Own sT 8 (out.length+1) ((out.map spx).flatten++spx ⟨x,y,b1,b2⟩) s' Hs')=>hgo s' Hs' (by rw [hln,←hap1];exact h)
    clear hap1 hln hsp
    rcases(by omega:k=0∨0<k)with k0|k0
    ·have hbv:b1=true:=by rw [hb1];exact decide_eq_true k0
     subst hbv
     rw [if_neg (by omega)]at hx
     subst hx
     clear hb1 hj ac1 hap
     rcases(by omega:k<c.length∨k=c.length)with kc|kc
     ·have hbv:b2=false:=by rw [hb2];exact decide_eq_false (by omega)
      subst hbv
      have ah:=ac2 kc
      rw [if_pos kc]at hy
      rw [←hy]at ah
      have hc0:=hnc (by omega)
      clear hb2 hnc ac2 hy
      repeat(refine A1 ⟨?_⟩;intros)
      refine Wo (ov_idxS (cs':=[lit (.bool true)]) rfl rfl (by omega) (by omega) am hnm) ?_
      repeat(refine A1 ⟨?_⟩;intros)
      refine WPL.lowB (cs':=spx ⟨0,0,true,false⟩) (.here _) (zsp_le true false) ?_
      refine Wo (ov_idxS (cs':=rqx y) rfl rfl (by omega) (by omega) ah hc0) ?_
      repeat(first|(refine Wo (ov_bsA (spx ⟨0,y,true,false⟩) rfl) ?_)|(refine Wdo (ov_bsA (spx ⟨0,y,true,false⟩) rfl) ?_)|(refine A1 ⟨?_⟩;intros)|(refine Wo (ov_lenOwn hown rfl) ?_)|(refine Wdo (ov_lenOwn hown rfl) ?_)|(refine Wog (ov_lenOwn hown rfl) ?_)|(refine Wdog (ov_lenOwn hown rfl) ?_))
      refine WownS hown (Tk.skip _ (Tk.same _)) (by omega) (fun s' H1 hown'=>?_)
      have hco':=hown'.co
      replace hgo:=hgo s' H1 hown'
      clear hown hown'
      repeat(refine A1 ⟨?_⟩;intros)
      exact hgo _ _ lfA (List.Sublist.cons _ (List.Sublist.refl _))
     ·have hbv:b2=true:=by rw [hb2];exact decide_eq_true kc
      subst hbv
      rw [if_neg (by omega)]at hy
      subst hy
      clear hb2 hnc ac2
      repeat(refine A1 ⟨?_⟩;intros)
      refine Wo (ov_idxS (cs':=[lit (.bool true)]) rfl rfl (by omega) (by omega) am hnm) ?_
      repeat(refine A1 ⟨?_⟩;intros)
      refine WPL.lowB (cs':=spx ⟨0,0,true,true⟩) (.here _) (zsp_le true true) ?_
      repeat(first|(refine Wo (ov_bsA (spx ⟨0,0,true,true⟩) rfl) ?_)|(refine Wdo (ov_bsA (spx ⟨0,0,true,true⟩) rfl) ?_)|(refine A1 ⟨?_⟩;intros)|(refine Wo (ov_lenOwn hown rfl) ?_)|(refine Wdo (ov_lenOwn hown rfl) ?_)|(refine Wog (ov_lenOwn hown rfl) ?_)|(refine Wdog (ov_lenOwn hown rfl) ?_))
      refine WownS hown (Tk.skip _ (Tk.same _)) (by omega) (fun s' H1 hown'=>?_)
      have hco':=hown'.co
      replace hgo:=hgo s' H1 hown'
      clear hown hown'
      repeat(refine A1 ⟨?_⟩;intros)
      exact hgo _ _ lfA (List.Sublist.cons _ (List.Sublist.refl _))
    ·have hbv:b1=false:=by rw [hb1];exact decide_eq_false (by omega)
     subst hbv
     rw [if_pos k0]at hx
     have al:=ac1 k0
     rw [←hx]at al
     have hc0:=hnc (by omega)
     clear hb1 hx ac1 hnc
     cases hm1:m.getD (k-1) false with
     |false =>
      rw [hm1]at hap
      clear hj hm1
      rcases(by omega:k<c.length∨k=c.length)with kc|kc
      ·have hbv:b2=false:=by rw [hb2];exact decide_eq_false (by omega)
       subst hbv
       have ah:=ac2 kc
       rw [if_pos kc]at hy
       rw [←hy]at ah
       clear hb2 ac2 hy
       repeat(refine A1 ⟨?_⟩;intros)
       refine Wo (ov_idxS (cs':=[lit (.bool true)]) rfl rfl (by omega) (by omega) am hnm) ?_
       repeat(refine A1 ⟨?_⟩;intros)
       refine WPL.lowB (cs':=spx ⟨0,0,false,false⟩) (.here _) (zsp_le false false) ?_
       refine Wo (ov_idxS (cs':=rqx x) rfl rfl (by omega) (by omega) al hc0) ?_
       repeat(refine A1 ⟨?_⟩;intros)
       refine Wo (ov_idxS (cs':=rqx y) rfl rfl (by omega) (by omega) ah hc0) ?_
       repeat(first|(refine A1 ⟨?_⟩;intros)|(refine Wo (ov_lenOwn hown rfl) ?_)|(refine Wdo (ov_lenOwn hown rfl) ?_)|(refine Wog (ov_lenOwn hown rfl) ?_)|(refine Wdog (ov_lenOwn hown rfl) ?_))
       refine Wog (ov_idxS (cs':=[lit (.bool false)]) rfl rfl (by omega) (by omega) hap hnm) ?_
       repeat(first|(refine Wo (ov_bsA (spx ⟨x,y,false,false⟩) rfl) ?_)|(refine Wdo (ov_bsA (spx ⟨x,y,false,false⟩) rfl) ?_)|(refine A1 ⟨?_⟩;intros))
       refine WownS hown (Tk.skip _ (Tk.same _)) (by omega) (fun s' H1 hown'=>?_)
       have hco':=hown'.co
       replace hgo:=hgo s' H1 hown'
       clear hown hown'
       repeat(refine A1 ⟨?_⟩;intros)
       exact hgo _ _ lfA (List.Sublist.cons _ (List.Sublist.refl _))
      ·have hbv:b2=true:=by rw [hb2];exact decide_eq_true kc
       subst hbv
       rw [if_neg (by omega)]at hy
       subst hy
       clear hb2 ac2
       repeat(refine A1 ⟨?_⟩;intros)
       refine Wo (ov_idxS (cs':=[lit (.bool true)]) rfl rfl (by omega) (by omega) am hnm) ?_
       repeat(refine A1 ⟨?_⟩;intros)
       refine WPL.lowB (cs':=spx ⟨0,0,false,true⟩) (.here _) (zsp_le false true) ?_
       refine Wo (ov_idxS (cs':=rqx x) rfl rfl (by omega) (by omega) al hc0) ?_
       repeat(first|(refine A1 ⟨?_⟩;intros)|(refine Wo (ov_lenOwn hown rfl) ?_)|(refine Wdo (ov_lenOwn hown rfl) ?_)|(refine Wog (ov_lenOwn hown rfl) ?_)|(refine Wdog (ov_lenOwn hown rfl) ?_))
       refine Wog (ov_idxS (cs':=[lit (.bool false)]) rfl rfl (by omega) (by omega) hap hnm) ?_
       repeat(first|(refine Wo (ov_bsA (spx ⟨x,0,false,true⟩) rfl) ?_)|(refine Wdo (ov_bsA (spx ⟨x,0,false,true⟩) rfl) ?_)|(refine A1 ⟨?_⟩;intros))
       refine WownS hown (Tk.skip _ (Tk.same _)) (by omega) (fun s' H1 hown'=>?_)
       have hco':=hown'.co
       replace hgo:=hgo s' H1 hown'
       clear hown hown'
       repeat(refine A1 ⟨?_⟩;intros)
       exact hgo _ _ lfA (List.Sublist.cons _ (List.Sublist.refl _))
     |true =>
      rw [hm1]at hap
      have hz:out.length=0:=by
       rcases(by omega:out.length=0∨0<out.length)with h|h
       ·exact h
       ·exact absurd ⟨k0,hm1,h⟩ hj
      clear hj hm1
      rcases(by omega:k<c.length∨k=c.length)with kc|kc
      ·have hbv:b2=false:=by rw [hb2];exact decide_eq_false (by omega)
       subst hbv
       have ah:=ac2 kc
       rw [if_pos kc]at hy
       rw [←hy]at ah
       clear hb2 ac2 hy
       repeat(refine A1 ⟨?_⟩;intros)
       refine Wo (ov_idxS (cs':=[lit (.bool true)]) rfl rfl (by omega) (by omega) am hnm) ?_
       repeat(refine A1 ⟨?_⟩;intros)
       refine WPL.lowB (cs':=spx ⟨0,0,false,false⟩) (.here _) (zsp_le false false) ?_
       refine Wo (ov_idxS (cs':=rqx x) rfl rfl (by omega) (by omega) al hc0) ?_
       repeat(refine A1 ⟨?_⟩;intros)
       refine Wo (ov_idxS (cs':=rqx y) rfl rfl (by omega) (by omega) ah hc0) ?_
       repeat(first|(refine A1 ⟨?_⟩;intros)|(refine Wo (ov_lenOwn hown rfl) ?_)|(refine Wdo (ov_lenOwn hown rfl) ?_)|(refine Wog (ov_lenOwn hown rfl) ?_)|(refine Wdog (ov_lenOwn hown rfl) ?_))
       refine Wog (ov_idxS (cs':=[lit (.bool true)]) rfl rfl (by omega) (by omega) hap hnm) ?_
       repeat(first|(refine Wo (ov_bsA (spx ⟨x,y,false,false⟩) rfl) ?_)|(refine Wdo (ov_bsA (spx ⟨x,y,false,false⟩) rfl) ?_)|(refine A1 ⟨?_⟩;intros))
       refine WownS hown (Tk.skip _ (Tk.same _)) (by omega) (fun s' H1 hown'=>?_)
       have hco':=hown'.co
       replace hgo:=hgo s' H1 hown'
       clear hown hown'
       repeat(refine A1 ⟨?_⟩;intros)
       exact hgo _ _ lfA (List.Sublist.cons _ (List.Sublist.refl _))
      ·have hbv:b2=true:=by rw [hb2];exact decide_eq_true kc
       subst hbv
       rw [if_neg (by omega)]at hy
       subst hy
       clear hb2 ac2
       repeat(refine A1 ⟨?_⟩;intros)
       refine Wo (ov_idxS (cs':=[lit (.bool true)]) rfl rfl (by omega) (by omega) am hnm) ?_
       repeat(refine A1 ⟨?_⟩;intros)
       refine WPL.lowB (cs':=spx ⟨0,0,false,true⟩) (.here _) (zsp_le false true) ?_
       refine Wo (ov_idxS (cs':=rqx x) rfl rfl (by omega) (by omega) al hc0) ?_
       repeat(first|(refine A1 ⟨?_⟩;intros)|(refine Wo (ov_lenOwn hown rfl) ?_)|(refine Wdo (ov_lenOwn hown rfl) ?_)|(refine Wog (ov_lenOwn hown rfl) ?_)|(refine Wdog (ov_lenOwn hown rfl) ?_))
       refine Wog (ov_idxS (cs':=[lit (.bool true)]) rfl rfl (by omega) (by omega) hap hnm) ?_
       repeat(first|(refine Wo (ov_bsA (spx ⟨x,0,false,true⟩) rfl) ?_)|(refine Wdo (ov_bsA (spx ⟨x,0,false,true⟩) rfl) ?_)|(refine A1 ⟨?_⟩;intros))
       refine WownS hown (Tk.skip _ (Tk.same _)) (by omega) (fun s' H1 hown'=>?_)
       have hco':=hown'.co
       replace hgo:=hgo s' H1 hown'
       clear hown hown'
       repeat(refine A1 ⟨?_⟩;intros)
       exact hgo _ _ lfA (List.Sublist.cons _ (List.Sublist.refl _))
 ·have hke:k=m.length:=by omega
  subst hke
  refine WP.rowS 5 hown rfl (by rw [List.append_nil]) ?_
  clear hK hown
  repeat(refine A1 ⟨?_⟩;intros)
  exact endR (end1 (RV.tmp rfl) (Le.refl _))
theorem sq_pos {a b:Rat}(h:a≠0∨b≠0):0<a*a+b*b:=by
 have ha:0≤a*a:=by
  by_cases q:0≤a
  ·exact Rat.mul_nonneg q q
  ·have:=Rat.mul_nonneg (show 0≤-a by grind) (show 0≤-a by grind)
   grind
 have hb:0≤b*b:=by
  by_cases q:0≤b
  ·exact Rat.mul_nonneg q q
  ·have:=Rat.mul_nonneg (show 0≤-b by grind) (show 0≤-b by grind)
   grind
 by_cases e:a*a+b*b=0
 ·have e1:a*a=0:=by grind
  have e2:b*b=0:=by grind
  rcases Rat.mul_eq_zero.1 e1 with q|q <;> rcases Rat.mul_eq_zero.1 e2 with r|r <;> grind
 ·grind
theorem val_add (l:Li) (q d:Pq) (t:Rat):valL l (addP q t d)=valL l q+t*((l.a:Rat)*d.1+(l.b:Rat)*d.2):=by
 unfold valL addP;simp only;grind
theorem inn_near {q:Pq}(v:Pq):∀{ls:List Li},Inn ls q→∃t0:Rat,0<t0∧∀t,0<t→t≤t0→Inn ls (addP q t v)
 | [],_=>⟨1,by grind,fun _ _ _ l hl=>by cases hl⟩
 |l::ls,H=>by
  obtain⟨t1,h1,h2⟩:=inn_near v (ls:=ls) fun m hm=>H m (List.mem_cons_of_mem _ hm)
  have hV:=H l (List.mem_cons_self ..)
  generalize hK:(l.a:Rat)*v.1+(l.b:Rat)*v.2=K
  by_cases kp:0≤K
  ·refine⟨t1,h1,fun t p1 p2 m hm=>?_⟩
   rcases List.mem_cons.1 hm with rfl|hm
   ·rw [val_add,hK]
    have:=Rat.mul_nonneg (Rat.le_of_lt p1) kp
    grind
   ·exact h2 t p1 p2 m hm
  ·obtain⟨n1,n2⟩:=near_half hV (show K<0 by grind)
   by_cases c:t1≤-(valL l q/K)/2
   ·refine⟨t1,h1,fun t p1 p2 m hm=>?_⟩
    rcases List.mem_cons.1 hm with rfl|hm
    ·rw [val_add,hK]
     exact n2 t p1 (Rat.le_trans p2 c)
    ·exact h2 t p1 p2 m hm
   ·refine⟨-(valL l q/K)/2,by grind,fun t p1 p2 m hm=>?_⟩
    rcases List.mem_cons.1 hm with rfl|hm
    ·rw [val_add,hK]
     exact n2 t p1 p2
    ·exact h2 t p1 (by grind) m hm
theorem valL_neg' (m:Li) (q:Pq):valL m.neg q = - valL m q:=by
 unfold valL Li.neg
 simp only [Rat.intCast_neg]
 grind
theorem off_lines:∀(ms:List Li){ls:List Li}{q:Pq},(∀m∈ms,m.ok)→Inn ls q→∃r,Inn ls r∧∀m∈ms,valL m r≠0
 | [],_,q,_,h=>⟨q,h,fun _ hm=>by cases hm⟩
 |m::ms,ls,q,hms,h=>by
  have step:∃r,Inn ls r∧valL m r≠0:=by
   by_cases e:valL m q=0
   ·obtain⟨t,t1,t2⟩:=inn_near ((m.a:Rat),(m.b:Rat)) h
    refine⟨_,t2 t t1 (Rat.le_refl),?_⟩
    rw [val_add,e]
    have ab:(m.a:Rat)≠0∨(m.b:Rat)≠0:=by
     rcases(hms m (List.mem_cons_self ..)).2 with r|r
     ·exact Or.inl fun e=>r (Rat.intCast_eq_zero_iff.1 e)
     ·exact Or.inr fun e=>r (Rat.intCast_eq_zero_iff.1 e)
    have:=Rat.mul_pos t1 (sq_pos ab)
    simp only
    grind
   ·exact⟨q,h,e⟩
  obtain⟨r,r1,r2⟩:=step
  by_cases p:0<valL m r
  ·obtain⟨z,z1,z2⟩:=off_lines ms (ls:=m::ls) (q:=r) (fun x hx=>hms x (List.mem_cons_of_mem _ hx)) (fun x hx=>by
    rcases List.mem_cons.1 hx with rfl|hx
    ·exact p
    ·exact r1 x hx)
   refine⟨z,fun x hx=>z1 x (List.mem_cons_of_mem _ hx),fun x hx=>?_⟩
   rcases List.mem_cons.1 hx with rfl|hx
   ·have:=z1 x (List.mem_cons_self ..)
    grind
   ·exact z2 x hx
  ·obtain⟨z,z1,z2⟩:=off_lines ms (ls:=m.neg::ls) (q:=r) (fun x hx=>hms x (List.mem_cons_of_mem _ hx)) (fun x hx=>by
    rcases List.mem_cons.1 hx with rfl|hx
    ·rw [valL_neg'];grind
    ·exact r1 x hx)
   refine⟨z,fun x hx=>z1 x (List.mem_cons_of_mem _ hx),fun x hx=>?_⟩
   rcases List.mem_cons.1 hx with rfl|hx
   ·have:=z1 _ (List.mem_cons_self ..)
    rw [valL_neg']at this
    grind
   ·exact z2 x hx
def segF (p q:Pq):Fg:=(thr p.1 p.2 q.1 q.2,⟨parL (thr p.1 p.2 q.1 q.2) p,parL (thr p.1 p.2 q.1 q.2) q,false,false⟩)
theorem il_le2 (z:Int) (h:z.natAbs≤4000000000):il z≤1:=len_le (k:=1) (by simp;omega)
theorem thr_intS (x y u v:Int):thr (x:Rat) y u v=prim ((-(v-y):Int):Rat) ((u-x:Int):Rat) (((v-y)*x-(u-x)*y:Int):Rat):=by
 unfold thr
 push_cast
 congr 1 <;> grind
set_option maxHeartbeats 1000000 in
theorem seg_li {p q:Pq}(hp:Iq p) (hq:Iq q) (h:p≠q):(thr p.1 p.2 q.1 q.2).sm:=by
 obtain⟨x,y,rfl,hx,hy⟩:=hp
 obtain⟨u,v,rfl,hu,hv⟩:=hq
 have hne:u-x≠0∨v-y≠0:=by
  by_cases h1:u-x=0
  ·right;intro h2;exact h (iq_inj.2 ⟨by omega,by omega⟩)
  ·exact .inl h1
 show(thr (x:Rat) y u v).sm
 rw [thr_intS]
 have hne' : -(v-y)≠0∨u-x≠0:=by clear hx hy hu hv h;omega
 have hm1:((v-y)*x).natAbs≤2000*1000:=by rw [Int.natAbs_mul];exact Nat.mul_le_mul (by omega) hx
 have hm2:((u-x)*y).natAbs≤2000*1000:=by rw [Int.natAbs_mul];exact Nat.mul_le_mul (by omega) hy
 obtain⟨q1,q2,q3⟩:=prim_abs ((v-y)*x-(u-x)*y) hne'
 have hok:(prim ((-(v-y):Int):Rat) ((u-x:Int):Rat) (((v-y)*x-(u-x)*y:Int):Rat)).ok:=prim_ok (by
  rcases hne' with h|h
  ·exact .inl fun e=>h (int_zero.1 e)
  ·exact .inr fun e=>h (int_zero.1 e))
 clear hne hne' h
 generalize(v-y)*x=e1 at *
 generalize(u-x)*y=e2 at *
 generalize prim ((-(v-y):Int):Rat) ((u-x:Int):Rat) ((e1-e2:Int):Rat)=r at *
 exact⟨hok,il_le2 _ (by omega),il_le2 _ (by omega),il_le2 _ (by omega)⟩
theorem seg_lt {p q:Pq}(hp:Iq p) (hq:Iq q) (h:p≠q):parL (thr p.1 p.2 q.1 q.2) p<parL (thr p.1 p.2 q.1 q.2) q:=by
 have hok:=(seg_li hp hq h).1
 have hne:q.1-p.1≠0∨q.2-p.2≠0:=by
  by_cases h1:q.1-p.1=0
  ·right;intro h2;exact h (Prod.ext (by grind) (by grind))
  ·exact .inl h1
 have h1:=par_mul hok p
 have h2:=par_mul hok q
 have n0:=nrm_pos hok
 have key:0<q.1*(thr p.1 p.2 q.1 q.2).b-q.2*(thr p.1 p.2 q.1 q.2).a-(p.1*(thr p.1 p.2 q.1 q.2).b-p.2*(thr p.1 p.2 q.1 q.2).a):=by
  unfold thr
  have hn' : -(q.2-p.2)≠0∨q.1-p.1≠0:=by
   rcases hne with h|h
   ·exact .inr h
   ·left;grind
  obtain⟨e1,e2,_⟩:=prim_eq (c := -(-(q.2-p.2)*p.1+(q.1-p.1)*p.2)) hn'
  have gp:=g3_pos (c := -(-(q.2-p.2)*p.1+(q.1-p.1)*p.2)) hn'
  rw [←e1,←e2]
  have ip:=Rat.inv_pos.2 gp
  have sq:=sq_pos hne
  generalize(g3 (-(q.2-p.2)) (q.1-p.1) (-(-(q.2-p.2)*p.1+(q.1-p.1)*p.2)))⁻¹=g at *
  have:=Rat.mul_pos ip sq
  grind
 generalize(thr p.1 p.2 q.1 q.2)=l at *
 generalize parL l p=s at *
 generalize parL l q=t at *
 by_cases c:s<t
 ·exact c
 ·exfalso
  have:=Rat.mul_nonneg (show 0≤s-t by grind) (Rat.le_of_lt n0)
  grind
theorem segF_g {L:List Li}{p q:Pq}(hp:Iq p) (hq:Iq q) (h:p≠q) (hL:thr p.1 p.2 q.1 q.2∈L):FgG L (segF p q):=by
 have hlt:=seg_lt hp hq h
 have hn:¬(0≤(parL (thr p.1 p.2 q.1 q.2) p-parL (thr p.1 p.2 q.1 q.2) q).num.sign):=fun e=>by
  have:=rsign_nn.1 e
  grind
 refine⟨(seg_li hp hq h).1,hL,⟨(fun e=>by cases e),(fun e=>by cases e),fun _ _=>hlt⟩,?_⟩
 unfold spBad segF
 simp [hn]
theorem seg_ht {p q:Pq}(hp:Iq p) (hq:Iq q) (h:p≠q):(segF p q).2.le 16:=by
 have hl:=seg_li hp hq h
 exact⟨parL_ht (n:=1) hl hp.ht,parL_ht (n:=1) hl hq.ht⟩
def edgR (l:List Pq):List Fg:=(List.range l.length).map fun i=>segF (l.getD i (0,0)) (l.getD ((i+1)%l.length) (0,0))
theorem edgR_len (l:List Pq):(edgR l).length=l.length:=by unfold edgR;simp
theorem rg_get {l:List Pq}(h:rgOk l){i:Nat}(hi:i<l.length):Iq (l.getD i (0,0))∧Iq (l.getD ((i+1)%l.length) (0,0))∧l.getD i (0,0)≠l.getD ((i+1)%l.length) (0,0):=by
 have hj:(i+1)%l.length<l.length:=Nat.mod_lt _ (by omega)
 have e1:l[i]? = some (l.getD i (0,0)):=by rw [List.getD,List.getElem?_eq_getElem hi];rfl
 have e2:l[(i+1)%l.length]? = some (l.getD ((i+1)%l.length) (0,0)):=by rw [List.getD,List.getElem?_eq_getElem hj];rfl
 exact⟨h.2.1 _ (List.mem_of_getElem? e1),h.2.1 _ (List.mem_of_getElem? e2),h.2.2.2 i _ _ e1 e2⟩
theorem edgR_ok {l:List Pq}(h:rgOk l):∀f∈edgR l,f.1.sm∧f.2.le 16∧∀L,f.1∈L→FgG L f:=fun f hf=>by
 obtain⟨i,hi,rfl⟩:=List.mem_map.1 hf
 rw [List.mem_range]at hi
 obtain⟨h1,h2,h3⟩:=rg_get h hi
 exact⟨seg_li h1 h2 h3,seg_ht h1 h2 h3,fun L hL=>segF_g h1 h2 h3 hL⟩
theorem maxR_or (x y:Rat):maxR x y=x∨maxR x y=y:=by unfold maxR;split;exact .inl rfl;exact .inr rfl
theorem minR_or (x y:Rat):minR x y=x∨minR x y=y:=by unfold minR;split;exact .inl rfl;exact .inr rfl
theorem segmeet_le {v w:Spn}{n:Nat}(hv:v.le n) (hw:w.le n):(meetS v w).le n:=by
 obtain⟨v1,v2⟩:=hv
 obtain⟨w1,w2⟩:=hw
 unfold meetS
 constructor
 ·show ht (if v.nl then w.lo else if w.nl then v.lo else maxR v.lo w.lo)≤n
  split
  ·exact w1
  ·split
   ·exact v1
   ·rcases maxR_or v.lo w.lo with e|e <;> rw [e] <;> assumption
 ·show ht (if v.nh then w.hi else if w.nh then v.hi else minR v.hi w.hi)≤n
  split
  ·exact w2
  ·split
   ·exact v2
   ·rcases minR_or v.hi w.hi with e|e <;> rw [e] <;> assumption
theorem cutL_46 {l m:Li}{v w:Spn}(hl:l.sm) (hm:m.sm) (hv:v.le 46) (h:cutL l v m=some w):w.le 46:=by
 have hz:=ht_zero
 have hx:slp l m≠0→ht (-(valL m (baseL l)/slp l m))≤46:=fun hs=>by
  have hd:detL l m≠0:=fun e=>hs (by rw [slp_det]at e;grind)
  have h1:=meetP_ht hl hm
  have h2:=parL_ht hl h1
  have e : -(valL m (baseL l)/slp l m)=parL l (meetP l m):=by
   have e1:=cut_t0 hs (parL l (meetP l m))
   have e2:=valL_at2 hl.1 hd (parL l (meetP l m))
   have e3:(parL l (meetP l m)-parL l (meetP l m))*slp l m=0:=by grind
   rw [e3]at e2
   rw [e2]at e1
   rcases Rat.mul_eq_zero.1 e1.symm with e|e
   ·grind
   ·exact absurd e hs
  rw [e];omega
 unfold cutL at h
 split at h
 ·split at h
  ·cases h;exact hv
  ·cases h
 ·rename_i hs
  have hs':slp l m≠0:=fun e=>hs (by rw [e];rfl)
  have hq:=hx hs'
  split at h
  ·cases h
  ·cases h
   refine segmeet_le hv ?_
   unfold hlf
   split
   ·exact⟨hq,by show ht 0≤46;omega⟩
   ·exact⟨by show ht 0≤46;omega,hq⟩
theorem splitF_46 {L:List Li}{f:Fg}{m:Li}(hf:FgG L f) (hl:f.1.sm) (hm:m.sm) (hv:f.2.le 46):(∀g∈(splitF f m).1,g.2.le 46)∧∀g∈(splitF f m).2,g.2.le 46:=by
 rw [splitF_eq hf.g hf.b hf.ok]
 have key:∀x:Li,x.sm→∀g∈((cutL f.1 f.2 x).toList).map (fun s=>(f.1,s)),g.2.le 46:=fun x hx g hg=>by
  obtain⟨w,hw,rfl⟩:=List.mem_map.1 hg
  rw [Option.mem_toList]at hw
  exact cutL_46 hl hx hv hw
 exact⟨key m hm,key m.neg hm.neg⟩
end Go.Ab
