/- Texts laid one behind the other: GwK, GwM, ScR, RgP, RgC, RgO, Maps, ImgA. -/
import Derived.Test.YtgiifnbebppbgaaGreatDoorB30
import Derived.Test.YtgiifnbebppbgaaGreatDoorB31
import Derived.Test.YtgiifnbebppbgaaGreatDoorB32
import Derived.Test.YtgiifnbebppbgaaGreatDoorB18
import Derived.Test.YtgiifnbebppbgaaGreatDoorB25
import Derived.Test.YtgiifnbebppbgaaGreatDoorB22
import Derived.Test.YtgiifnbebppbgaaGreatDoorB12
import Derived.Test.YtgiifnbebppbgaaGreatDoorB13
import Derived.Test.YtgiifnbebppbgaaGreatDoorB16
set_option linter.unusedSectionVars false
set_option linter.unusedVariables false
set_option linter.unusedSimpArgs false
namespace Go.Ab
open Go.Proofs
variable [Base]
set_option maxHeartbeats 4000000 in
theorem rapi_pu (rs:List (List Pq)) (hl:rs.length≤1000) (hh:∀r∈rs,rgOk r):Pu Tryz.prog 71 [rpss rs] (apss rs):=by
 refine Pu.intro Tryz.func71 rfl (by kernel_rfl) fun C=>?_
 repeat(refine A1 ⟨?_⟩;intros)
 refine WP.loopS (ι:=PrSt) (fun y=>y.k≤rs.length∧Own 217 1 y.k ((rs.take y.k).map fun r=>[aps r]).flatten y.s y.Hs) (fun y=>rs.length-y.k)
  (fun y=>fm [(3,y.s),(6,rpss rs),(7,lit (.int .i64 rs.length)),(8,lit (.int .i64 y.k))]) (fun y=>y.Hs) ⟨0,lit (.slice none 0 0),[]⟩
  ⟨Nat.zero_le _,Own.nil _ _⟩ lfA (List.nil_sublist _) ?_
 rintro ⟨k,s,Hs⟩ ⟨hk,hown⟩ K hK
 simp only at hk hown⊢
 have hco:=hown.co
 by_cases hkl:k<rs.length
 ·obtain⟨r,hget,hmm,hat,hne⟩:=elt (f:=fun r=>[rps r]) (n:=1) (fun _=>rfl) (by omega) hkl
  have hr:=hh r hmm
  have c:=toPs_pu r (by have:=hr.1;omega) (fun p hp=>by have:=hr.ht p hp;omega)
  have hgo:=fun s' Hs' h F' H'=>hK F' H' ⟨k+1,s',Hs'⟩ ⟨by simp only;omega,h⟩ (by simp only;omega)
  simp only [map_take_snoc hget]at hgo
  clear hK hh hget hmm hr
  repeat(refine A1 ⟨?_⟩;intros)
  refine Wo (ov_idxS (cs':=[rps r]) rfl rfl (by omega) (by omega) hat hne) ?_
  repeat(first|(refine Wo (ov_bsN (s:=aps r) (ds:=[aps r]) rfl inferInstance) ?_)|(refine Wdo (ov_bsN (s:=aps r) (ds:=[aps r]) rfl inferInstance) ?_)|(refine A1 ⟨?_⟩;intros)|refine W4 c ⟨?_⟩)
  refine WownS (ds:=[aps r]) hown (Tk.same _) (by omega) (fun s' H1 hown'=>?_)
  have hco':=hown'.co
  replace hgo:=hgo s' H1 hown'
  clear hown hown'
  repeat(refine A1 ⟨?_⟩;intros)
  exact hgo _ _ lfA (List.Sublist.refl _)
 ·have hke:k=rs.length:=by omega
  subst hke
  rw [List.take_length]at hown
  refine WP.rowS 3 hown rfl (by rw [List.append_nil]) ?_
  clear hK hown
  repeat(refine A1 ⟨?_⟩;intros)
  exact E1
theorem aps_raws (l:List Pq):aps l=raws (l.map fun p=>(RQ.of p.1,RQ.of p.2)):=by
 show sl _ _=sl ((l.map fun p=>(RQ.of p.1,RQ.of p.2)).map pcells).flatten (l.map fun p=>(RQ.of p.1,RQ.of p.2)).length
 rw [List.map_map,List.length_map];rfl
theorem ptsA_pu {l:List Pq}(h:rgOk l):Pu Tryz.prog 133 [aps l] (rps l):=by
 have c:=pts_pu (l.map fun p=>(RQ.of p.1,RQ.of p.2)) (L:=1) (by have:=h.1;rw [List.length_map];omega) (fun q hq=>by
  obtain⟨p,hp,rfl⟩:=List.mem_map.1 hq
  obtain⟨h1,h2⟩:=h.ht p hp
  exact⟨RQ.of_ok h1,RQ.of_ok h2⟩) (by omega)
 rw [←aps_raws,List.map_map,show(rvl∘fun p:Pq=>(RQ.of p.1,RQ.of p.2))=id from funext fun p=>by simp [rvl,RQ.of_v],List.map_id]at c
 exact c
theorem perm_21 (x y:Nat×TypeId×List SV) (A B:LH):(x::y::(A++B)).Perm (A++(x::y::B)):=by
 have:=(List.perm_append_comm (l₁:=[x,y]) (l₂:=A)).append_right B
 simpa using this
theorem perm_22 (x y:Nat×TypeId×List SV) (A B:LH):(x::y::(A++B)).Perm (B++(x::y::A)):=List.perm_append_comm (l₁:=x::y::A) (l₂:=B)
structure MkSt where
 k:Nat
 s1:SV
 H1:LH
 s2:SV
 H2:LH
def lnsR (rs:List (List Pq)):List Li:=((rs.map edgR).flatten).map Prod.fst
theorem lnsR_take {rs:List (List Pq)}{k:Nat}{r:List Pq}(h:rs[k]? = some r):lnsR (rs.take (k+1))=lnsR (rs.take k)++(edgR r).map Prod.fst:=by
 unfold lnsR
 rw [take_snoc h,List.map_append,List.flatten_append,List.map_append];simp
theorem lnsR_len:∀(rs:List (List Pq)),(∀r∈rs,rgOk r)→(lnsR rs).length≤6*rs.length
 | [],_=>by simp [lnsR]
 |r::rs,h=>by
  have h1:=lnsR_len rs (fun r hr=>h r (List.mem_cons_of_mem _ hr))
  have h2:=(h r List.mem_cons_self).1
  have h3:=edgR_len r
  unfold lnsR at *
  simp only [List.map_cons,List.flatten_cons,List.map_append,List.length_append,List.length_map,List.length_cons]at *
  omega
theorem lnsR_sm {rs:List (List Pq)}(h:∀r∈rs,rgOk r):∀l∈lnsR rs,l.sm:=fun l hl=>by
 obtain⟨f,hf,rfl⟩:=List.mem_map.1 hl
 obtain⟨e,he,hfe⟩:=List.mem_flatten.1 hf
 obtain⟨r,hr,rfl⟩:=List.mem_map.1 he
 exact(edgR_ok (h r hr) f hfe).1
abbrev RT:TypeId:=141
abbrev psT:TypeId:=136
set_option maxHeartbeats 16000000 in
theorem rmkR_pu {rs:List (List Pq)}(fill:Int) (h0:rs≠[]) (hl:rs.length≤1000) (hh:∀r∈rs,rgOk r):Pu Tryz.prog 70 [apss rs,lit (.int .i64 fill)] (rgR rs fill (dstL (lnsR rs))):=by
 have hpos:=List.length_pos_iff.2 h0
 have hll:=lnsR_len rs hh
 have hsm:=lnsR_sm hh
 have cd:=rdistinct_pu (lnsR rs) (by omega) (fun m hm=>(hsm m hm).ile)
 refine Pu.intro Tryz.func70 rfl (by kernel_rfl) fun C=>?_
 repeat(refine A1 ⟨?_⟩;intros)
 rename_i b4 b5
 refine WP.loopS (ι:=MkSt) (fun y=>y.k≤rs.length∧Own psT 1 y.k ((rs.take y.k).map fun r=>[rps r]).flatten y.s1 y.H1∧Own lT 6 (lnsR (rs.take y.k)).length ((lnsR (rs.take y.k)).map lqx).flatten y.s2 y.H2) (fun y=>rs.length-y.k)
  (fun y=>fm [(4,lit (.pointer (some ⟨b4,0,none⟩))),(5,lit (.pointer (some ⟨b5,0,none⟩))),(6,y.s2),(14,apss rs),(15,lit (.int .i64 rs.length)),(16,lit (.int .i64 y.k))])
  (fun y=>(b5,RT,[y.s1,lit (.int .i64 fill),lit (.slice none 0 0)])::(b4,RT,[lit (.slice none 0 0),lit (.int .i64 0),lit (.slice none 0 0)])::(y.H1++y.H2)) ⟨0,lit (.slice none 0 0),[],lit (.slice none 0 0),[]⟩
  ⟨Nat.zero_le _,Own.nil _ _,Own.nil _ _⟩ lfA (List.Sublist.refl _) ?_
 rintro ⟨k,s1,H1,s2,H2⟩ ⟨hk,hown1,hown2⟩ K hK
 simp only at hk hown1 hown2⊢
 have hco1:=hown1.co
 have hco2:=hown2.co
 by_cases hkl:k<rs.length
 ·obtain⟨r,hget,hmm,hat,hne⟩:=elt (f:=fun r=>[aps r]) (n:=1) (fun _=>rfl) (by omega) hkl
  have hr:=hh r hmm
  have c1:=ptsA_pu hr
  have c2:=redges_pu hr
  have hel:=edgR_len r
  have h6:=hr.1
  have hlk:(lnsR (rs.take k)).length≤6000:=by
   have:=lnsR_len (rs.take k) (fun r hr=>hh r (List.mem_of_mem_take hr))
   rw [List.length_take]at this
   omega
  have hgo:=fun s1' H1' (h1:Own psT 1 (k+1) ((rs.take (k+1)).map fun r=>[rps r]).flatten s1' H1') s2' H2' (h2:Own lT 6 (lnsR (rs.take (k+1))).length ((lnsR (rs.take (k+1))).map lqx).flatten s2' H2') F' H'=>hK F' H' ⟨k+1,s1',H1',s2',H2'⟩ ⟨(by simp only;omega),h1,h2⟩ (by simp only;omega)
  simp only [map_take_snoc hget,lnsR_take hget]at hgo
  generalize lnsR (rs.take k)=ls at *
  generalize edgR r=es at *
  clear hK hh hget hmm hr cd hsm hll
  repeat(refine A1 ⟨?_⟩;intros)
  refine Wo (ov_idxS (cs':=[aps r]) rfl rfl (by omega) (by omega) hat hne) ?_
  repeat(first|(refine Wo (ov_bsN (s:=rps r) (ds:=[rps r]) rfl inferInstance) ?_)|(refine Wdo (ov_bsN (s:=rps r) (ds:=[rps r]) rfl inferInstance) ?_)|(refine A1 ⟨?_⟩;intros)|refine W4 c1 ⟨?_⟩)
  refine WownSP (ds:=[rps r]) hown1 (perm_21 _ _ _ _) (by omega) (fun s1' H1' hown1'=>?_)
  have hco1':=hown1'.co
  replace hgo:=hgo s1' H1' hown1'
  clear hown1 hown1'
  refine WPL.perm (perm_21 _ _ _ _).symm ?_
  repeat(refine A1 ⟨?_⟩;intros)
  refine WPL.store (b:=b5) (o:=0) (sv:=s1') (cs':=[s1',lit (.int .i64 fill),lit (.slice none 0 0)]) rfl rfl rfl (.here _) rfl rfl ?_
  repeat(first|(refine A1 ⟨?_⟩;intros)|refine W4 c2 ⟨?_⟩)
  refine WP.loopS (ι:=PrSt) (fun y=>y.k≤es.length∧Own lT 6 (ls++(es.take y.k).map Prod.fst).length ((ls++(es.take y.k).map Prod.fst).map lqx).flatten y.s y.Hs) (fun y=>es.length-y.k)
   (fun y=>fm [(4,lit (.pointer (some ⟨b4,0,none⟩))),(5,lit (.pointer (some ⟨b5,0,none⟩))),(6,y.s),(14,apss rs),(15,lit (.int .i64 rs.length)),(16,lit (.int .i64 k)),(29,fqs es),(30,lit (.int .i64 es.length)),(31,lit (.int .i64 y.k))])
   (fun y=>(b5,RT,[s1',lit (.int .i64 fill),lit (.slice none 0 0)])::(b4,RT,[lit (.slice none 0 0),lit (.int .i64 0),lit (.slice none 0 0)])::(H1'++y.Hs)) ⟨0,s2,H2⟩
   ⟨Nat.zero_le _,by simpa using hown2⟩ lfA (List.Sublist.refl _) ?_
  rintro ⟨j,s3,H3⟩ ⟨hj,hown3⟩ K2 hK2
  simp only at hj hown3⊢
  have hco3:=hown3.co
  clear hown2
  by_cases hjl:j<es.length
  ·obtain⟨e,hget2,hmm2,hat2,hne2⟩:=elt fqx_len (by omega) hjl
   have hlen:(ls++(es.take (j+1)).map Prod.fst).length=(ls++(es.take j).map Prod.fst).length+1:=by
    rw [take_snoc hget2];simp;omega
   have hcel:((ls++(es.take (j+1)).map Prod.fst).map lqx).flatten=((ls++(es.take j).map Prod.fst).map lqx).flatten++lqx e.1:=by
    rw [take_snoc hget2,List.map_append,List.map_append,List.flatten_append,List.map_append,List.flatten_append,List.map_append,List.flatten_append,List.append_assoc];simp
   have hlb:(ls++(es.take j).map Prod.fst).length≤7000:=by rw [List.length_append,List.length_map,List.length_take];omega
   have hgo2:=fun s' Hs' h F' H'=>hK2 F' H' ⟨j+1,s',Hs'⟩ ⟨by simp only;omega,h⟩ (by simp only;omega)
   simp only [hlen,hcel]at hgo2
   clear hK2 hgo hlen hcel hget2 hmm2 c1 c2
   generalize(ls++(es.take j).map Prod.fst).length=nn at *
   generalize((ls++(es.take j).map Prod.fst).map lqx).flatten=cc at *
   repeat(refine A1 ⟨?_⟩;intros)
   refine Wo (ov_idxS (cs':=fqx e) rfl rfl (by omega) (by omega) hat2 hne2) ?_
   repeat(refine A1 ⟨?_⟩;intros)
   rename_i b11
   refine WPL.store (b:=b11) (o:=0) (sv:=ag (fqx e)) (cs':=fqx e) rfl rfl rfl (.here _) rfl rfl ?_
   repeat(first|(refine Wo (ov_bsA (lqx e.1) rfl) ?_)|(refine Wdo (ov_bsA (lqx e.1) rfl) ?_)|(refine A1 ⟨?_⟩;intros))
   refine WownSP (ds:=lqx e.1) hown3 (List.perm_append_comm (l₁:=_::_::_::H1') (l₂:=H3)) (by omega) (fun s' H1 hown'=>?_)
   have hco':=hown'.co
   replace hgo2:=hgo2 s' H1 hown'
   clear hown3 hown'
   refine WPL.perm List.perm_append_comm ?_
   simp only [List.cons_append]
   repeat(refine A1 ⟨?_⟩;intros)
   exact hgo2 _ _ lfA (List.Sublist.cons _ (List.Sublist.refl _))
  ·have hje:j=es.length:=by omega
   subst hje
   rw [List.take_length]at hown3
   replace hgo:=hgo s3 H3 hown3
   clear hK2 hown3
   repeat(refine A1 ⟨?_⟩;intros)
   exact hgo _ _ lfA (List.Sublist.refl _)
 ·have hke:k=rs.length:=by omega
  subst hke
  rw [List.take_length]at hown1 hown2
  obtain⟨b1,q1,hc1,hm1,rfl,rfl⟩:=hown1.blk hpos
  refine WP.rowS 6 hown2 rfl (R:=(b5,RT,[lit (.slice (some ⟨b1,0,none⟩) rs.length q1),lit (.int .i64 fill),lit (.slice none 0 0)])::(b4,RT,[lit (.slice none 0 0),lit (.int .i64 0),lit (.slice none 0 0)])::[(b1,psT,(rs.map fun r=>[rps r]).flatten++List.replicate (q1*1-rs.length*1) top)]) (List.perm_append_comm (l₁:=_::_::[_]) (l₂:=H2)) ?_
  clear hK hown1 hown2 hsm hh hll
  repeat(refine A1 ⟨?_⟩;intros)
  refine WPL.pubC (c1:=[]) (c2:=[lit (.int .i64 fill),lit (.slice none 0 0)]) (s':=rpss rs) (.there _ (.there _ (.here _))) (.here _) (fun m arr hm ha=>pub_own hm ha hc1 hm1) ?_
  simp only [List.nil_append]
  repeat(first|(refine A1 ⟨?_⟩;intros)|refine W4 cd ⟨?_⟩)
  ((first|refine endR ?_|refine endN ?_);refine end1 RVa (Le.refl _))
theorem splits_snoc {l:List Fg}{k:Nat}{f:Fg}{m:Li}(h:l[k]? = some f):(splits (l.take (k+1)) m).1=(splits (l.take k) m).1++(splitF f m).1∧(splits (l.take (k+1)) m).2=(splits (l.take k) m).2++(splitF f m).2:=by
 unfold splits
 simp only
 rw [take_snoc h]
 simp [List.map_append,List.flatten_append]
theorem splits_len {L:List Li}{m:Li}:∀{l:List Fg},(∀f∈l,FgG L f)→(splits l m).1.length≤l.length∧(splits l m).2.length≤l.length
 | [],_=>⟨Nat.le_refl _,Nat.le_refl _⟩
 |f::l,h=>by
  obtain⟨h1,h2⟩:=splits_len (m:=m) fun g hg=>h g (List.mem_cons_of_mem _ hg)
  obtain⟨h3,h4⟩:=split_len (m:=m) (h f List.mem_cons_self)
  unfold splits at *
  simp only [List.map_cons,List.flatten_cons,List.length_append,List.length_cons]at *
  omega
structure FgW (L:List Li) (f:Fg):Prop where
 g:FgG L f
 l:f.1.sm
 s:f.2.le 46
theorem splits_w {L:List Li}{m:Li}(hm:m.sm){l:List Fg}(hl:∀f∈l,FgW L f):(∀g∈(splits l m).1,FgW L g)∧∀g∈(splits l m).2,FgW L g:=by
 have key:∀f∈l,(∀g∈(splitF f m).1,FgW L g)∧∀g∈(splitF f m).2,FgW L g:=fun f hf=>by
  obtain⟨h1,h2,h3⟩:=hl f hf
  obtain⟨g1,g2⟩:=split_g (m:=m) h1
  obtain⟨k1,k2⟩:=splitF_46 h1 h2 hm h3
  exact⟨fun g hg=>⟨(g1 g hg).1,by rw [(g1 g hg).2];exact h2,k1 g hg⟩,fun g hg=>⟨(g2 g hg).1,by rw [(g2 g hg).2];exact h2,k2 g hg⟩⟩
 unfold splits
 constructor
 ·intro g hg
  obtain⟨a,ha,hga⟩:=List.mem_flatten.1 hg
  obtain⟨f,hf,rfl⟩:=List.mem_map.1 ha
  exact(key f hf).1 g hga
 ·intro g hg
  obtain⟨a,ha,hga⟩:=List.mem_flatten.1 hg
  obtain⟨f,hf,rfl⟩:=List.mem_map.1 ha
  exact(key f hf).2 g hga
theorem fq_app (a b:List Fg):((a++b).map fqx).flatten=(a.map fqx).flatten++(b.map fqx).flatten:=by rw [List.map_append,List.flatten_append]
set_option maxHeartbeats 32000000 in
theorem rraw_pu {rs:List (List Pq)}{fill:Int}{ls:List Li}(hf:fill=1∨fill=2) (hrl:rs.length≤1000) (hrs:∀r∈rs,rgOk r){L:List Li}:∀(n:Nat) (l:List Fg) (c:List Li),(∀f∈l,FgW L f)→phiF L l<n→(∀m∈c,m.sm)→c.length+n≤80000→l.length≤1000→
  Pu Tryz.prog 132 [rgR rs fill ls,fqs l,lqs c] (rt (rawT (inR rs fill) n l c))
 |0,_,_,_,h,_,_,_=>by omega
 |n+1,[],c,_,_,hc,hd,_=>by
  have d1:=rinner_pu hc (by omega)
  have h9:=innerC_ht hc
  have d2:=rin9_pu (ls:=ls) (p:=(innerC c).getD (0,0)) hf hrl hrs ⟨by have:=h9.1;omega,by have:=h9.2;omega⟩
  have d3:=rcode_pu (inR rs fill ((innerC c).getD (0,0)))
  unfold rawT
  clear hc h9 hrs hf
  generalize inR rs fill ((innerC c).getD (0,0))=bb at *
  generalize(innerC c).getD (0,0)=p at *
  refine Pu.intro Tryz.func132 rfl (by kernel_rfl) fun C=>?_
  repeat(first|(refine A1 ⟨?_⟩;intros)|refine W4 d1 ⟨?_⟩|refine W4 d2 ⟨?_⟩|refine W4 d3 ⟨?_⟩)
  exact E1
 |n+1,f::l,c,hl,hphi,hc,hd,hlen=>by
  have hfw:=hl f List.mem_cons_self
  have hsm:=hfw.l
  have hphi2:=splits_less fun g hg=>(hl g hg).g
  obtain⟨w1,w2⟩:=splits_w hsm hl
  obtain⟨n1,n2⟩:=splits_len (m:=f.1) fun g hg=>(hl g hg).g
  have i1:=rraw_pu (ls:=ls) hf hrl hrs n (splits (f::l) f.1).1 (c++[f.1]) w1 (by omega) (snoc_sm hc hsm) (by rw [List.length_append,List.length_singleton];omega) (by omega)
  have i2:=rraw_pu (ls:=ls) hf hrl hrs n (splits (f::l) f.1).2 (c++[f.1.neg]) w2 (by omega) (snoc_sm hc hsm.neg) (by rw [List.length_append,List.length_singleton];omega) (by omega)
  have hsl:∀m:Li,lqs (c++[m])=sl ((c.map lqx).flatten++lqx m) (c.length+1):=fun m=>by
   show sl ((c++[m]).map lqx).flatten (c++[m]).length=_
   rw [snoc_flat,List.length_append,List.length_singleton]
  rw [hsl]at i1 i2
  have hfl:=lflat_len c
  have d3:=rrev_pu f.1 hsm.ile
  have ds:∀g∈f::l,Pu Tryz.prog 152 [ag (fqx g),lq f.1] (Ab.tup [fqs (splitF g f.1).1,fqs (splitF g f.1).2])∧(splitF g f.1).1.length≤1∧(splitF g f.1).2.length≤1:=fun g hg=>⟨rsplit_pu (hl g hg).g (hl g hg).l hsm (hl g hg).s,split_len (hl g hg).g⟩
  have hb1:∀k,(splits ((f::l).take k) f.1).1.length≤1000∧(splits ((f::l).take k) f.1).2.length≤1000:=fun k=>by
   obtain⟨q1,q2⟩:=splits_len (l:=(f::l).take k) (m:=f.1) fun g hg=>(hl g (List.mem_of_mem_take hg)).g
   rw [List.length_take]at q1 q2
   omega
  show Pu _ _ _ (rt (.node f.1 (rawT (inR rs fill) n (splits (f::l) f.1).1 (c++[f.1])) (rawT (inR rs fill) n (splits (f::l) f.1).2 (c++[f.1.neg]))))
  generalize rawT (inR rs fill) n (splits (f::l) f.1).1 (c++[f.1])=tA at *
  generalize rawT (inR rs fill) n (splits (f::l) f.1).2 (c++[f.1.neg])=tB at *
  have hat0:=flat_at (f:=fqx) (n:=14) (l:=f::l) (k:=0) fqx_len rfl
  have hne0:((f::l).map fqx).flatten≠[]:=flat_ne fqx_len (by omega) (by simp)
  have hgl:f∈f::l:=List.mem_cons_self
  have hpl:0<(f::l).length:=by simp
  clear hl hphi hphi2 w1 w2 hsl hf hrs hfw
  obtain⟨m,hm⟩:∃m,m=f.1:=⟨_,rfl⟩
  rw [←hm]at i1 i2 d3 ds hb1 n1 n2⊢
  have hfq:fqx f=lqx m++spx f.2:=by rw [hm]
  rw [hfq]at hat0
  generalize hxs:f::l=xs at *
  clear hxs hm hfq hgl
  refine Pu.intro Tryz.func132 rfl (by kernel_rfl) fun C=>?_
  repeat(first|(refine Wo (ov_boxP (sv:=ag _) rfl) ?_)|(refine Wdo (ov_boxP (sv:=ag _) rfl) ?_)|(refine A1 ⟨?_⟩;intros))
  refine Wo (ov_idxS (cs':=lqx m++spx f.2) rfl rfl (by omega) (by omega) hat0 hne0) ?_
  repeat(refine A1 ⟨?_⟩;intros)
  rename_i b9
  refine WPL.store (b:=b9) (o:=0) (sv:=ag (lqx m)) (cs':=lqx m) rfl rfl rfl (.here _) rfl rfl ?_
  repeat(refine A1 ⟨?_⟩;intros)
  refine WP.loopS (ι:=MkSt) (fun y=>y.k≤xs.length∧Own fT 14 (splits (xs.take y.k) m).1.length ((splits (xs.take y.k) m).1.map fqx).flatten y.s1 y.H1∧Own fT 14 (splits (xs.take y.k) m).2.length ((splits (xs.take y.k) m).2.map fqx).flatten y.s2 y.H2) (fun y=>xs.length-y.k)
   (fun y=>fm [(2,lqs c),(3,pt [rpss rs,lit (.int .i64 fill),lqs ls]),(9,lit (.pointer (some ⟨b9,0,none⟩))),(10,y.s1),(11,y.s2),(32,fqs xs),(33,lit (.int .i64 xs.length)),(34,lit (.int .i64 y.k))])
   (fun y=>(b9,lT,lqx m)::(y.H1++y.H2)) ⟨0,lit (.slice none 0 0),[],lit (.slice none 0 0),[]⟩
   ⟨Nat.zero_le _,Own.nil _ _,Own.nil _ _⟩ lfA (List.Sublist.refl _) ?_
  rintro ⟨k,s1,H1,s2,H2⟩ ⟨hk,hown1,hown2⟩ K hK
  simp only at hk hown1 hown2⊢
  have hco1:=hown1.co
  have hco2:=hown2.co
  by_cases hkl:k<xs.length
  ·obtain⟨g,hget,hmm,hat,hne⟩:=elt fqx_len (by omega) hkl
   obtain⟨dg,g1,g2⟩:=ds g hmm
   obtain⟨r1,r2⟩:=hb1 k
   obtain⟨e1,e2⟩:=splits_snoc (m:=m) hget
   have hgo:=fun s1' H1' (h1:Own fT 14 (splits (xs.take (k+1)) m).1.length ((splits (xs.take (k+1)) m).1.map fqx).flatten s1' H1') s2' H2' (h2:Own fT 14 (splits (xs.take (k+1)) m).2.length ((splits (xs.take (k+1)) m).2.map fqx).flatten s2' H2') F' H'=>hK F' H' ⟨k+1,s1',H1',s2',H2'⟩ ⟨(by simp only;omega),h1,h2⟩ (by simp only;omega)
   rw [e1,e2,fq_app,fq_app,List.length_append,List.length_append]at hgo
   have f1:(((splitF g m).1.map fqx).flatten).length=(splitF g m).1.length*14:=flat_len fqx_len _
   have f2:(((splitF g m).2.map fqx).flatten).length=(splitF g m).2.length*14:=flat_len fqx_len _
   clear hK hget hmm i1 i2 d3 ds hb1 hfl hat0 hne0 e1 e2
   generalize(splitF g m).1=A at *
   generalize(splitF g m).2=B at *
   generalize(splits (xs.take k) m).1.length=m1 at *
   generalize(splits (xs.take k) m).2.length=m2 at *
   generalize((splits (xs.take k) m).1.map fqx).flatten=q1 at *
   generalize((splits (xs.take k) m).2.map fqx).flatten=q2 at *
   repeat(refine A1 ⟨?_⟩;intros)
   refine Wo (ov_idxS (cs':=fqx g) rfl rfl (by omega) (by omega) hat hne) ?_
   repeat(refine A1 ⟨?_⟩;intros)
   rename_i b13
   refine WPL.store (b:=b13) (o:=0) (sv:=ag (fqx g)) (cs':=fqx g) rfl rfl rfl (.here _) rfl rfl ?_
   repeat(first|(refine A1 ⟨?_⟩;intros)|refine W4 dg ⟨?_⟩)
   refine WownKP (k0:=A.length) (ds:=(A.map fqx).flatten) hown1 (perm_21 _ _ _ _) (by omega) f1 (fun s1' H1' hown1'=>?_)
   have hco1':=hown1'.co
   replace hgo:=hgo s1' H1' hown1'
   clear hown1 hown1'
   refine WPL.perm (perm_21 _ _ _ _).symm ?_
   repeat(refine A1 ⟨?_⟩;intros)
   refine WownKP (k0:=B.length) (ds:=(B.map fqx).flatten) hown2 (perm_22 _ _ _ _) (by omega) f2 (fun s2' H2' hown2'=>?_)
   have hco2':=hown2'.co
   replace hgo:=hgo s2' H2' hown2'
   clear hown2 hown2'
   refine WPL.perm (perm_22 _ _ _ _).symm ?_
   repeat(refine A1 ⟨?_⟩;intros)
   exact hgo _ _ lfA (List.Sublist.cons _ (List.Sublist.refl _))
  ·have hke:k=xs.length:=by omega
   subst hke
   rw [List.take_length]at hown1 hown2
   refine WP.rowS 11 hown2 rfl (R:=(b9,lT,lqx m)::H1) (List.perm_append_comm (l₁:=_::H1) (l₂:=H2)) ?_
   refine WP.rowS 10 hown1 rfl (R:=[(b9,lT,lqx m)]) (List.perm_append_comm (l₁:=[_]) (l₂:=H1)) ?_
   clear hK hown1 hown2 ds hb1 hat0 hne0
   generalize(splits xs m).1=A at *
   generalize(splits xs m).2=B at *
   rw [show rt (.node m tA tB)=pt (rc (.node m tA tB))from rfl,rc_node]
   by_cases h0:c=[]
   ·subst h0
    clear hfl hc
    repeat(first|(refine AS ⟨?_⟩;intros)|(refine O1 ⟨?_⟩;intros))
    repeat(first|(refine Wo (ov_bs0X) ?_)|(refine Wdo (ov_bs0X) ?_)|(refine Wo (ov_appX0 rfl rfl) ?_)|(refine Wdo (ov_appX0 rfl rfl) ?_)|(refine Wo (ov_bsK (r:=[(0,lqx m)]) (cs:=lqx m) (.cons (sv:=ag (lqx m)) rfl inferInstance .nil)) ?_)|(refine Wdo (ov_bsK (r:=[(0,lqx m)]) (cs:=lqx m) (.cons (sv:=ag (lqx m)) rfl inferInstance .nil)) ?_)|(refine Wo (ov_bsK (r:=[(0,lqx m.neg)]) (cs:=lqx m.neg) (.cons (sv:=ag (lqx m.neg)) rfl inferInstance .nil)) ?_)|(refine Wdo (ov_bsK (r:=[(0,lqx m.neg)]) (cs:=lqx m.neg) (.cons (sv:=ag (lqx m.neg)) rfl inferInstance .nil)) ?_)|(refine Wo (ov_appXK (k:=0) (k0:=1) (ds:=lqx m) rfl rfl rfl rfl (by omega)) ?_)|(refine Wdo (ov_appXK (k:=0) (k0:=1) (ds:=lqx m) rfl rfl rfl rfl (by omega)) ?_)|(refine Wo (ov_appXK (k:=0) (k0:=1) (ds:=lqx m.neg) rfl rfl rfl rfl (by omega)) ?_)|(refine Wdo (ov_appXK (k:=0) (k0:=1) (ds:=lqx m.neg) rfl rfl rfl rfl (by omega)) ?_)|(refine Wo (ov_boxP (sv:=ag _) rfl) ?_)|(refine Wdo (ov_boxP (sv:=ag _) rfl) ?_)|(refine A1 ⟨?_⟩;intros)|refine W4 i1 ⟨?_⟩|refine W4 i2 ⟨?_⟩|refine W4 d3 ⟨?_⟩)
    exact E1
   ·have hpos:=List.length_pos_iff.2 h0
    clear hc h0
    repeat(first|(refine AS ⟨?_⟩;intros)|(refine O1 ⟨?_⟩;intros))
    refine WdZ 22 [0,1,2,3,4,6,7,10,11,12,13,15,5,8,9,14,16,17,18,19,20,21] [5,8,14,18] [] [(b9,lT,lqx m)] ?_
    refine ZkD 12 ?_
    repeat(first|(refine Wo (ov_bs0E) ?_)|(refine Wdo (ov_bs0E) ?_)|(refine Wo (ov_bsK (r:=[(0,lqx m)]) (cs:=lqx m) (.cons (sv:=ag (lqx m)) rfl inferInstance .nil)) ?_)|(refine Wdo (ov_bsK (r:=[(0,lqx m)]) (cs:=lqx m) (.cons (sv:=ag (lqx m)) rfl inferInstance .nil)) ?_)|(refine A1 ⟨?_⟩;intros))
    refine mkZ0 ?_
    refine ZkE rfl rfl hfl (by omega) (by omega) (fun s' H' hown=>?_) (hyx:=fun h=>by cases h)
    refine ZkP hown (by omega) ?_
    refine ZkD 1 ?_
    repeat(first|(refine A1 ⟨?_⟩;intros)|refine W4 i1 ⟨?_⟩)
    refine mkZ0 ?_
    refine ZkE rfl rfl hfl (by omega) (by omega) (fun s' H' hown=>?_) (hyx:=fun h=>by cases h)
    refine ZkD 2 ?_
    repeat(first|(refine Wo (ov_bsK (r:=[(0,lqx m.neg)]) (cs:=lqx m.neg) (.cons (sv:=ag (lqx m.neg)) rfl inferInstance .nil)) ?_)|(refine Wdo (ov_bsK (r:=[(0,lqx m.neg)]) (cs:=lqx m.neg) (.cons (sv:=ag (lqx m.neg)) rfl inferInstance .nil)) ?_)|(refine A1 ⟨?_⟩;intros)|refine W4 d3 ⟨?_⟩)
    refine mkZ0 ?_
    refine ZkP hown (by omega) ?_
    refine ZkD 3 ?_
    repeat(first|(refine Wo (ov_boxP (sv:=ag _) rfl) ?_)|(refine Wdo (ov_boxP (sv:=ag _) rfl) ?_)|(refine A1 ⟨?_⟩;intros)|refine W4 i2 ⟨?_⟩)
    refine mkZ0 ?_
    refine ZkN ?_
    repeat(refine A1 ⟨?_⟩;intros)
    exact E1
set_option maxHeartbeats 8000000 in
theorem rbuild_pu {rs:List (List Pq)}{fill:Int}{ls:List Li}(hf:fill=1∨fill=2) (hrl:rs.length≤20) (hrs:∀r∈rs,rgOk r) :
  Pu Tryz.prog 69 [rgR rs fill ls] (rt (restrT (rawT (inR rs fill) (20000) ((rs.map edgR).flatten) []) [])):=by
 have hlen:((rs.map edgR).flatten).length≤120:=by have:=lnsR_len rs hrs;unfold lnsR at this;rw [List.length_map]at this;omega
 have hfw:∀f∈(rs.map edgR).flatten,FgW (lnsR rs) f:=fun f hf=>by
  obtain⟨e,he,hfe⟩:=List.mem_flatten.1 hf
  obtain⟨r,hr,rfl⟩:=List.mem_map.1 he
  obtain⟨q1,q2,q3⟩:=edgR_ok (hrs r hr) f hfe
  exact⟨q3 _ (List.mem_map.2 ⟨f,hf,rfl⟩),q1,⟨by have:=q2.1;omega,by have:=q2.2;omega⟩⟩
 have hL:=lnsR_sm hrs
 have hLl:=lnsR_len rs hrs
 have hphi:phiF (lnsR rs) (rs.map edgR).flatten≤120*121:=Nat.le_trans (phiF_le _ _) (Nat.mul_le_mul hlen (by omega))
 have ir:=rraw_pu (ls:=ls) hf (by omega) hrs 20000 ((rs.map edgR).flatten) [] hfw (by omega) (fun m h=>by cases h) (by simp) (by omega)
 have ir':=ir.arg (l':=[rgR rs fill ls,fqs (rs.map edgR).flatten,lit (.slice none 0 0)]) ⟨Le.refl _,Le.refl _,le_nilS,trivial⟩
 obtain⟨z1,z2,z3⟩:=rawT_size (inR rs fill) 20000 ((rs.map edgR).flatten) [] (fun f hf=>(hfw f hf).g) (show phiF (lnsR rs) _<20000 by omega)
 have cr:=rreduce_pu (rawT (inR rs fill) 20000 (rs.map edgR).flatten []) (z3.all hL) (by omega)
 have de:∀r∈rs,Pu Tryz.prog 131 [rps r] (fqs (edgR r))∧(edgR r).length≤6:=fun r hr=>⟨redges_pu (hrs r hr),by rw [edgR_len];exact(hrs r hr).1⟩
 have hb:∀k,(((rs.take k).map edgR).flatten).length≤120:=fun k=>by
  have:=lnsR_len (rs.take k) (fun r hr=>hrs r (List.mem_of_mem_take hr))
  unfold lnsR at this
  rw [List.length_map,List.length_take]at this
  omega
 clear hfw hL hLl hphi ir z1 z2 z3 hlen
 generalize rawT (inR rs fill) 20000 (rs.map edgR).flatten []=raw at *
 generalize restrT raw []=red at *
 refine Pu.intro Tryz.func69 rfl (by kernel_rfl) fun C=>?_
 repeat(first|(refine Wo (ov_boxP (sv:=ag _) rfl) ?_)|(refine Wdo (ov_boxP (sv:=ag _) rfl) ?_)|(refine A1 ⟨?_⟩;intros))
 refine WP.loopS (ι:=PrSt) (fun y=>y.k≤rs.length∧Own fT 14 (((rs.take y.k).map edgR).flatten).length ((((rs.take y.k).map edgR).flatten).map fqx).flatten y.s y.Hs) (fun y=>rs.length-y.k)
  (fun y=>fm [(1,pt [rpss rs,lit (.int .i64 fill),lqs ls]),(3,y.s),(7,rpss rs),(8,lit (.int .i64 rs.length)),(9,lit (.int .i64 y.k))]) (fun y=>y.Hs) ⟨0,lit (.slice none 0 0),[]⟩
  ⟨Nat.zero_le _,Own.nil _ _⟩ lfA (List.nil_sublist _) ?_
 rintro ⟨k,s,Hs⟩ ⟨hk,hown⟩ K hK
 simp only at hk hown⊢
 have hco:=hown.co
 by_cases hkl:k<rs.length
 ·obtain⟨r,hget,hmm,hat,hne⟩:=elt (f:=fun r=>[rps r]) (n:=1) (fun _=>rfl) (by omega) hkl
  obtain⟨c,h6⟩:=de r hmm
  have hbk:=hb k
  have hgo:=fun s' Hs' h F' H'=>hK F' H' ⟨k+1,s',Hs'⟩ ⟨by simp only;omega,h⟩ (by simp only;omega)
  simp only [map_take_snoc hget,fq_app,List.length_append]at hgo
  have f1:(((edgR r).map fqx).flatten).length=(edgR r).length*14:=flat_len fqx_len _
  clear hK hget hmm de hb ir' cr
  generalize edgR r=A at *
  generalize(((rs.take k).map edgR).flatten).length=m1 at *
  generalize((((rs.take k).map edgR).flatten).map fqx).flatten=q1 at *
  repeat(refine A1 ⟨?_⟩;intros)
  refine Wo (ov_idxS (cs':=[rps r]) rfl rfl (by omega) (by omega) hat hne) ?_
  repeat(first|(refine A1 ⟨?_⟩;intros)|refine W4 c ⟨?_⟩)
  refine WownK (k0:=A.length) (ds:=(A.map fqx).flatten) hown (Tk.same _) (by omega) f1 (fun s' H1 hown'=>?_)
  have hco':=hown'.co
  replace hgo:=hgo s' H1 hown'
  clear hown hown'
  repeat(refine A1 ⟨?_⟩;intros)
  exact hgo _ _ lfA (List.Sublist.refl _)
 ·have hke:k=rs.length:=by omega
  subst hke
  rw [List.take_length]at hown
  refine WP.rowS 3 hown rfl (by rw [List.append_nil]) ?_
  clear hK hown de hb
  repeat(first|(refine A1 ⟨?_⟩;intros)|refine W4 ir' ⟨?_⟩|refine W4 cr ⟨?_⟩)
  exact E1
theorem joinT_all {p:Li→Prop}{l:Li}(h:p l):∀{a b:Tr},a.all p→b.all p→(joinT l a b).all p
 | .leaf i, .leaf j,_,_=>by
  show(if i=j then Tr.leaf i else .node l (.leaf i) (.leaf j)).all p
  split
  ·trivial
  ·exact⟨h,trivial,trivial⟩
 | .leaf _, .node _ _ _,h1,h2=>⟨h,h1,h2⟩
 | .node _ _ _, .leaf _,h1,h2=>⟨h,h1,h2⟩
 | .node _ _ _, .node _ _ _,h1,h2=>⟨h,h1,h2⟩
theorem restrT_all {p:Li→Prop}:∀{t:Tr}{c:List Li},t.all p→(restrT t c).all p
 | .leaf _,_,_=>trivial
 | .node l a b,c,h=>by
  unfold restrT
  split
  ·exact restrT_all h.2.1
  ·split
   ·exact restrT_all h.2.2
   ·exact joinT_all h.1 (restrT_all h.2.1) (restrT_all h.2.2)
set_option maxHeartbeats 16000000 in
theorem rmergeT_pu (op:Int) (hop:1≤op∧op≤4) (b:Tr) (hb:b.all fun l=>l.sm):∀(t:Tr) (c:List Li),(t.all fun l=>l.sm)→(∀m∈c,m.sm)→c.length+depT t+depT b≤90000→Pu Tryz.prog 45 [lit (.int .i64 op),rt t,rt b,lqs c] (rt (mergeT op t b c))
 | .leaf i,c,_,hc,hd=>by
  have d1:=rrestr_pu b c hb hc (by simp only [depT]at hd;omega)
  have d2:=rnot_pu (restrT b c) (restrT_all hb)
  have d3:=rcode_pu true
  have d4:=rcode_pu false
  show Pu _ _ _ (rt (chooseT op i b c))
  unfold chooseT
  generalize notT (restrT b c)=nb at *
  generalize restrT b c=rb at *
  clear hb hc hd
  have ho:op=1∨op=2∨op=3∨op=4:=by omega
  have en:rt (.leaf i)=pt (rc (.leaf i)):=rfl
  rw [en,rc_leaf]
  rcases ho with rfl|rfl|rfl|rfl <;> cases i
  all_goals
   simp only [Int.reduceEq,true_and,false_and,and_true,and_false,or_false,false_or,or_true,true_or,or_self,if_true,if_false,Bool.false_eq_true,Bool.true_eq_false,reduceCtorEq]
   refine Pu.intro Tryz.func45 rfl (by kernel_rfl) fun C=>?_
   repeat(first|(refine A1 ⟨?_⟩;intros)|refine W4 d1 ⟨?_⟩|refine W4 d2 ⟨?_⟩|refine W4 d3 ⟨?_⟩|refine W4 d4 ⟨?_⟩)
   exact E1
 | .node l x y,c,hall,hc,hd=>by
  have hd':c.length+(1+max (depT x) (depT y))+depT b≤90000:=hd
  have p0:=rplace_pu hc hall.1 (by omega)
  have d3:=rmergeT_pu op hop b hb x c hall.2.1 hc (by omega)
  have d4:=rmergeT_pu op hop b hb y c hall.2.2 hc (by omega)
  have n1:=withC_len c l
  have n2:=withC_len c l.neg
  have w1:=rwith_pu hc hall.1 (by omega)
  have w2:=rwith_pu hc hall.1.neg (by omega)
  have d0:=rrev_pu l hall.1.ile
  have d5:=rmergeT_pu op hop b hb x (withC c l) hall.2.1 (withC_sm hc hall.1) (by omega)
  have d6:=rmergeT_pu op hop b hb y (withC c l.neg) hall.2.2 (withC_sm hc hall.1.neg) (by omega)
  have d7:=rjoin_pu l (mergeT op x b (withC c l)) (mergeT op y b (withC c l.neg)) hall.1.ile
  unfold mergeT
  clear hd hd' n1 n2 hc hall hb
  generalize mergeT op x b c=ra at *
  generalize mergeT op y b c=rb at *
  generalize mergeT op x b (withC c l)=ra' at *
  generalize mergeT op y b (withC c l.neg)=rb' at *
  generalize joinT l ra' rb'=rj at *
  generalize withC c l=c1 at *
  generalize withC c l.neg=c2 at *
  have en:rt (.node l x y)=pt (rc (.node l x y)):=rfl
  rw [en,rc_node]
  clear en
  generalize placeC c l=z at *
  by_cases h1:z=1
  ·rw [if_pos h1]
   refine Pu.intro Tryz.func45 rfl (by kernel_rfl) fun C=>?_
   repeat(first|(refine A1 ⟨?_⟩;intros)|refine W4 p0 ⟨?_⟩|refine W4 d3 ⟨?_⟩)
   exact E1
  ·rw [if_neg h1]
   by_cases h2:z = -1
   ·rw [if_pos h2]
    refine Pu.intro Tryz.func45 rfl (by kernel_rfl) fun C=>?_
    repeat(first|(refine A1 ⟨?_⟩;intros)|refine W4 p0 ⟨?_⟩|refine W4 d4 ⟨?_⟩)
    exact E1
   ·rw [if_neg h2]
    refine Pu.intro Tryz.func45 rfl (by kernel_rfl) fun C=>?_
    repeat(first|(refine A1 ⟨?_⟩;intros)|refine W4 p0 ⟨?_⟩|refine W4 w1 ⟨?_⟩|refine W4 d0 ⟨?_⟩|refine W4 w2 ⟨?_⟩|refine W4 d5 ⟨?_⟩|refine W4 d6 ⟨?_⟩|refine W4 d7 ⟨?_⟩)
    exact E1
abbrev regR (n:Nat):SV:=ex fun t:{t:Tr //∃L:List Li,L.length≤n∧(∀l∈L,l.sm)∧Gd L t}=>rt t.1
theorem reg_mk {n:Nat}{t:Tr}(L:List Li) (h1:L.length≤n) (h2:∀l∈L,l.sm) (h3:Gd L t):Le (rt t) (regR n):=Le.ex (f:=fun t:{t:Tr //∃L:List Li,L.length≤n∧(∀l∈L,l.sm)∧Gd L t}=>rt t.1) ⟨t,L,h1,h2,h3⟩ (Le.refl _)
theorem linesT_lin:∀t:Tr,t.lin (linesT t)
 | .leaf _=>trivial
 | .node l a b=>⟨List.mem_cons_self,Tr.lin.mono (fun x hx=>List.mem_cons_of_mem _ (List.mem_append_left _ hx)) (linesT_lin a),Tr.lin.mono (fun x hx=>List.mem_cons_of_mem _ (List.mem_append_right _ hx)) (linesT_lin b)⟩
theorem linesT_len:∀t:Tr,(linesT t).length=t.size
 | .leaf _=>rfl
 | .node l a b=>by
  rw [Tr.size_node,←linesT_len a,←linesT_len b]
  show(l::(linesT a++linesT b)).length=_
  rw [List.length_cons,List.length_append];omega
theorem linesT_all {p:Li→Prop}:∀{t:Tr},t.all p→∀l∈linesT t,p l
 | .leaf _,_,l,h=>by cases h
 | .node m a b,k,l,h=>by
  rcases List.mem_cons.1 h with h|h
  ·rw [h];exact k.1
  ·rcases List.mem_append.1 h with h|h
   ·exact linesT_all k.2.1 l h
   ·exact linesT_all k.2.2 l h
theorem dep_size:∀t:Tr,depT t≤t.size
 | .leaf _=>Nat.le_refl _
 | .node l a b=>by
  have:=dep_size a
  have:=dep_size b
  rw [Tr.size_node]
  simp only [depT]
  omega
theorem Gd.mono {L M:List Li}(hs:∀l∈L,l∈M){t:Tr}(h:Gd L t):Gd M t:=⟨Tr.lin.mono hs h.1,h.2⟩
theorem sm_oks {L:List Li}(h:∀l∈L,l.sm):∀l∈L,l.ok:=fun l hl=>(h l hl).1
theorem gd_all {L:List Li}(h:∀l∈L,l.sm){t:Tr}(k:Gd L t):t.all fun l=>l.sm:=Tr.lin.all h k.1
theorem gd_build {rs:List (List Pq)}{fill:Int}(hrl:rs.length≤2) (hrs:∀r∈rs,rgOk r):∃L:List Li,L.length≤12∧(∀l∈L,l.sm)∧Gd L (restrT (rawT (inR rs fill) 20000 ((rs.map edgR).flatten) []) []):=by
 have hLl:=lnsR_len rs hrs
 have hL:=lnsR_sm hrs
 have hlen:((rs.map edgR).flatten).length≤12:=by have:=hLl;unfold lnsR at this;rw [List.length_map]at this;omega
 have hfw:∀f∈(rs.map edgR).flatten,FgG (lnsR rs) f:=fun f hf=>by
  obtain⟨e,he,hfe⟩:=List.mem_flatten.1 hf
  obtain⟨r,hr,rfl⟩:=List.mem_map.1 he
  exact(edgR_ok (hrs r hr) f hfe).2.2 _ (List.mem_map.2 ⟨f,hf,rfl⟩)
 have hphi:phiF (lnsR rs) (rs.map edgR).flatten≤12*13:=Nat.le_trans (phiF_le _ _) (Nat.mul_le_mul hlen (by omega))
 obtain⟨_,_,z3⟩:=rawT_size (inR rs fill) 20000 ((rs.map edgR).flatten) [] hfw (by omega)
 exact⟨lnsR rs,by omega,hL,Gd.restr (sm_oks hL) z3⟩
theorem tbounded_pu (zs:List Int) (hz:zs.length≤400):PuT 50 zs [] (regR 12):=by
 have key:∀(rs:List (List Pq)) (fill:Int),rs≠[]→rs.length≤2→(∀r∈rs,rgOk r)→(fill=1∨fill=2)→Pu Tryz.prog 71 [rpss rs] (apss rs)∧Pu Tryz.prog 70 [apss rs,lit (.int .i64 fill)] (rgR rs fill (dstL (lnsR rs)))∧Pu Tryz.prog 69 [rgR rs fill (dstL (lnsR rs))] (rt (restrT (rawT (inR rs fill) 20000 ((rs.map edgR).flatten) []) [])):=fun rs fill h0 hl hr hf =>
  ⟨rapi_pu rs (by omega) hr,rmkR_pu fill h0 (by omega) hr,rbuild_pu hf (by omega) hr⟩
 have fin:∀(rs:List (List Pq)) (fill:Int),rs.length≤2→(∀r∈rs,rgOk r)→Le (rt (restrT (rawT (inR rs fill) 20000 ((rs.map edgR).flatten) []) [])) (regR 12):=fun rs fill hl hr=>by
  obtain⟨L,h1,h2,h3⟩:=gd_build (fill:=fill) hl hr
  exact reg_mk L h1 h2 h3
 refine PuM.intro Tryz.func50 rfl (by kernel_rfl) fun C b=>?_
 repeat(refine A1 ⟨?_⟩;intros)
 refine Wtx (tring_pu zs hz) mmA fun r=>?_
 obtain⟨r,hr⟩:=r
 simp only []
 refine Wo (ov_bsX (s:=rps r) (ds:=[rps r]) rfl inferInstance) ?_
 repeat(refine A1 ⟨?_⟩;intros)
 refine Wtx (next_pu zs hz 3 (by omega) (by omega)) mmA fun k=>?_
 obtain⟨k,hk⟩:=k
 simp only []
 by_cases hk0:k=0
 ·subst hk0
  repeat(refine A1 ⟨?_⟩;intros)
  refine Wtx (tring_pu zs hz) mmA fun q=>?_
  obtain⟨q,hq⟩:=q
  simp only []
  refine Wo (ov_bsK (r:=[(0,[rps q])]) (cs:=[rps q]) (.cons (sv:=rps q) rfl inferInstance .nil)) ?_
  refine Wo (ov_appXK (k:=1) (k0:=1) (ds:=[rps q]) rfl rfl rfl rfl (by omega)) ?_
  have hrs:∀x∈[r,q],rgOk x:=fun x hx=>by
   rcases List.mem_cons.1 hx with h|h
   ·rw [h];exact hr
   ·rw [List.mem_singleton.1 h];exact hq
  have ca:=rapi_pu [r,q] (by simp) hrs
  repeat(first|(refine A1 ⟨?_⟩;intros)|refine W4 ca ⟨?_⟩)
  refine Wtx (next_pu zs hz 2 (by omega) (by omega)) mmA fun k=>?_
  obtain⟨k,hk⟩:=k
  simp only []
  have hf:(1+(k:Int))=1∨(1+(k:Int))=2:=by omega
  obtain⟨_,c1,c2⟩:=key [r,q] (1+(k:Int)) (by simp) (by simp) hrs hf
  have hfin:=fin [r,q] (1+(k:Int)) (by simp) hrs
  repeat(first|(refine A1 ⟨?_⟩;intros)|refine W4 c1 ⟨?_⟩|refine W4 c2 ⟨?_⟩)
  exact endMR () _ (end1 (RV.tmp rfl) hfin) mmA (LeL.refl _)
 ·repeat(refine A1 ⟨?_⟩;intros)
  have hrs:∀x∈[r],rgOk x:=fun x hx=>by rw [List.mem_singleton.1 hx];exact hr
  have ca:=(rapi_pu [r] (by simp) hrs).arg (l':=[xsl [rps r] 1]) ⟨le_xsl,trivial⟩
  repeat(first|(refine A1 ⟨?_⟩;intros)|refine W4 ca ⟨?_⟩)
  refine Wtx (next_pu zs hz 2 (by omega) (by omega)) mmA fun k=>?_
  obtain⟨k,hk⟩:=k
  simp only []
  have hf:(1+(k:Int))=1∨(1+(k:Int))=2:=by omega
  obtain⟨_,c1,c2⟩:=key [r] (1+(k:Int)) (by simp) (by simp) hrs hf
  have hfin:=fin [r] (1+(k:Int)) (by simp) hrs
  repeat(first|(refine A1 ⟨?_⟩;intros)|refine W4 c1 ⟨?_⟩|refine W4 c2 ⟨?_⟩)
  exact endMR () _ (end1 (RV.tmp rfl) hfin) mmA (LeL.refl _)
theorem pow_one (d:Nat):12≤12*2^d:=by have:0<2^d:=Nat.pow_pos (by omega);omega
theorem half_pu {l:Li}(hl:l.sm):Pu Tryz.prog 46 [rt (.node l (.leaf true) (.leaf false))] (rt (restrT (.node l (.leaf true) (.leaf false)) [])):=rreduce_pu _ ⟨hl,trivial,trivial⟩ (by simp [depT])
theorem half_gd {l:Li}(hl:l.sm):Gd [l] (restrT (.node l (.leaf true) (.leaf false)) []):=Gd.restr (fun x hx=>by rw [List.mem_singleton.1 hx];exact hl.1) ⟨List.mem_singleton.2 rfl,trivial,trivial⟩
theorem tree_gd {t:Tr}(h:t.all fun l=>l.ok∧l.le 1):Gd (linesT t) (restrT t []):=Gd.restr (fun l hl=>(linesT_all h l hl).1) (linesT_lin t)
set_option maxHeartbeats 4000000 in
theorem tregion_pu (zs:List Int) (hz:zs.length≤400):∀d:Nat,d≤3→PuT 14 zs [lit (.int .i64 (d:Int))] (regR (12*2^d)):=by
 intro d
 induction d with
 |zero =>
  intro _
  refine PuM.intro Tryz.func14 rfl (by kernel_rfl) fun C b=>?_
  repeat(refine A1 ⟨?_⟩;intros)
  refine Wtx (next_pu zs hz 6 (by omega) (by omega)) mmA fun k=>?_
  obtain⟨k,hk⟩:=k
  simp only []
  rcases(by omega:k=1∨k=2∨k=3∨k=0∨(k≠0∧k≠1∧k≠2∧k≠3))with rfl|rfl|rfl|rfl|⟨k0,k1,k2,k3⟩
  ·repeat(refine A1 ⟨?_⟩;intros)
   refine Wtx (tl_pu zs hz) mmA fun l=>?_
   obtain⟨l,hok,hle⟩:=l
   simp only []
   have c:=half_pu (l:=l) ⟨hok,hle⟩
   rw [show rt (.node l (.leaf true) (.leaf false))=pt (rc (.node l (.leaf true) (.leaf false)))from rfl,rc_node]at c
   repeat(first|(refine Wo (ov_boxP (sv:=ag _) rfl) ?_)|(refine Wdo (ov_boxP (sv:=ag _) rfl) ?_)|(refine A1 ⟨?_⟩;intros)|refine W4 (rcode_pu true) ⟨?_⟩|refine W4 (rcode_pu false) ⟨?_⟩|refine W4 c ⟨?_⟩)
   exact endMR () _ (end1 (RV.tmp rfl) (reg_mk [l] (by simp) (fun x hx=>by rw [List.mem_singleton.1 hx];exact⟨hok,hle⟩) (half_gd ⟨hok,hle⟩))) mmA (LeL.refl _)
  ·repeat(refine A1 ⟨?_⟩;intros)
   refine Wtx (ttree_pu zs hz 3 (by omega)) mmA fun t=>?_
   obtain⟨t,ht,hs⟩:=t
   simp only []
   have h8:t.size<8:=hs
   have hd:=dep_size t
   have c:=rreduce_pu t ht (by omega)
   have hln:=linesT_len t
   repeat(first|(refine A1 ⟨?_⟩;intros)|refine W4 c ⟨?_⟩)
   exact endMR () _ (end1 (RV.tmp rfl) (reg_mk (linesT t) (by simp only [Nat.pow_zero];omega) (fun x hx=>linesT_all ht x hx) (tree_gd ht))) mmA (LeL.refl _)
  ·repeat(refine A1 ⟨?_⟩;intros)
   refine Wtx (tbounded_pu zs hz) mmA fun t=>?_
   obtain⟨t,L,h1,h2,h3⟩:=t
   simp only []
   have c:=rnot_pu t (gd_all h2 h3)
   repeat(first|(refine A1 ⟨?_⟩;intros)|refine W4 c ⟨?_⟩)
   exact endMR () _ (end1 (RV.tmp rfl) (reg_mk L (by simpa using h1) h2 h3.not)) mmA (LeL.refl _)
  ·repeat(refine A1 ⟨?_⟩;intros)
   refine Wtx (tbounded_pu zs hz) mmA fun t=>?_
   obtain⟨t,L,h1,h2,h3⟩:=t
   simp only []
   repeat(refine A1 ⟨?_⟩;intros)
   exact endMR () _ (end1 (RV.tmp rfl) (reg_mk L (by simpa using h1) h2 h3)) mmA (LeL.refl _)
  ·repeat(refine A1 ⟨?_⟩;intros)
   refine Wtx (tbounded_pu zs hz) mmA fun t=>?_
   obtain⟨t,L,h1,h2,h3⟩:=t
   simp only []
   repeat(refine A1 ⟨?_⟩;intros)
   exact endMR () _ (end1 (RV.tmp rfl) (reg_mk L (by simpa using h1) h2 h3)) mmA (LeL.refl _)
 |succ d ih =>
  intro hd
  have hr:=ih (by omega)
  rw [show(d:Int)=((d+1:Nat):Int)-1 from by omega]at hr
  have hp:=pow_one (d+1)
  have hp8:12*2^(d+1)=12*2^d+12*2^d:=by rw [Nat.pow_succ];omega
  have hp3:2^d≤2^3:=Nat.pow_le_pow_right (by omega) (by omega)
  clear ih
  refine PuM.intro Tryz.func14 rfl (by kernel_rfl) fun C b=>?_
  repeat(refine A1 ⟨?_⟩;intros)
  refine Wtx (next_pu zs hz 6 (by omega) (by omega)) mmA fun k=>?_
  obtain⟨k,hk⟩:=k
  simp only []
  rcases(by omega:k=0∨k=1∨k=2∨k=3∨(k≠0∧k≠1∧k≠2∧k≠3))with rfl|rfl|rfl|rfl|⟨k0,k1,k2,k3⟩
  ·repeat(refine A1 ⟨?_⟩;intros)
   refine Wtx hr mmA fun t=>?_
   obtain⟨t,L,h1,h2,h3⟩:=t
   simp only []
   repeat(refine A1 ⟨?_⟩;intros)
   refine Wtx (next_pu zs hz 4 (by omega) (by omega)) mmA fun o=>?_
   obtain⟨o,ho⟩:=o
   simp only []
   repeat(refine A1 ⟨?_⟩;intros)
   refine Wtx hr mmA fun u=>?_
   obtain⟨u,M,m1,m2,m3⟩:=u
   simp only []
   have q1:=h3.dep
   have q2:=m3.dep
   have hLM:∀l∈L++M,l.sm:=fun l hl=>(List.mem_append.1 hl).elim (h2 l) (m2 l)
   have g1:=Gd.mono (M:=L++M) (fun l hl=>List.mem_append_left _ hl) h3
   have g2:=Gd.mono (M:=L++M) (fun l hl=>List.mem_append_right _ hl) m3
   have c:=rmergeT_pu (1+(o:Int)) (by omega) u (gd_all m2 m3) t [] (gd_all h2 h3) (fun m h=>by cases h) (by simp only [List.length_nil];omega)
   have c':=c.arg (l':=[lit (.int .i64 (1+(o:Int))),rt t,rt u,lit (.slice none 0 0)]) ⟨Le.refl _,Le.refl _,Le.refl _,le_nilS,trivial⟩
   have hg:Gd (L++M) (mergeT (1+(o:Int)) t u []):=Gd.merge (sm_oks hLM) g1.1 g2.1
   have hlen:(L++M).length≤12*2^(d+1):=by rw [List.length_append];omega
   generalize mergeT (1+(o:Int)) t u []=r at *
   clear c h3 m3 g1 g2 h2 m2
   repeat(first|(refine A1 ⟨?_⟩;intros)|refine W4 c' ⟨?_⟩)
   exact endMR () _ (end1 (RV.tmp rfl) (reg_mk (L++M) hlen hLM hg)) mmA (LeL.refl _)
  ·repeat(refine A1 ⟨?_⟩;intros)
   refine Wtx (tl_pu zs hz) mmA fun l=>?_
   obtain⟨l,hok,hle⟩:=l
   simp only []
   have c:=half_pu (l:=l) ⟨hok,hle⟩
   rw [show rt (.node l (.leaf true) (.leaf false))=pt (rc (.node l (.leaf true) (.leaf false)))from rfl,rc_node]at c
   repeat(first|(refine Wo (ov_boxP (sv:=ag _) rfl) ?_)|(refine Wdo (ov_boxP (sv:=ag _) rfl) ?_)|(refine A1 ⟨?_⟩;intros)|refine W4 (rcode_pu true) ⟨?_⟩|refine W4 (rcode_pu false) ⟨?_⟩|refine W4 c ⟨?_⟩)
   exact endMR () _ (end1 (RV.tmp rfl) (reg_mk [l] (by simp only [List.length_singleton];omega) (fun x hx=>by rw [List.mem_singleton.1 hx];exact⟨hok,hle⟩) (half_gd ⟨hok,hle⟩))) mmA (LeL.refl _)
  ·repeat(refine A1 ⟨?_⟩;intros)
   refine Wtx (ttree_pu zs hz 3 (by omega)) mmA fun t=>?_
   obtain⟨t,ht,hs⟩:=t
   simp only []
   have h8:t.size<8:=hs
   have hd:=dep_size t
   have c:=rreduce_pu t ht (by omega)
   have hln:=linesT_len t
   repeat(first|(refine A1 ⟨?_⟩;intros)|refine W4 c ⟨?_⟩)
   exact endMR () _ (end1 (RV.tmp rfl) (reg_mk (linesT t) (by omega) (fun x hx=>linesT_all ht x hx) (tree_gd ht))) mmA (LeL.refl _)
  ·repeat(refine A1 ⟨?_⟩;intros)
   refine Wtx (tbounded_pu zs hz) mmA fun t=>?_
   obtain⟨t,L,h1,h2,h3⟩:=t
   simp only []
   have c:=rnot_pu t (gd_all h2 h3)
   repeat(first|(refine A1 ⟨?_⟩;intros)|refine W4 c ⟨?_⟩)
   exact endMR () _ (end1 (RV.tmp rfl) (reg_mk L (by omega) h2 h3.not)) mmA (LeL.refl _)
  ·repeat(refine A1 ⟨?_⟩;intros)
   refine Wtx (tbounded_pu zs hz) mmA fun t=>?_
   obtain⟨t,L,h1,h2,h3⟩:=t
   simp only []
   repeat(refine A1 ⟨?_⟩;intros)
   exact endMR () _ (end1 (RV.tmp rfl) (reg_mk L (by omega) h2 h3)) mmA (LeL.refl _)
theorem M6.le.le_mono {m:M6 Rat}{L L':Nat}(h:m.le L) (k:L≤L'):m.le L':=⟨Nat.le_trans h.a k,Nat.le_trans h.b k,Nat.le_trans h.c k,Nat.le_trans h.d k,Nat.le_trans h.e k,Nat.le_trans h.f k⟩
abbrev M6.app (m:M6 Rat) (p:Pq):Pq:=(m.a*p.1+m.b*p.2+m.c,m.d*p.1+m.e*p.2+m.f)
end Go.Ab
