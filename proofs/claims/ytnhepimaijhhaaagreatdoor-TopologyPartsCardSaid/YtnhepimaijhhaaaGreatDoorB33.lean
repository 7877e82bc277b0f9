/- Texts laid one behind the other: GwK, TmC, Nbr, TqA. -/
import Derived.Test.YtnhepimaijhhaaaGreatDoorB32
import Derived.Test.YtnhepimaijhhaaaGreatDoorB30
import Derived.Test.YtnhepimaijhhaaaGreatDoorB23
import Derived.Test.YtnhepimaijhhaaaGreatDoorB26
import Derived.Test.YtnhepimaijhhaaaGreatDoorB31
set_option linter.all false
set_option maxHeartbeats 16000000
namespace Go.Ab
open Go.Proofs
variable [Base]
theorem pJ (rs:List (List Pq)) (hl:rs.length≤1000) (hh:∀r∈rs,eG r):Pu Tryz.prog 24 [qM rs] (xI rs):=by
 refine Pi Tryz.func24 fun C=>?_
 repeat(refine A1 ⟨?_⟩;intros)
 refine WP.loopS (ι:=o8) (fun y=>y.k≤rs.length∧Own 116 1 y.k ((rs.take y.k).map fun r=>[aps r]).flatten y.s y.Hs) (fun y=>rs.length-y.k)
  (fun y=>fm [(3,y.s),(6,qM rs),(7,lit (.int .i64 rs.length)),(8,lit (.int .i64 y.k))]) (fun y=>y.Hs) ⟨0,lit (.slice none 0 0),[]⟩
  ⟨Nat.zero_le _,Own.nil _ _⟩ lfA (List.nil_sublist _) ?_
 rintro ⟨k,s,Hs⟩ ⟨hk,hown⟩ K hK
 simp only at hk hown⊢
 have hco:=hown.co
 by_cases hkl:k<rs.length
 ·obtain⟨r,hget,hmm,hat,hne⟩:=elt (f:=fun r=>[rps r]) (n:=1) (fun _=>rfl) om hkl
  have hr:=hh r hmm
  have c:=G7 r (by have:=hr.1;omega) (fun p hp=>by have:=hr.ht p hp;omega)
  have hgo:=fun s' Hs' h F' H'=>hK F' H' ⟨k+1,s',Hs'⟩ ⟨by simp only;omega,h⟩ (by simp only;omega)
  simp only [e7 hget]at hgo
  clear hK hh hget hmm hr
  repeat(refine A1 ⟨?_⟩;intros)
  refine Wo (a6 (cs':=[rps r]) rfl rfl om om hat hne) ?_
  repeat(first|(refine Wo (ez (s:=aps r) (ds:=[aps r]) rfl inferInstance) ?_)|(refine Wdo (ez (s:=aps r) (ds:=[aps r]) rfl inferInstance) ?_)|(refine A1 ⟨?_⟩;intros)|refine W4 c ⟨?_⟩)
  refine gU (ds:=[aps r]) hown (Tk.same _) om (fun s' H1 hown'=>?_)
  have hco':=hown'.co
  replace hgo:=hgo s' H1 hown'
  clear hown hown'
  repeat(refine A1 ⟨?_⟩;intros)
  exact hgo _ _ lfA Sr
 ·have hke:k=rs.length:=by omega
  subst hke
  rw [List.take_length]at hown
  refine WP.rowS 3 hown rfl (by rw [List.append_nil]) ?_
  clear hK hown
  exact Z1
theorem FP (l:List Pq):aps l=J5 (l.map fun p=>(RQ.of p.1,RQ.of p.2)):=by
 show sl _ _=sl ((l.map fun p=>(RQ.of p.1,RQ.of p.2)).map oE).flatten (l.map fun p=>(RQ.of p.1,RQ.of p.2)).length
 rw [List.map_map,List.length_map];rfl
theorem GC {l:List Pq}(h:eG l):Pu Tryz.prog 50 [aps l] (rps l):=by
 have c:=Ja (l.map fun p=>(RQ.of p.1,RQ.of p.2)) (L:=1) (by have:=h.1;rw [List.length_map];omega) (fun q hq=>by
  obtain⟨p,hp,rfl⟩:=List.mem_map.1 hq
  obtain⟨h1,h2⟩:=h.ht p hp
  exact⟨RQ.of_ok h1,RQ.of_ok h2⟩) om
 rw [←FP,List.map_map,show(rvl∘fun p:Pq=>(RQ.of p.1,RQ.of p.2))=id from funext fun p=>by simp [rvl,RQ.of_v],List.map_id]at c
 exact c
theorem pN (x y:Nat×TypeId×List SV) (A B:LH):(x::y::(A++B)).Perm (A++(x::y::B)):=by
 have:=(List.perm_append_comm (l₁:=[x,y]) (l₂:=A)).append_right B
 simpa using this
theorem zV (x y:Nat×TypeId×List SV) (A B:LH):(x::y::(A++B)).Perm (B++(x::y::A)):=List.perm_append_comm (l₁:=x::y::A) (l₂:=B)
structure KH where
 k:Nat
 s1:SV
 H1:LH
 s2:SV
 H2:LH
def f6 (rs:List (List Pq)):List Li:=((rs.map dw).flatten).map Prod.fst
theorem BS {rs:List (List Pq)}{k:Nat}{r:List Pq}(h:rs[k]? = some r):f6 (rs.take (k+1))=f6 (rs.take k)++(dw r).map Prod.fst:=by
 unfold f6
 rw [cj h,List.map_append,List.flatten_append,List.map_append];simp
theorem gI:∀(rs:List (List Pq)),(∀r∈rs,eG r)→(f6 rs).length≤6*rs.length
 | [],_=>by simp [f6]
 |r::rs,h=>by
  have h1:=gI rs (fun r hr=>h r (Mc hr))
  have h2:=(h r Ms).1
  have h3:=nR r
  unfold f6 at *
  simp only [List.map_cons,List.flatten_cons,List.map_append,List.length_append,List.length_map,List.length_cons]at *
  omega
theorem pX {rs:List (List Pq)}(h:∀r∈rs,eG r):∀l∈f6 rs,l.sm:=fun l hl=>by
 obtain⟨f,hf,rfl⟩:=List.mem_map.1 hl
 obtain⟨e,he,hfe⟩:=List.mem_flatten.1 hf
 obtain⟨r,hr,rfl⟩:=List.mem_map.1 he
 exact(qe (h r hr) f hfe).1
abbrev RT:TypeId:=65
abbrev psT:TypeId:=59
theorem zE {rs:List (List Pq)}(fill:Int) (h0:rs≠[]) (hl:rs.length≤1000) (hh:∀r∈rs,eG r):Pu Tryz.prog 23 [xI rs,lit (.int .i64 fill)] (rgR rs fill (mE (f6 rs))):=by
 have hpos:=List.length_pos_iff.2 h0
 have hll:=gI rs hh
 have hsm:=pX hh
 have cd:=uI (f6 rs) om (fun m hm=>(hsm m hm).ile)
 refine Pi Tryz.func23 fun C=>?_
 repeat(refine A1 ⟨?_⟩;intros)
 rename_i b4 b5
 refine WP.loopS (ι:=KH) (fun y=>y.k≤rs.length∧Own psT 1 y.k ((rs.take y.k).map fun r=>[rps r]).flatten y.s1 y.H1∧Own lT 6 (f6 (rs.take y.k)).length ((f6 (rs.take y.k)).map lqx).flatten y.s2 y.H2) (fun y=>rs.length-y.k)
  (fun y=>fm [(4,lit (.pointer (some ⟨b4,0,none⟩))),(5,lit (.pointer (some ⟨b5,0,none⟩))),(6,y.s2),(14,xI rs),(15,lit (.int .i64 rs.length)),(16,lit (.int .i64 y.k))])
  (fun y=>(b5,RT,[y.s1,lit (.int .i64 fill),lit (.slice none 0 0)])::(b4,RT,[lit (.slice none 0 0),lit (.int .i64 0),lit (.slice none 0 0)])::(y.H1++y.H2)) ⟨0,lit (.slice none 0 0),[],lit (.slice none 0 0),[]⟩
  ⟨Nat.zero_le _,Own.nil _ _,Own.nil _ _⟩ lfA Sr ?_
 rintro ⟨k,s1,H1,s2,H2⟩ ⟨hk,hown1,hown2⟩ K hK
 simp only at hk hown1 hown2⊢
 have hco1:=hown1.co
 have hco2:=hown2.co
 by_cases hkl:k<rs.length
 ·obtain⟨r,hget,hmm,hat,hne⟩:=elt (f:=fun r=>[aps r]) (n:=1) (fun _=>rfl) om hkl
  have hr:=hh r hmm
  have c1:=GC hr
  have c2:=tf hr
  have hel:=nR r
  have h6:=hr.1
  have hlk:(f6 (rs.take k)).length≤6000:=by
   have:=gI (rs.take k) (fun r hr=>hh r (List.mem_of_mem_take hr))
   rw [List.length_take]at this
   omega
  have hgo:=fun s1' H1' (h1:Own psT 1 (k+1) ((rs.take (k+1)).map fun r=>[rps r]).flatten s1' H1') s2' H2' (h2:Own lT 6 (f6 (rs.take (k+1))).length ((f6 (rs.take (k+1))).map lqx).flatten s2' H2') F' H'=>hK F' H' ⟨k+1,s1',H1',s2',H2'⟩ ⟨(by simp only;omega),h1,h2⟩ (by simp only;omega)
  simp only [e7 hget,BS hget]at hgo
  generalize f6 (rs.take k)=ls at *
  generalize dw r=es at *
  clear hK hh hget hmm hr cd hsm hll
  repeat(refine A1 ⟨?_⟩;intros)
  refine Wo (a6 (cs':=[aps r]) rfl rfl om om hat hne) ?_
  repeat(first|(refine Wo (ez (s:=rps r) (ds:=[rps r]) rfl inferInstance) ?_)|(refine Wdo (ez (s:=rps r) (ds:=[rps r]) rfl inferInstance) ?_)|(refine A1 ⟨?_⟩;intros)|refine W4 c1 ⟨?_⟩)
  refine vK (ds:=[rps r]) hown1 (pN _ _ _ _) om (fun s1' H1' hown1'=>?_)
  have hco1':=hown1'.co
  replace hgo:=hgo s1' H1' hown1'
  clear hown1 hown1'
  refine WPL.perm (pN _ _ _ _).symm ?_
  repeat(refine A1 ⟨?_⟩;intros)
  refine WPL.store (b:=b5) (o:=0) (sv:=s1') (cs':=[s1',lit (.int .i64 fill),lit (.slice none 0 0)]) rfl rfl rfl (.here _) rfl rfl ?_
  repeat(first|(refine A1 ⟨?_⟩;intros)|refine W4 c2 ⟨?_⟩)
  refine WP.loopS (ι:=o8) (fun y=>y.k≤es.length∧Own lT 6 (ls++(es.take y.k).map Prod.fst).length ((ls++(es.take y.k).map Prod.fst).map lqx).flatten y.s y.Hs) (fun y=>es.length-y.k)
   (fun y=>fm [(4,lit (.pointer (some ⟨b4,0,none⟩))),(5,lit (.pointer (some ⟨b5,0,none⟩))),(6,y.s),(14,xI rs),(15,lit (.int .i64 rs.length)),(16,lit (.int .i64 k)),(29,fqs es),(30,lit (.int .i64 es.length)),(31,lit (.int .i64 y.k))])
   (fun y=>(b5,RT,[s1',lit (.int .i64 fill),lit (.slice none 0 0)])::(b4,RT,[lit (.slice none 0 0),lit (.int .i64 0),lit (.slice none 0 0)])::(H1'++y.Hs)) ⟨0,s2,H2⟩
   ⟨Nat.zero_le _,by simpa using hown2⟩ lfA Sr ?_
  rintro ⟨j,s3,H3⟩ ⟨hj,hown3⟩ K2 hK2
  simp only at hj hown3⊢
  have hco3:=hown3.co
  clear hown2
  by_cases hjl:j<es.length
  ·obtain⟨e,hget2,hmm2,hat2,hne2⟩:=elt iX om hjl
   have hlen:(ls++(es.take (j+1)).map Prod.fst).length=(ls++(es.take j).map Prod.fst).length+1:=by
    rw [cj hget2];simp;omega
   have hcel:((ls++(es.take (j+1)).map Prod.fst).map lqx).flatten=((ls++(es.take j).map Prod.fst).map lqx).flatten++lqx e.1:=by
    rw [cj hget2,List.map_append,List.map_append,List.flatten_append,List.map_append,List.flatten_append,List.map_append,List.flatten_append,List.append_assoc];simp
   have hlb:(ls++(es.take j).map Prod.fst).length≤7000:=by rw [List.length_append,List.length_map,List.length_take];omega
   have hgo2:=fun s' Hs' h F' H'=>hK2 F' H' ⟨j+1,s',Hs'⟩ ⟨by simp only;omega,h⟩ (by simp only;omega)
   simp only [hlen,hcel]at hgo2
   clear hK2 hgo hlen hcel hget2 hmm2 c1 c2
   generalize(ls++(es.take j).map Prod.fst).length=nn at *
   generalize((ls++(es.take j).map Prod.fst).map lqx).flatten=cc at *
   repeat(refine A1 ⟨?_⟩;intros)
   refine Wo (a6 (cs':=fqx e) rfl rfl om om hat2 hne2) ?_
   repeat(refine A1 ⟨?_⟩;intros)
   rename_i b11
   refine WPL.store (b:=b11) (o:=0) (sv:=ag (fqx e)) (cs':=fqx e) rfl rfl rfl (.here _) rfl rfl ?_
   repeat(first|(refine Wo (aA (lqx e.1) rfl) ?_)|(refine Wdo (aA (lqx e.1) rfl) ?_)|(refine A1 ⟨?_⟩;intros))
   refine vK (ds:=lqx e.1) hown3 (List.perm_append_comm (l₁:=_::_::_::H1') (l₂:=H3)) om (fun s' H1 hown'=>?_)
   have hco':=hown'.co
   replace hgo2:=hgo2 s' H1 hown'
   clear hown3 hown'
   refine WPL.perm List.perm_append_comm ?_
   simp only [List.cons_append]
   repeat(refine A1 ⟨?_⟩;intros)
   exact hgo2 _ _ lfA (Sc Sr)
  ·have hje:j=es.length:=by omega
   subst hje
   rw [List.take_length]at hown3
   replace hgo:=hgo s3 H3 hown3
   clear hK2 hown3
   repeat(refine A1 ⟨?_⟩;intros)
   exact hgo _ _ lfA Sr
 ·have hke:k=rs.length:=by omega
  subst hke
  rw [List.take_length]at hown1 hown2
  obtain⟨b1,q1,hc1,hm1,rfl,rfl⟩:=hown1.blk hpos
  refine WP.rowS 6 hown2 rfl (R:=(b5,RT,[lit (.slice (some ⟨b1,0,none⟩) rs.length q1),lit (.int .i64 fill),lit (.slice none 0 0)])::(b4,RT,[lit (.slice none 0 0),lit (.int .i64 0),lit (.slice none 0 0)])::[(b1,psT,(rs.map fun r=>[rps r]).flatten++List.replicate (q1*1-rs.length*1) top)]) (List.perm_append_comm (l₁:=_::_::[_]) (l₂:=H2)) ?_
  clear hK hown1 hown2 hsm hh hll
  repeat(refine A1 ⟨?_⟩;intros)
  refine WPL.pubC (c1:=[]) (c2:=[lit (.int .i64 fill),lit (.slice none 0 0)]) (s':=qM rs) (.there _ (.there _ (.here _))) (.here _) (fun m arr hm ha=>uJ hm ha hc1 hm1) ?_
  simp only [List.nil_append]
  exact X1 cd
theorem vX {l:List Fg}{k:Nat}{f:Fg}{m:Li}(h:l[k]? = some f):(aN (l.take (k+1)) m).1=(aN (l.take k) m).1++(bd f m).1∧(aN (l.take (k+1)) m).2=(aN (l.take k) m).2++(bd f m).2:=by
 unfold aN
 simp only
 rw [cj h]
 simp [List.map_append,List.flatten_append]
theorem mf {L:List Li}{m:Li}:∀{l:List Fg},(∀f∈l,FgG L f)→(aN l m).1.length≤l.length∧(aN l m).2.length≤l.length
 | [],_=>⟨Nat.le_refl _,Nat.le_refl _⟩
 |f::l,h=>by
  obtain⟨h1,h2⟩:=mf (m:=m) fun g hg=>h g (Mc hg)
  obtain⟨h3,h4⟩:=ou (m:=m) (h f Ms)
  unfold aN at *
  simp only [List.map_cons,List.flatten_cons,List.length_append,List.length_cons]at *
  omega
structure FgW (L:List Li) (f:Fg):Prop where
 g:FgG L f
 l:f.1.sm
 s:f.2.le 46
theorem CY {L:List Li}{m:Li}(hm:m.sm){l:List Fg}(hl:∀f∈l,FgW L f):(∀g∈(aN l m).1,FgW L g)∧∀g∈(aN l m).2,FgW L g:=by
 have key:∀f∈l,(∀g∈(bd f m).1,FgW L g)∧∀g∈(bd f m).2,FgW L g:=fun f hf=>by
  obtain⟨h1,h2,h3⟩:=hl f hf
  obtain⟨g1,g2⟩:=mW (m:=m) h1
  obtain⟨k1,k2⟩:=sR h1 h2 hm h3
  exact⟨fun g hg=>⟨(g1 g hg).1,by rw [(g1 g hg).2];exact h2,k1 g hg⟩,fun g hg=>⟨(g2 g hg).1,by rw [(g2 g hg).2];exact h2,k2 g hg⟩⟩
 unfold aN
 constructor
 ·intro g hg
  obtain⟨a,ha,hga⟩:=List.mem_flatten.1 hg
  obtain⟨f,hf,rfl⟩:=List.mem_map.1 ha
  exact(key f hf).1 g hga
 ·intro g hg
  obtain⟨a,ha,hga⟩:=List.mem_flatten.1 hg
  obtain⟨f,hf,rfl⟩:=List.mem_map.1 ha
  exact(key f hf).2 g hga
theorem yX (a b:List Fg):((a++b).map fqx).flatten=(a.map fqx).flatten++(b.map fqx).flatten:=by rw [List.map_append,List.flatten_append]
abbrev ptR:TypeId:=23
theorem uE {rs:List (List Pq)}{fill:Int}{ls:List Li}(hf:fill=1∨fill=2) (hrl:rs.length≤1000) (hrs:∀r∈rs,eG r){L:List Li}:∀(n:Nat) (l:List Fg) (c:List Li),(∀f∈l,FgW L f)→fE L l<n→(∀m∈c,m.sm)→c.length+n≤80000→l.length≤1000→
  Pu Tryz.prog 49 [rgR rs fill ls,fqs l,lqs c] (rt (jx (inR rs fill) n l c))
 |0,_,_,_,h,_,_,_=>by omega
 |n+1,[],c,_,_,hc,hd,_=>by
  have d1:=oB hc om
  have h9:=BZ hc
  have d2:=Gu (ls:=ls) (p:=(cw c).getD (0,0)) hf hrl hrs ⟨by have:=h9.1;omega,by have:=h9.2;omega⟩
  have d3:=cE (inR rs fill ((cw c).getD (0,0)))
  unfold jx
  clear hc h9 hrs hf
  generalize inR rs fill ((cw c).getD (0,0))=bb at *
  generalize(cw c).getD (0,0)=p at *
  refine Pi Tryz.func49 fun C=>?_
  exact Y3 d1 d2 d3
 |n+1,f::l,c,hl,hphi,hc,hd,hlen=>by
  have hfw:=hl f Ms
  have hsm:=hfw.l
  have hphi2:=p7 fun g hg=>(hl g hg).g
  obtain⟨w1,w2⟩:=CY hsm hl
  obtain⟨n1,n2⟩:=mf (m:=f.1) fun g hg=>(hl g hg).g
  have i1:=uE (ls:=ls) hf hrl hrs n (aN (f::l) f.1).1 (c++[f.1]) w1 om (gu hc hsm) (by rw [List.length_append,List.length_singleton];omega) om
  have i2:=uE (ls:=ls) hf hrl hrs n (aN (f::l) f.1).2 (c++[f.1.neg]) w2 om (gu hc hsm.neg) (by rw [List.length_append,List.length_singleton];omega) om
  have hsl:∀m:Li,lqs (c++[m])=sl ((c.map lqx).flatten++lqx m) (c.length+1):=fun m=>by
   show sl ((c++[m]).map lqx).flatten (c++[m]).length=_
   rw [ly,List.length_append,List.length_singleton]
  rw [hsl]at i1 i2
  have hfl:=ij c
  have d3:=iQ f.1 hsm.ile
  have ds:∀g∈f::l,Pu Tryz.prog 73 [ag (fqx g),lq f.1] (Ab.tup [fqs (bd g f.1).1,fqs (bd g f.1).2])∧(bd g f.1).1.length≤1∧(bd g f.1).2.length≤1:=fun g hg=>⟨sZ (hl g hg).g (hl g hg).l hsm (hl g hg).s,ou (hl g hg).g⟩
  have hb1:∀k,(aN ((f::l).take k) f.1).1.length≤1000∧(aN ((f::l).take k) f.1).2.length≤1000:=fun k=>by
   obtain⟨q1,q2⟩:=mf (l:=(f::l).take k) (m:=f.1) fun g hg=>(hl g (List.mem_of_mem_take hg)).g
   rw [List.length_take]at q1 q2
   omega
  show Pu _ _ _ (rt (.node f.1 (jx (inR rs fill) n (aN (f::l) f.1).1 (c++[f.1])) (jx (inR rs fill) n (aN (f::l) f.1).2 (c++[f.1.neg]))))
  generalize jx (inR rs fill) n (aN (f::l) f.1).1 (c++[f.1])=tA at *
  generalize jx (inR rs fill) n (aN (f::l) f.1).2 (c++[f.1.neg])=tB at *
  have hat0:=dF (f:=fqx) (n:=14) (l:=f::l) (k:=0) iX rfl
  have hne0:((f::l).map fqx).flatten≠[]:=dE iX om (by simp)
  have hgl:f∈f::l:=Ms
  have hpl:0<(f::l).length:=by simp
  clear hl hphi hphi2 w1 w2 hsl hf hrs hfw
  obtain⟨m,hm⟩:∃m,m=f.1:=⟨_,rfl⟩
  rw [←hm]at i1 i2 d3 ds hb1 n1 n2⊢
  have hfq:fqx f=lqx m++spx f.2:=by rw [hm]
  rw [hfq]at hat0
  generalize hxs:f::l=xs at *
  clear hxs hm hfq hgl
  refine Pi Tryz.func49 fun C=>?_
  repeat(first|(refine Wo (aC (sv:=ag _) rfl) ?_)|(refine Wdo (aC (sv:=ag _) rfl) ?_)|(refine A1 ⟨?_⟩;intros))
  refine Wo (a6 (cs':=lqx m++spx f.2) rfl rfl om om hat0 hne0) ?_
  repeat(refine A1 ⟨?_⟩;intros)
  rename_i b9
  refine WPL.store (b:=b9) (o:=0) (sv:=ag (lqx m)) (cs':=lqx m) rfl rfl rfl (.here _) rfl rfl ?_
  repeat(refine A1 ⟨?_⟩;intros)
  refine WP.loopS (ι:=KH) (fun y=>y.k≤xs.length∧Own fT 14 (aN (xs.take y.k) m).1.length ((aN (xs.take y.k) m).1.map fqx).flatten y.s1 y.H1∧Own fT 14 (aN (xs.take y.k) m).2.length ((aN (xs.take y.k) m).2.map fqx).flatten y.s2 y.H2) (fun y=>xs.length-y.k)
   (fun y=>fm [(2,lqs c),(3,pt [qM rs,lit (.int .i64 fill),lqs ls]),(9,lit (.pointer (some ⟨b9,0,none⟩))),(10,y.s1),(11,y.s2),(32,fqs xs),(33,lit (.int .i64 xs.length)),(34,lit (.int .i64 y.k))])
   (fun y=>(b9,lT,lqx m)::(y.H1++y.H2)) ⟨0,lit (.slice none 0 0),[],lit (.slice none 0 0),[]⟩
   ⟨Nat.zero_le _,Own.nil _ _,Own.nil _ _⟩ lfA Sr ?_
  rintro ⟨k,s1,H1,s2,H2⟩ ⟨hk,hown1,hown2⟩ K hK
  simp only at hk hown1 hown2⊢
  have hco1:=hown1.co
  have hco2:=hown2.co
  by_cases hkl:k<xs.length
  ·obtain⟨g,hget,hmm,hat,hne⟩:=elt iX om hkl
   obtain⟨dg,g1,g2⟩:=ds g hmm
   obtain⟨r1,r2⟩:=hb1 k
   obtain⟨e1,e2⟩:=vX (m:=m) hget
   have hgo:=fun s1' H1' (h1:Own fT 14 (aN (xs.take (k+1)) m).1.length ((aN (xs.take (k+1)) m).1.map fqx).flatten s1' H1') s2' H2' (h2:Own fT 14 (aN (xs.take (k+1)) m).2.length ((aN (xs.take (k+1)) m).2.map fqx).flatten s2' H2') F' H'=>hK F' H' ⟨k+1,s1',H1',s2',H2'⟩ ⟨(by simp only;omega),h1,h2⟩ (by simp only;omega)
   rw [e1,e2,yX,yX,List.length_append,List.length_append]at hgo
   have f1:(((bd g m).1.map fqx).flatten).length=(bd g m).1.length*14:=cI iX _
   have f2:(((bd g m).2.map fqx).flatten).length=(bd g m).2.length*14:=cI iX _
   clear hK hget hmm i1 i2 d3 ds hb1 hfl hat0 hne0 e1 e2
   generalize(bd g m).1=A at *
   generalize(bd g m).2=B at *
   generalize(aN (xs.take k) m).1.length=m1 at *
   generalize(aN (xs.take k) m).2.length=m2 at *
   generalize((aN (xs.take k) m).1.map fqx).flatten=q1 at *
   generalize((aN (xs.take k) m).2.map fqx).flatten=q2 at *
   repeat(refine A1 ⟨?_⟩;intros)
   refine Wo (a6 (cs':=fqx g) rfl rfl om om hat hne) ?_
   repeat(refine A1 ⟨?_⟩;intros)
   rename_i b13
   refine WPL.store (b:=b13) (o:=0) (sv:=ag (fqx g)) (cs':=fqx g) rfl rfl rfl (.here _) rfl rfl ?_
   repeat(first|(refine A1 ⟨?_⟩;intros)|refine W4 dg ⟨?_⟩)
   refine sr (k0:=A.length) (ds:=(A.map fqx).flatten) hown1 (pN _ _ _ _) om f1 (fun s1' H1' hown1'=>?_)
   have hco1':=hown1'.co
   replace hgo:=hgo s1' H1' hown1'
   clear hown1 hown1'
   refine WPL.perm (pN _ _ _ _).symm ?_
   repeat(refine A1 ⟨?_⟩;intros)
   refine sr (k0:=B.length) (ds:=(B.map fqx).flatten) hown2 (zV _ _ _ _) om f2 (fun s2' H2' hown2'=>?_)
   have hco2':=hown2'.co
   replace hgo:=hgo s2' H2' hown2'
   clear hown2 hown2'
   refine WPL.perm (zV _ _ _ _).symm ?_
   repeat(refine A1 ⟨?_⟩;intros)
   exact hgo _ _ lfA (Sc Sr)
  ·have hke:k=xs.length:=by omega
   subst hke
   rw [List.take_length]at hown1 hown2
   refine WP.rowS 11 hown2 rfl (R:=(b9,lT,lqx m)::H1) (List.perm_append_comm (l₁:=_::H1) (l₂:=H2)) ?_
   refine WP.rowS 10 hown1 rfl (R:=[(b9,lT,lqx m)]) (List.perm_append_comm (l₁:=[_]) (l₂:=H1)) ?_
   clear hK hown1 hown2 ds hb1 hat0 hne0
   generalize(aN xs m).1=A at *
   generalize(aN xs m).2=B at *
   rw [show rt (.node m tA tB)=pt (rc (.node m tA tB))from rfl,eH]
   by_cases h0:c=[]
   ·subst h0
    clear hfl hc
    repeat(first|(refine AS ⟨?_⟩;intros)|(refine O1 ⟨?_⟩;intros))
    repeat(first|(refine Wo (iU) ?_)|(refine Wdo (iU) ?_)|(refine Wo (f4 rfl rfl) ?_)|(refine Wdo (f4 rfl rfl) ?_)|(refine Wo (aX (r:=[(0,lqx m)]) (cs:=lqx m) (.cons (sv:=ag (lqx m)) rfl inferInstance .nil)) ?_)|(refine Wdo (aX (r:=[(0,lqx m)]) (cs:=lqx m) (.cons (sv:=ag (lqx m)) rfl inferInstance .nil)) ?_)|(refine Wo (aX (r:=[(0,lqx m.neg)]) (cs:=lqx m.neg) (.cons (sv:=ag (lqx m.neg)) rfl inferInstance .nil)) ?_)|(refine Wdo (aX (r:=[(0,lqx m.neg)]) (cs:=lqx m.neg) (.cons (sv:=ag (lqx m.neg)) rfl inferInstance .nil)) ?_)|(refine Wo (av (k:=0) (k0:=1) (ds:=lqx m) rfl rfl rfl rfl om) ?_)|(refine Wdo (av (k:=0) (k0:=1) (ds:=lqx m) rfl rfl rfl rfl om) ?_)|(refine Wo (av (k:=0) (k0:=1) (ds:=lqx m.neg) rfl rfl rfl rfl om) ?_)|(refine Wdo (av (k:=0) (k0:=1) (ds:=lqx m.neg) rfl rfl rfl rfl om) ?_)|(refine Wo (aC (sv:=ag _) rfl) ?_)|(refine Wdo (aC (sv:=ag _) rfl) ?_)|(refine A1 ⟨?_⟩;intros)|refine W4 i1 ⟨?_⟩|refine W4 i2 ⟨?_⟩|refine W4 d3 ⟨?_⟩)
    exact E1
   ·have hpos:=List.length_pos_iff.2 h0
    clear hc h0
    repeat(first|(refine AS ⟨?_⟩;intros)|(refine O1 ⟨?_⟩;intros))
    refine WdZ 22 [0,1,2,3,4,6,7,10,11,12,13,15,5,8,9,14,16,17,18,19,20,21] [5,8,14,18] [] [(b9,lT,lqx m)] ?_
    refine ZkD 12 ?_
    repeat(first|(refine Wo (gC) ?_)|(refine Wdo (gC) ?_)|(refine Wo (aX (r:=[(0,lqx m)]) (cs:=lqx m) (.cons (sv:=ag (lqx m)) rfl inferInstance .nil)) ?_)|(refine Wdo (aX (r:=[(0,lqx m)]) (cs:=lqx m) (.cons (sv:=ag (lqx m)) rfl inferInstance .nil)) ?_)|(refine A1 ⟨?_⟩;intros))
    refine jf ?_
    refine ZkE rfl rfl hfl om om (fun s' H' hown=>?_) (hyx:=fun h=>by cases h)
    refine ZkP hown om ?_
    refine ZkD 1 ?_
    repeat(first|(refine A1 ⟨?_⟩;intros)|refine W4 i1 ⟨?_⟩)
    refine jf ?_
    refine ZkE rfl rfl hfl om om (fun s' H' hown=>?_) (hyx:=fun h=>by cases h)
    refine ZkD 2 ?_
    repeat(first|(refine Wo (aX (r:=[(0,lqx m.neg)]) (cs:=lqx m.neg) (.cons (sv:=ag (lqx m.neg)) rfl inferInstance .nil)) ?_)|(refine Wdo (aX (r:=[(0,lqx m.neg)]) (cs:=lqx m.neg) (.cons (sv:=ag (lqx m.neg)) rfl inferInstance .nil)) ?_)|(refine A1 ⟨?_⟩;intros)|refine W4 d3 ⟨?_⟩)
    refine jf ?_
    refine ZkP hown om ?_
    refine ZkD 3 ?_
    repeat(first|(refine Wo (aC (sv:=ag _) rfl) ?_)|(refine Wdo (aC (sv:=ag _) rfl) ?_)|(refine A1 ⟨?_⟩;intros)|refine W4 i2 ⟨?_⟩)
    refine jf ?_
    refine ZkN ?_
    exact Z1
theorem tg {rs:List (List Pq)}{fill:Int}{ls:List Li}(hf:fill=1∨fill=2) (hrl:rs.length≤20) (hrs:∀r∈rs,eG r) :
  Pu Tryz.prog 22 [rgR rs fill ls] (rt (ac (jx (inR rs fill) (20000) ((rs.map dw).flatten) []) [])):=by
 have hlen:((rs.map dw).flatten).length≤120:=by have:=gI rs hrs;unfold f6 at this;rw [List.length_map]at this;omega
 have hfw:∀f∈(rs.map dw).flatten,FgW (f6 rs) f:=fun f hf=>by
  obtain⟨e,he,hfe⟩:=List.mem_flatten.1 hf
  obtain⟨r,hr,rfl⟩:=List.mem_map.1 he
  obtain⟨q1,q2,q3⟩:=qe (hrs r hr) f hfe
  exact⟨q3 _ (List.mem_map.2 ⟨f,hf,rfl⟩),q1,⟨by have:=q2.1;omega,by have:=q2.2;omega⟩⟩
 have hL:=pX hrs
 have hLl:=gI rs hrs
 have hphi:fE (f6 rs) (rs.map dw).flatten≤120*121:=Nat.le_trans (pM _ _) (Nat.mul_le_mul hlen om)
 have ir:=uE (ls:=ls) hf om hrs 20000 ((rs.map dw).flatten) [] hfw om (fun m h=>by cases h) (by simp) om
 have ir':=ir.arg (l':=[rgR rs fill ls,fqs (rs.map dw).flatten,lit (.slice none 0 0)]) ⟨Le.refl _,Le.refl _,dS,trivial⟩
 obtain⟨z1,z2,z3⟩:=jw (inR rs fill) 20000 ((rs.map dw).flatten) [] (fun f hf=>(hfw f hf).g) (show fE (f6 rs) _<20000 by omega)
 have cr:=fY (jx (inR rs fill) 20000 (rs.map dw).flatten []) (z3.all hL) om
 have de:∀r∈rs,Pu Tryz.prog 48 [rps r] (fqs (dw r))∧(dw r).length≤6:=fun r hr=>⟨tf (hrs r hr),by rw [nR];exact(hrs r hr).1⟩
 have hb:∀k,(((rs.take k).map dw).flatten).length≤120:=fun k=>by
  have:=gI (rs.take k) (fun r hr=>hrs r (List.mem_of_mem_take hr))
  unfold f6 at this
  rw [List.length_map,List.length_take]at this
  omega
 clear hfw hL hLl hphi ir z1 z2 z3 hlen
 generalize jx (inR rs fill) 20000 (rs.map dw).flatten []=raw at *
 generalize ac raw []=red at *
 refine Pi Tryz.func22 fun C=>?_
 repeat(first|(refine Wo (aC (sv:=ag _) rfl) ?_)|(refine Wdo (aC (sv:=ag _) rfl) ?_)|(refine A1 ⟨?_⟩;intros))
 refine WP.loopS (ι:=o8) (fun y=>y.k≤rs.length∧Own fT 14 (((rs.take y.k).map dw).flatten).length ((((rs.take y.k).map dw).flatten).map fqx).flatten y.s y.Hs) (fun y=>rs.length-y.k)
  (fun y=>fm [(1,pt [qM rs,lit (.int .i64 fill),lqs ls]),(3,y.s),(7,qM rs),(8,lit (.int .i64 rs.length)),(9,lit (.int .i64 y.k))]) (fun y=>y.Hs) ⟨0,lit (.slice none 0 0),[]⟩
  ⟨Nat.zero_le _,Own.nil _ _⟩ lfA (List.nil_sublist _) ?_
 rintro ⟨k,s,Hs⟩ ⟨hk,hown⟩ K hK
 simp only at hk hown⊢
 have hco:=hown.co
 by_cases hkl:k<rs.length
 ·obtain⟨r,hget,hmm,hat,hne⟩:=elt (f:=fun r=>[rps r]) (n:=1) (fun _=>rfl) om hkl
  obtain⟨c,h6⟩:=de r hmm
  have hbk:=hb k
  have hgo:=fun s' Hs' h F' H'=>hK F' H' ⟨k+1,s',Hs'⟩ ⟨by simp only;omega,h⟩ (by simp only;omega)
  simp only [e7 hget,yX,List.length_append]at hgo
  have f1:(((dw r).map fqx).flatten).length=(dw r).length*14:=cI iX _
  clear hK hget hmm de hb ir' cr
  generalize dw r=A at *
  generalize(((rs.take k).map dw).flatten).length=m1 at *
  generalize((((rs.take k).map dw).flatten).map fqx).flatten=q1 at *
  repeat(refine A1 ⟨?_⟩;intros)
  refine Wo (a6 (cs':=[rps r]) rfl rfl om om hat hne) ?_
  repeat(first|(refine A1 ⟨?_⟩;intros)|refine W4 c ⟨?_⟩)
  refine uj (k0:=A.length) (ds:=(A.map fqx).flatten) hown (Tk.same _) om f1 (fun s' H1 hown'=>?_)
  have hco':=hown'.co
  replace hgo:=hgo s' H1 hown'
  clear hown hown'
  repeat(refine A1 ⟨?_⟩;intros)
  exact hgo _ _ lfA Sr
 ·have hke:k=rs.length:=by omega
  subst hke
  rw [List.take_length]at hown
  refine WP.rowS 3 hown rfl (by rw [List.append_nil]) ?_
  clear hK hown de hb
  exact Y2 ir' cr
abbrev lsT:TypeId:=63
abbrev lss (l:List (List Li)):SV:=sl (l.map fun c=>[lqs c]).flatten l.length
def cl (L:RPs):List (List Li):=(L.filter (·.2)).map (·.1)
theorem BY {L:RPs}{k:Nat}{s:List Li}{i:Bool}(h:L[k]? = some (s,i)):cl (L.take (k+1))=if i then cl (L.take k)++[s]else cl (L.take k):=by
 unfold cl
 rw [List.take_add_one,h,List.filter_append,List.map_append]
 cases i <;> simp
theorem jH (L:RPs):(cl L).length≤L.length:=by
 unfold cl;rw [List.length_map];exact List.length_filter_le _ _
theorem GJ {l:List (List Li)}{c:List Li}{s:SV}{H:LH}(h:Own lsT 1 (l.length+1) ((l.map fun c=>[lqs c]).flatten++[lqs c]) s H):Own lsT 1 (l++[c]).length ((l++[c]).map fun c=>[lqs c]).flatten s H:=by
 rw [List.map_append,List.flatten_append,List.length_append]
 simpa using h
theorem zI {t:Tr}(hall:t.all fun l=>l.sm) (hd:bo t≤90000) (hl:aj t≤1000000):Pu Tryz.prog 31 [rt t] (lss (cl (aG t []))):=by
 have c:=(oC t [] hall (fun m hm=>by cases hm) (by simpa using hd) hl).leA (svs':=[rt t,lit (.slice none 0 0)]) ⟨Le.refl _,dS,trivial⟩
 have hn:=dz t []
 generalize aG t []=L at *
 clear hall hd
 refine PuH.toPu ?_
 refine PuH.intro Tryz.func31 rfl kr fun C hC=>?_
 repeat(refine A1 ⟨?_⟩;intros)
 refine WfT c ?_
 intro r H' hown
 simp only [List.nil_append]
 refine WPL.rowS 7 hown rfl (R:=[]) (by simp) ?_
 clear hown c
 repeat(refine A1 ⟨?_⟩;intros)
 refine WP.loopS (ι:=o8) (fun y=>y.k≤L.length∧Own lsT 1 (cl (L.take y.k)).length ((cl (L.take y.k)).map fun c=>[lqs c]).flatten y.s y.Hs) (fun y=>L.length-y.k)
  (fun y=>fm [(3,y.s),(7,sl (L.map se).flatten L.length),(8,lit (.int .i64 L.length)),(9,lit (.int .i64 y.k))]) (fun y=>y.Hs) ⟨0,lit (.slice none 0 0),[]⟩
  ⟨Nat.zero_le _,Own.nil _ _⟩ lfA (List.nil_sublist _) ?_
 rintro ⟨k,s,Hs⟩ ⟨hk,hown⟩ K hK
 simp only at hk hown⊢
 have hco:=hown.co
 by_cases hkl:k<L.length
 ·obtain⟨⟨q,i⟩,hget,hmm,hat,hne⟩:=elt Fz om hkl
  have hgo:=fun s' Hs' h F' H'=>hK F' H' ⟨k+1,s',Hs'⟩ ⟨by simp only;omega,h⟩ (by simp only;omega)
  simp only [BY hget]at hgo
  have hle:=jH (L.take k)
  rw [List.length_take]at hle
  generalize cl (L.take k)=D at *
  clear hK hget hmm
  cases i with
  |false =>
   simp only [Bool.false_eq_true,if_false]at hgo
   replace hgo:=hgo s Hs hown
   clear hown
   repeat(refine A1 ⟨?_⟩;intros)
   refine Wo (a6 (cs':=se (q,false)) rfl rfl om om hat hne) ?_
   repeat(refine A1 ⟨?_⟩;intros)
   exact hgo _ _ lfA (Sc Sr)
  |true =>
   simp only [if_true]at hgo
   repeat(refine A1 ⟨?_⟩;intros)
   refine Wo (a6 (cs':=se (q,true)) rfl rfl om om hat hne) ?_
   repeat(first|(refine Wo (ez (s:=lqs q) (ds:=[lqs q]) rfl inferInstance) ?_)|(refine Wdo (ez (s:=lqs q) (ds:=[lqs q]) rfl inferInstance) ?_)|(refine A1 ⟨?_⟩;intros))
   refine gU (ds:=[lqs q]) hown (Tk.skip _ (Tk.same _)) om (fun s' H1 hown'=>?_)
   replace hgo:=hgo s' H1 (GJ hown')
   have hco':=hown'.co
   clear hown hown'
   repeat(refine A1 ⟨?_⟩;intros)
   exact hgo _ _ lfA (Sc Sr)
 ·have hke:k=L.length:=by omega
  subst hke
  rw [List.take_length]at hown
  refine WP.rowS 3 hown rfl (by rw [List.append_nil]) ?_
  clear hK hown
  repeat(refine A1 ⟨?_⟩;intros)
  exact cA _ _ (ay (RV.tmp rfl) Lr) (List.nil_sublist _) rfl
def nW (l m:Li):Bool:=decide (gL l m=0)||decide (gL l m.neg=0)
def dC (l:Li):List Li→List Spn→List Spn
 | [],s=>s
 |m::r,s=>if nW l m then dC l r s else dC l r (gT 2 s ((bd (l,Spn.full) m).1.map Prod.snd))
def gd (a b:List Li):Bool:=a.any fun l=>(b.any fun m=>decide (gL l m.neg=0)) && !(dC l (a++b) [Spn.full]).isEmpty
theorem pw (b:List Spn):gT 2 [] b=[]:=by
 obtain⟨h1,h2⟩:=sc 2 [] b
 refine kV (E:=cJ ([]++b)) h1 ry fun t ht=>(h2 t ht).trans ⟨fun k=>?_,fun⟨u,hu,_⟩=>(by cases hu)⟩
 rw [uW,Bool.and_eq_true]at k
 have:=of_decide_eq_true k.1
 cases this
theorem kW (l:Li):∀r:List Li,dC l r []=[]
 | []=>rfl
 |m::r=>by
  unfold dC
  rw [pw]
  split <;> exact kW l r
theorem rN:bX Spn.full=false:=rfl
theorem qz {l m:Li}(hl:l.ok):(bd (l,Spn.full) m).1.map Prod.snd=(dO l Spn.full m).toList:=by
 rw [ic (f:=(l,Spn.full)) oP rN hl]
 cases dO l Spn.full m <;> rfl
theorem mq {l:Li}(hl:l.ok):∀(r:List Li) (s:Spn),SpG s→bX s=false→
  ((dC l r [s]=[]∧¬∃t,InS s t∧∀m∈r,nW l m=false→0<a7 m (atL l t))∨∃w,dC l r [s]=[w]∧∃t,InS s t∧∀m∈r,nW l m=false→0<a7 m (atL l t))
 | [],s,_,hb => .inr ⟨s,rfl,_,eE hb,fun m hm=>by cases hm⟩
 |m::r,s,hg,hb=>by
  unfold dC
  cases hc:nW l m with
  |true =>
   rw [if_pos rfl]
   have e:∀t,(∀x∈m::r,nW l x=false→0<a7 x (atL l t))↔∀x∈r,nW l x=false→0<a7 x (atL l t):=fun t=>by
    constructor
    ·exact fun h x hx=>h x (Mc hx)
    ·intro h x hx hcx
     rcases List.mem_cons.1 hx with e|e
     ·rw [e,hc]at hcx;cases hcx
     ·exact h x e hcx
   simp only [e]
   exact mq hl r s hg hb
  |false =>
   rw [if_neg (by decide),qz hl]
   have e:∀t,(InS s t∧∀x∈m::r,nW l x=false→0<a7 x (atL l t))↔(InS s t∧0<a7 m (atL l t))∧∀x∈r,nW l x=false→0<a7 x (atL l t):=fun t=>by
    constructor
    ·rintro ⟨h1,h2⟩
     exact⟨⟨h1,h2 m List.mem_cons_self hc⟩,fun x hx=>h2 x (Mc hx)⟩
    ·rintro ⟨⟨h1,h2⟩,h3⟩
     refine⟨h1,fun x hx hcx=>?_⟩
     rcases List.mem_cons.1 hx with e|e
     ·rw [e];exact h2
     ·exact h3 x e hcx
   simp only [e]
   cases hcut:dO l Spn.full m with
   |none =>
    rw [Option.toList_none,kw,kW]
    exact .inl ⟨rfl,fun⟨t,⟨h1,h2⟩,_⟩=>oU hcut t ⟨lO t,h2⟩⟩
   |some w =>
    obtain⟨wg,wb⟩:=Fp oP rN hcut
    have hw:∀t,InS w t↔0<a7 m (atL l t):=fun t=>by
     rw [dN hcut];exact⟨And.right,fun h=>⟨lO t,h⟩⟩
    rw [Option.toList_some,jN hg wg]
    cases hbad:bX (bI s w)with
    |true =>
     rw [if_pos rfl,kW]
     refine .inl ⟨rfl,fun⟨t,⟨h1,h2⟩,_⟩=>?_⟩
     rw [gG ((fM s w t).2 ⟨h1,(hw t).2 h2⟩)]at hbad;cases hbad
    |false =>
     rw [if_neg (by decide)]
     have e2:∀t,(InS s t∧0<a7 m (atL l t))↔InS (bI s w) t:=fun t=>by rw [fM,hw]
     simp only [e2]
     exact mq hl r (bI s w) (pU hg wg hbad) hbad
theorem zg {l m:Li}:nW l m=false↔m≠l∧m≠l.neg:=by
 unfold nW
 rw [Bool.or_eq_false_iff,decide_eq_false_iff_not,decide_eq_false_iff_not,dP,dP]
 constructor
 ·rintro ⟨h1,h2⟩
  exact⟨fun e=>h1 e.symm,fun e=>h2 (by rw [e,iB])⟩
 ·rintro ⟨h1,h2⟩
  exact⟨fun e=>h1 e.symm,fun e=>h2 (by rw [e,iB])⟩
theorem oH {a b:List Li}(ha:∀l∈a,l.ok):gd a b=true↔Shr a b:=by
 unfold gd Shr
 rw [List.any_eq_true]
 refine exists_congr fun l=>and_congr_right fun hl=>?_
 rw [Bool.and_eq_true,List.any_eq_true]
 have h1:(∃x∈b,decide (gL l x.neg=0)=true)↔l.neg∈b:=by
  constructor
  ·rintro ⟨x,hx,h⟩
   have e:=dP.1 (of_decide_eq_true h)
   rw [e,iB];exact hx
  ·intro h
   exact⟨l.neg,h,decide_eq_true (dP.2 (iB l).symm)⟩
 rw [h1]
 refine and_congr_right fun _=>?_
 have h2:∀t,(∀m∈a++b,nW l m=false→0<a7 m (atL l t))↔∀m,m∈a∨m∈b→m≠l→m≠l.neg→0<a7 m (atL l t):=fun t=>by
  constructor
  ·exact fun h m hm n1 n2=>h m (List.mem_append.2 hm) (zg.2 ⟨n1,n2⟩)
  ·exact fun h m hm hc=>h m (List.mem_append.1 hm) (zg.1 hc).1 (zg.1 hc).2
 rcases mq (ha l hl) (a++b) Spn.full oP rN with⟨e,hno⟩|⟨w,e,t,_,ht⟩
 ·rw [e]
  refine⟨fun h=>(by cases h),fun⟨t,ht⟩=>absurd ⟨t,lO t,(h2 t).2 ht⟩ hno⟩
 ·rw [e]
  exact⟨fun _=>⟨t,(h2 t).1 ht⟩,fun _=>rfl⟩
theorem wJ {c d:PC}(hc:da c) (hd:da d) (hdis:∀q,Inn (a8 c) q→¬Inn (a8 d) q){a b:List Li}(ha:∀l∈a,l.ok) (hsa:∀m,m∈a8 c↔m∈a) (hsb:∀m,m∈a8 d↔m∈b):ej c d=gd a b:=by
 rw [Bool.eq_iff_iff,B5 hc hd hdis,oH ha]
 unfold Shr
 simp only [hsa,hsb]
inductive F2 {α β:Type}(R:α→β→Prop):List α→List β→Prop
 |nil:F2 R [] []
 |cons {a:α}{b:β}{l:List α}{m:List β}(h:R a b) (k:F2 R l m):F2 R (a::l) (b::m)
theorem F2.app {α β:Type}{R:α→β→Prop}{l m:List α}{l' m':List β}(h:F2 R l l') (k:F2 R m m'):F2 R (l++m) (l'++m'):=by
 induction h with
 |nil=>exact k
 |cons h _ ih=>exact .cons h ih
theorem F2.len {α β:Type}{R:α→β→Prop}{l:List α}{l':List β}(h:F2 R l l'):l.length=l'.length:=by
 induction h with
 |nil=>rfl
 |cons _ _ ih=>rw [List.length_cons,List.length_cons,ih]
theorem F2.get {α β:Type}{R:α→β→Prop}{l:List α}{l':List β}(h:F2 R l l'):∀{k:Nat}{a:α},l[k]? = some a→∃b,l'[k]? = some b∧R a b:=by
 induction h with
 |nil=>intro k a h;simp at h
 |cons h _ ih =>
  intro k a hk
  cases k with
  |zero=>simp only [List.getElem?_cons_zero,Option.some.injEq]at hk⊢;exact⟨_,rfl,hk▸h⟩
  |succ k=>simp only [List.getElem?_cons_succ]at hk⊢;exact ih hk
def lvs:Tr→List Bool
 | .leaf i=>[i]
 | .node _ a b=>lvs a++lvs b
theorem pV:∀t:Tr,(lvs t).length=aj t
 | .leaf _=>rfl
 | .node _ a b=>by unfold lvs aj;rw [List.length_append,pV a,pV b]
theorem pW:∀t:Tr,jG t=(lvs t).countP id
 | .leaf i=>by cases i <;> rfl
 | .node _ a b=>by unfold lvs jG;rw [List.countP_append,pW a,pW b]
structure CR (x:PC×Bool) (y:List Li×Bool):Prop where
 f:x.2=y.2
 p:da x.1
 m:∀m,m∈a8 x.1↔m∈y.1
 ok:∀l∈y.1,l.ok
theorem xC {d:List Li}(hd:∀l∈d,l.ok) (hn:∃q,Inn d q):d=[]∨aZ d≠[]:=by
 cases d with
 |nil=>exact .inl rfl
 |cons l d =>
  refine .inr fun e=>?_
  obtain⟨q,_,hq⟩:=(En (hd l Ms)).2
  have h:=(iK hd hn q).1 (by rw [e];exact fun l h=>by cases h)
  have:=h l Ms
  grind
theorem par:∀(t:Tr) (c:PC) (d:List Li),da c→(∀l∈d,l.ok)→(∀q,Inn (a8 c) q↔Inn d q)→t.lok→Prp t (Inn (a8 c))→
  F2 CR (ar t c) (aG t d)∧(ar t c).map Prod.snd=lvs t
 | .leaf i,c,d,hc,hd,he,_,_=>by
  have hn:∃q,Inn d q:=by obtain⟨q,hq⟩:=hc.inn;exact⟨q,(he q).1 hq⟩
  unfold ar aG
  rw [if_pos (xC hd hn)]
  have hok:∀l∈aZ d,l.ok:=fun l hl=>hd l ((fx hd).1 hl).1
  exact⟨.cons ⟨rfl,hc,xV hc hok (fun l hl=>zk hd hl) (fun q=>(he q).trans (iK hd hn q).symm),hok⟩ .nil,rfl⟩
 | .node l a b,c,d,hc,hd,he,hl,hp=>by
  have hn:∃q,Inn d q:=by obtain⟨q,hq⟩:=hc.inn;exact⟨q,(he q).1 hq⟩
  have hok:∀l∈aZ d,l.ok:=fun l hl=>hd l ((fx hd).1 hl).1
  obtain⟨hl0,hla,hlb⟩:=hl
  obtain⟨p1,p2,p3,p4⟩:=hp
  have q2:Lft (Inn (a8 c)) l.neg:=by
   obtain⟨q,h1,h2⟩:=p2
   exact⟨q,h1,by rw [fy];grind⟩
  have k1:=(eM hc hl0 (aF l)).2 p1
  have k2:=(eM hc (Li.ok.neg hl0) (aF l.neg)).2 q2
  obtain⟨g1,g2⟩:=iJ hc hl0 (aF l) (d:=(aK (aF l) c l).1) (by rw [←k1])
  obtain⟨g3,g4⟩:=iJ hc (Li.ok.neg hl0) (aF l.neg) (d:=(aK (aF l.neg) c l.neg).1) (by rw [←k2])
  have g5:Inn (a8 (aK (aF l.neg) c l.neg).1)=fun q=>Inn (a8 c) q∧a7 l q<0:=by
   rw [g4];funext q;rw [fy]
   exact propext ⟨fun h=>⟨h.1,by have:=h.2;grind⟩,fun h=>⟨h.1,by have:=h.2;grind⟩⟩
  unfold ar aG
  rw [if_pos (xC hd hn),if_pos k1,if_pos k2]
  obtain⟨i1,j1⟩:=par a (aK (aF l) c l).1 (aZ d++[l]) g1 (gW hok hl0) (fun q=>by rw [g2,el,iK hd hn];exact⟨fun h=>⟨(he q).1 h.1,h.2⟩,fun h=>⟨(he q).2 h.1,h.2⟩⟩) hla (by rw [g2];exact p3)
  obtain⟨i2,j2⟩:=par b (aK (aF l.neg) c l.neg).1 (aZ d++[l.neg]) g3 (gW hok (Li.ok.neg hl0)) (fun q=>by rw [g4,el,iK hd hn];exact⟨fun h=>⟨(he q).1 h.1,h.2⟩,fun h=>⟨(he q).2 h.1,h.2⟩⟩) hlb (by rw [g5];exact p4)
  refine⟨i1.app i2,?_⟩
  rw [List.map_append,j1,j2];rfl
end Go.Ab
