/- Texts laid one behind the other: GwK, TmC, Nbr, TqA. -/
import Derived.Test.YtnhepimaijhhaaaGreatDoorB32
import Derived.Test.YtnhepimaijhhaaaGreatDoorB30
set_option linter.all false
set_option maxHeartbeats 16000000
namespace Go.Ab
open Go.Proofs
variable [Base]
theorem qN (rs:List (List Pq)) (hl:rs.length≤1000) (hh:∀r∈rs,eL r):Pu Tryz.prog 24 [s8 rs] (zu rs):=by
 refine Pi Tryz.func24 fun C=>?_
 repeat(refine A1 ⟨?_⟩;intros)
 refine WP.loopS (ι:=pf) (fun y=>y.k≤rs.length∧Own 116 1 y.k ((rs.take y.k).map fun r=>[aps r]).flatten y.s y.Hs) (fun y=>rs.length-y.k)
  (fun y=>fm [(3,y.s),(6,s8 rs),(7,lit (.int .i64 rs.length)),(8,lit (.int .i64 y.k))]) (fun y=>y.Hs) ⟨0,lit (.slice none 0 0),[]⟩
  ⟨Nat.zero_le _,Own.nil _ _⟩ lfA (List.nil_sublist _) ?_
 rintro ⟨k,s,Hs⟩ ⟨hk,hown⟩ K hK;simp only at hk hown⊢;have hco:=hown.co;by_cases hkl:k<rs.length
 ·obtain⟨r,hget,hmm,hat,hne⟩:=elt (f:=fun r=>[rps r]) (n:=1) (fun _=>rfl) om hkl;have hr:=hh r hmm;have c:=HU r (by have:=hr.1;omega) (fun p hp=>by have:=hr.ht p hp;omega);have hgo:=fun s' Hs' h F' H'=>hK F' H' ⟨k+1,s',Hs'⟩ ⟨by simp only;omega,h⟩ (by simp only;omega)
  simp only [eI hget]at hgo;clear hK hh hget hmm hr;repeat(refine A1 ⟨?_⟩;intros)
  refine Wo (a7 (cs':=[rps r]) rfl rfl om om hat hne) ?_;repeat(first|(refine Wo (eS (s:=aps r) (ds:=[aps r]) rfl inferInstance) ?_)|(refine Wdo (eS (s:=aps r) (ds:=[aps r]) rfl inferInstance) ?_)|(refine A1 ⟨?_⟩;intros)|refine W4 c ⟨?_⟩)
  refine iG (ds:=[aps r]) hown (Tk.same _) om (fun s' H1 hown'=>?_);have hco':=hown'.co;replace hgo:=hgo s' H1 hown';clear hown hown';repeat(refine A1 ⟨?_⟩;intros)
  exact hgo _ _ lfA Sr
 ·have hke:k=rs.length:=by omega
  subst hke;rw [List.take_length]at hown;refine WP.rowS 3 hown rfl (by rw [List.append_nil]) ?_;clear hK hown;exact Z1
theorem HE (l:List Pq):aps l=KF (l.map fun p=>(RQ.of p.1,RQ.of p.2)):=by
 show sl _ _=sl ((l.map fun p=>(RQ.of p.1,RQ.of p.2)).map pH).flatten (l.map fun p=>(RQ.of p.1,RQ.of p.2)).length
 rw [List.map_map,List.length_map];rfl
theorem Ih {l:List Pq}(h:eL l):Pu Tryz.prog 50 [aps l] (rps l):=by
 have c:=KK (l.map fun p=>(RQ.of p.1,RQ.of p.2)) (L:=1) (by have:=h.1;rw [List.length_map];omega) (fun q hq=>by
  obtain⟨p,hp,rfl⟩:=List.mem_map.1 hq;obtain⟨h1,h2⟩:=h.ht p hp;exact⟨RQ.of_ok h1,RQ.of_ok h2⟩) om
 rw [←HE,List.map_map,show(rvl∘fun p:Pq=>(RQ.of p.1,RQ.of p.2))=id from funext fun p=>by simp [rvl,RQ.of_v],List.map_id]at c;exact c
theorem qR (x y:Nat×TypeId×List SV) (A B:LH):(x::y::(A++B)).Perm (A++(x::y::B)):=by
 have:=(List.perm_append_comm (l₁:=[x,y]) (l₂:=A)).append_right B;simpa using this
theorem Bq (x y:Nat×TypeId×List SV) (A B:LH):(x::y::(A++B)).Perm (B++(x::y::A)):=List.perm_append_comm (l₁:=x::y::A) (l₂:=B)
structure Mm where
 k:Nat
 s1:SV
 H1:LH
 s2:SV
 H2:LH
def fy (rs:List (List Pq)):List Li:=((rs.map dS).flatten).map Prod.fst
theorem Dg {rs:List (List Pq)}{k:Nat}{r:List Pq}(h:rs[k]? = some r):fy (rs.take (k+1))=fy (rs.take k)++(dS r).map Prod.fst:=by
 unfold fy;rw [bV h,List.map_append,List.flatten_append,List.map_append];simp
theorem ig:∀(rs:List (List Pq)),(∀r∈rs,eL r)→(fy rs).length≤6*rs.length
 | [],_=>by simp [fy]
 |r::rs,h=>by
  have h1:=ig rs (fun r hr=>h r (Mc hr));have h2:=(h r Ms).1;have h3:=oV r;unfold fy at *;simp only [List.map_cons,List.flatten_cons,List.map_append,List.length_append,List.length_map,List.length_cons]at *;omega
theorem r9 {rs:List (List Pq)}(h:∀r∈rs,eL r):∀l∈fy rs,l.sm:=fun l hl=>by
 obtain⟨f,hf,rfl⟩:=List.mem_map.1 hl;obtain⟨e,he,hfe⟩:=List.mem_flatten.1 hf;obtain⟨r,hr,rfl⟩:=List.mem_map.1 he;exact(rk (h r hr) f hfe).1
abbrev RT:TypeId:=65
abbrev psT:TypeId:=59
theorem B9 {rs:List (List Pq)}(fill:Int) (h0:rs≠[]) (hl:rs.length≤1000) (hh:∀r∈rs,eL r):Pu Tryz.prog 23 [zu rs,lit (.int .i64 fill)] (rgR rs fill (nE (fy rs))):=by
 have hpos:=List.length_pos_iff.2 h0;have hll:=ig rs hh;have hsm:=r9 hh;have cd:=w8 (fy rs) om (fun m hm=>(hsm m hm).ile);refine Pi Tryz.func23 fun C=>?_
 repeat(refine A1 ⟨?_⟩;intros)
 rename_i b4 b5
 refine WP.loopS (ι:=Mm) (fun y=>y.k≤rs.length∧Own psT 1 y.k ((rs.take y.k).map fun r=>[rps r]).flatten y.s1 y.H1∧Own lT 6 (fy (rs.take y.k)).length ((fy (rs.take y.k)).map lqx).flatten y.s2 y.H2) (fun y=>rs.length-y.k)
  (fun y=>fm [(4,lit (.pointer (some ⟨b4,0,none⟩))),(5,lit (.pointer (some ⟨b5,0,none⟩))),(6,y.s2),(14,zu rs),(15,lit (.int .i64 rs.length)),(16,lit (.int .i64 y.k))])
  (fun y=>(b5,RT,[y.s1,lit (.int .i64 fill),lit (.slice none 0 0)])::(b4,RT,[lit (.slice none 0 0),lit (.int .i64 0),lit (.slice none 0 0)])::(y.H1++y.H2)) ⟨0,lit (.slice none 0 0),[],lit (.slice none 0 0),[]⟩
  ⟨Nat.zero_le _,Own.nil _ _,Own.nil _ _⟩ lfA Sr ?_
 rintro ⟨k,s1,H1,s2,H2⟩ ⟨hk,hown1,hown2⟩ K hK;simp only at hk hown1 hown2⊢;have hco1:=hown1.co;have hco2:=hown2.co;by_cases hkl:k<rs.length
 ·obtain⟨r,hget,hmm,hat,hne⟩:=elt (f:=fun r=>[aps r]) (n:=1) (fun _=>rfl) om hkl;have hr:=hh r hmm;have c1:=Ih hr;have c2:=uG hr;have hel:=oV r;have h6:=hr.1
  have hlk:(fy (rs.take k)).length≤6000:=by
   have:=ig (rs.take k) (fun r hr=>hh r (List.mem_of_mem_take hr));rw [List.length_take]at this;omega
  have hgo:=fun s1' H1' (h1:Own psT 1 (k+1) ((rs.take (k+1)).map fun r=>[rps r]).flatten s1' H1') s2' H2' (h2:Own lT 6 (fy (rs.take (k+1))).length ((fy (rs.take (k+1))).map lqx).flatten s2' H2') F' H'=>hK F' H' ⟨k+1,s1',H1',s2',H2'⟩ ⟨(by simp only;omega),h1,h2⟩ (by simp only;omega)
  simp only [eI hget,Dg hget]at hgo;generalize fy (rs.take k)=ls at *;generalize dS r=es at *;clear hK hh hget hmm hr cd hsm hll;repeat(refine A1 ⟨?_⟩;intros)
  refine Wo (a7 (cs':=[aps r]) rfl rfl om om hat hne) ?_;repeat(first|(refine Wo (eS (s:=rps r) (ds:=[rps r]) rfl inferInstance) ?_)|(refine Wdo (eS (s:=rps r) (ds:=[rps r]) rfl inferInstance) ?_)|(refine A1 ⟨?_⟩;intros)|refine W4 c1 ⟨?_⟩)
  refine xj (ds:=[rps r]) hown1 (qR _ _ _ _) om (fun s1' H1' hown1'=>?_);have hco1':=hown1'.co;replace hgo:=hgo s1' H1' hown1';clear hown1 hown1';refine WPL.perm (qR _ _ _ _).symm ?_;repeat(refine A1 ⟨?_⟩;intros)
  refine WPL.store (b:=b5) (o:=0) (sv:=s1') (cs':=[s1',lit (.int .i64 fill),lit (.slice none 0 0)]) rfl rfl rfl (.here _) rfl rfl ?_;repeat(first|(refine A1 ⟨?_⟩;intros)|refine W4 c2 ⟨?_⟩)
  refine WP.loopS (ι:=pf) (fun y=>y.k≤es.length∧Own lT 6 (ls++(es.take y.k).map Prod.fst).length ((ls++(es.take y.k).map Prod.fst).map lqx).flatten y.s y.Hs) (fun y=>es.length-y.k)
   (fun y=>fm [(4,lit (.pointer (some ⟨b4,0,none⟩))),(5,lit (.pointer (some ⟨b5,0,none⟩))),(6,y.s),(14,zu rs),(15,lit (.int .i64 rs.length)),(16,lit (.int .i64 k)),(29,fqs es),(30,lit (.int .i64 es.length)),(31,lit (.int .i64 y.k))])
   (fun y=>(b5,RT,[s1',lit (.int .i64 fill),lit (.slice none 0 0)])::(b4,RT,[lit (.slice none 0 0),lit (.int .i64 0),lit (.slice none 0 0)])::(H1'++y.Hs)) ⟨0,s2,H2⟩
   ⟨Nat.zero_le _,by simpa using hown2⟩ lfA Sr ?_
  rintro ⟨j,s3,H3⟩ ⟨hj,hown3⟩ K2 hK2;simp only at hj hown3⊢;have hco3:=hown3.co;clear hown2;by_cases hjl:j<es.length
  ·obtain⟨e,hget2,hmm2,hat2,hne2⟩:=elt jr om hjl
   have hlen:(ls++(es.take (j+1)).map Prod.fst).length=(ls++(es.take j).map Prod.fst).length+1:=by
    rw [bV hget2];simp;omega
   have hcel:((ls++(es.take (j+1)).map Prod.fst).map lqx).flatten=((ls++(es.take j).map Prod.fst).map lqx).flatten++lqx e.1:=by
    rw [bV hget2,List.map_append,List.map_append,List.flatten_append,List.map_append,List.flatten_append,List.map_append,List.flatten_append,List.append_assoc];simp
   have hlb:(ls++(es.take j).map Prod.fst).length≤7000:=by rw [List.length_append,List.length_map,List.length_take];omega
   have hgo2:=fun s' Hs' h F' H'=>hK2 F' H' ⟨j+1,s',Hs'⟩ ⟨by simp only;omega,h⟩ (by simp only;omega)
   simp only [hlen,hcel]at hgo2;clear hK2 hgo hlen hcel hget2 hmm2 c1 c2;generalize(ls++(es.take j).map Prod.fst).length=nn at *;generalize((ls++(es.take j).map Prod.fst).map lqx).flatten=cc at *;repeat(refine A1 ⟨?_⟩;intros)
   refine Wo (a7 (cs':=fqx e) rfl rfl om om hat2 hne2) ?_;repeat(refine A1 ⟨?_⟩;intros)
   rename_i b11;refine WPL.store (b:=b11) (o:=0) (sv:=ag (fqx e)) (cs':=fqx e) rfl rfl rfl (.here _) rfl rfl ?_;repeat(first|(refine Wo (aE (lqx e.1) rfl) ?_)|(refine Wdo (aE (lqx e.1) rfl) ?_)|(refine A1 ⟨?_⟩;intros))
   refine xj (ds:=lqx e.1) hown3 (List.perm_append_comm (l₁:=_::_::_::H1') (l₂:=H3)) om (fun s' H1 hown'=>?_);have hco':=hown'.co;replace hgo2:=hgo2 s' H1 hown';clear hown3 hown';refine WPL.perm List.perm_append_comm ?_;simp only [List.cons_append];repeat(refine A1 ⟨?_⟩;intros)
   exact hgo2 _ _ lfA (Sc Sr)
  ·have hje:j=es.length:=by omega
   subst hje;rw [List.take_length]at hown3;replace hgo:=hgo s3 H3 hown3;clear hK2 hown3;repeat(refine A1 ⟨?_⟩;intros)
   exact hgo _ _ lfA Sr
 ·have hke:k=rs.length:=by omega
  subst hke;rw [List.take_length]at hown1 hown2;obtain⟨b1,q1,hc1,hm1,rfl,rfl⟩:=hown1.blk hpos;refine WP.rowS 6 hown2 rfl (R:=(b5,RT,[lit (.slice (some ⟨b1,0,none⟩) rs.length q1),lit (.int .i64 fill),lit (.slice none 0 0)])::(b4,RT,[lit (.slice none 0 0),lit (.int .i64 0),lit (.slice none 0 0)])::[(b1,psT,(rs.map fun r=>[rps r]).flatten++List.replicate (q1*1-rs.length*1) top)]) (List.perm_append_comm (l₁:=_::_::[_]) (l₂:=H2)) ?_;clear hK hown1 hown2 hsm hh hll;repeat(refine A1 ⟨?_⟩;intros)
  refine WPL.pubC (c1:=[]) (c2:=[lit (.int .i64 fill),lit (.slice none 0 0)]) (s':=s8 rs) (.there _ (.there _ (.here _))) (.here _) (fun m arr hm ha=>w9 hm ha hc1 hm1) ?_;simp only [List.nil_append];exact X1 cd
theorem xz {l:List Fg}{k:Nat}{f:Fg}{m:Li}(h:l[k]? = some f):(aP (l.take (k+1)) m).1=(aP (l.take k) m).1++(bh f m).1∧(aP (l.take (k+1)) m).2=(aP (l.take k) m).2++(bh f m).2:=by
 unfold aP;simp only;rw [bV h];simp [List.map_append,List.flatten_append]
theorem mT {L:List Li}{m:Li}:∀{l:List Fg},(∀f∈l,FgG L f)→(aP l m).1.length≤l.length∧(aP l m).2.length≤l.length
 | [],_=>⟨Nat.le_refl _,Nat.le_refl _⟩
 |f::l,h=>by
  obtain⟨h1,h2⟩:=mT (m:=m) fun g hg=>h g (Mc hg)
  obtain⟨h3,h4⟩:=pz (m:=m) (h f Ms);unfold aP at *;simp only [List.map_cons,List.flatten_cons,List.length_append,List.length_cons]at *;omega
structure FgW (L:List Li) (f:Fg):Prop where
 g:FgG L f
 l:f.1.sm
 s:f.2.le 46
theorem Et {L:List Li}{m:Li}(hm:m.sm){l:List Fg}(hl:∀f∈l,FgW L f):(∀g∈(aP l m).1,FgW L g)∧∀g∈(aP l m).2,FgW L g:=by
 have key:∀f∈l,(∀g∈(bh f m).1,FgW L g)∧∀g∈(bh f m).2,FgW L g:=fun f hf=>by
  obtain⟨h1,h2,h3⟩:=hl f hf;obtain⟨g1,g2⟩:=o5 (m:=m) h1;obtain⟨k1,k2⟩:=um h1 h2 hm h3;exact⟨fun g hg=>⟨(g1 g hg).1,by rw [(g1 g hg).2];exact h2,k1 g hg⟩,fun g hg=>⟨(g2 g hg).1,by rw [(g2 g hg).2];exact h2,k2 g hg⟩⟩
 unfold aP;constructor
 ·intro g hg;obtain⟨a,ha,hga⟩:=List.mem_flatten.1 hg;obtain⟨f,hf,rfl⟩:=List.mem_map.1 ha;exact(key f hf).1 g hga
 ·intro g hg;obtain⟨a,ha,hga⟩:=List.mem_flatten.1 hg;obtain⟨f,hf,rfl⟩:=List.mem_map.1 ha;exact(key f hf).2 g hga
theorem AF (a b:List Fg):((a++b).map fqx).flatten=(a.map fqx).flatten++(b.map fqx).flatten:=by rw [List.map_append,List.flatten_append]
abbrev ptR:TypeId:=23
theorem w4 {rs:List (List Pq)}{fill:Int}{ls:List Li}(hf:fill=1∨fill=2) (hrl:rs.length≤1000) (hrs:∀r∈rs,eL r){L:List Li}:∀(n:Nat) (l:List Fg) (c:List Li),(∀f∈l,FgW L f)→ga L l<n→(∀m∈c,m.sm)→c.length+n≤80000→l.length≤1000→
  Pu Tryz.prog 49 [rgR rs fill ls,fqs l,lqs c] (rt (jX (inR rs fill) n l c))
 |0,_,_,_,h,_,_,_=>by omega
 |n+1,[],c,_,_,hc,hd,_=>by
  have d1:=pD hc om;have h9:=Dq hc;have d2:=Ib (ls:=ls) (p:=(cI c).getD (0,0)) hf hrl hrs ⟨by have:=h9.1;omega,by have:=h9.2;omega⟩;have d3:=cP (inR rs fill ((cI c).getD (0,0)));unfold jX;clear hc h9 hrs hf;generalize inR rs fill ((cI c).getD (0,0))=bb at *;generalize(cI c).getD (0,0)=p at *;refine Pi Tryz.func49 fun C=>?_
  exact Y3 d1 d2 d3
 |n+1,f::l,c,hl,hphi,hc,hd,hlen=>by
  have hfw:=hl f Ms;have hsm:=hfw.l;have hphi2:=qk fun g hg=>(hl g hg).g
  obtain⟨w1,w2⟩:=Et hsm hl;obtain⟨n1,n2⟩:=mT (m:=f.1) fun g hg=>(hl g hg).g
  have i1:=w4 (ls:=ls) hf hrl hrs n (aP (f::l) f.1).1 (c++[f.1]) w1 om (gT hc hsm) (by rw [List.length_append,List.length_singleton];omega) om;have i2:=w4 (ls:=ls) hf hrl hrs n (aP (f::l) f.1).2 (c++[f.1.neg]) w2 om (gT hc hsm.neg) (by rw [List.length_append,List.length_singleton];omega) om
  have hsl:∀m:Li,lqs (c++[m])=sl ((c.map lqx).flatten++lqx m) (c.length+1):=fun m=>by
   show sl ((c++[m]).map lqx).flatten (c++[m]).length=_
   rw [mc,List.length_append,List.length_singleton]
  rw [hsl]at i1 i2;have hfl:=iW c;have d3:=jk f.1 hsm.ile;have ds:∀g∈f::l,Pu Tryz.prog 73 [ag (fqx g),lq f.1] (Ab.tup [fqs (bh g f.1).1,fqs (bh g f.1).2])∧(bh g f.1).1.length≤1∧(bh g f.1).2.length≤1:=fun g hg=>⟨uw (hl g hg).g (hl g hg).l hsm (hl g hg).s,pz (hl g hg).g⟩
  have hb1:∀k,(aP ((f::l).take k) f.1).1.length≤1000∧(aP ((f::l).take k) f.1).2.length≤1000:=fun k=>by
   obtain⟨q1,q2⟩:=mT (l:=(f::l).take k) (m:=f.1) fun g hg=>(hl g (List.mem_of_mem_take hg)).g
   rw [List.length_take]at q1 q2;omega
  show Pu _ _ _ (rt (.node f.1 (jX (inR rs fill) n (aP (f::l) f.1).1 (c++[f.1])) (jX (inR rs fill) n (aP (f::l) f.1).2 (c++[f.1.neg]))))
  generalize jX (inR rs fill) n (aP (f::l) f.1).1 (c++[f.1])=tA at *;generalize jX (inR rs fill) n (aP (f::l) f.1).2 (c++[f.1.neg])=tB at *;have hat0:=e6 (f:=fqx) (n:=14) (l:=f::l) (k:=0) jr rfl;have hne0:((f::l).map fqx).flatten≠[]:=dZ jr om (by simp);have hgl:f∈f::l:=Ms;have hpl:0<(f::l).length:=by simp
  clear hl hphi hphi2 w1 w2 hsl hf hrs hfw;obtain⟨m,hm⟩:∃m,m=f.1:=⟨_,rfl⟩
  rw [←hm]at i1 i2 d3 ds hb1 n1 n2⊢;have hfq:fqx f=lqx m++spx f.2:=by rw [hm]
  rw [hfq]at hat0;generalize hxs:f::l=xs at *;clear hxs hm hfq hgl;refine Pi Tryz.func49 fun C=>?_
  repeat(first|(refine Wo (aB (sv:=ag _) rfl) ?_)|(refine Wdo (aB (sv:=ag _) rfl) ?_)|(refine A1 ⟨?_⟩;intros))
  refine Wo (a7 (cs':=lqx m++spx f.2) rfl rfl om om hat0 hne0) ?_;repeat(refine A1 ⟨?_⟩;intros)
  rename_i b9;refine WPL.store (b:=b9) (o:=0) (sv:=ag (lqx m)) (cs':=lqx m) rfl rfl rfl (.here _) rfl rfl ?_;repeat(refine A1 ⟨?_⟩;intros)
  refine WP.loopS (ι:=Mm) (fun y=>y.k≤xs.length∧Own fT 14 (aP (xs.take y.k) m).1.length ((aP (xs.take y.k) m).1.map fqx).flatten y.s1 y.H1∧Own fT 14 (aP (xs.take y.k) m).2.length ((aP (xs.take y.k) m).2.map fqx).flatten y.s2 y.H2) (fun y=>xs.length-y.k)
   (fun y=>fm [(2,lqs c),(3,pt [s8 rs,lit (.int .i64 fill),lqs ls]),(9,lit (.pointer (some ⟨b9,0,none⟩))),(10,y.s1),(11,y.s2),(32,fqs xs),(33,lit (.int .i64 xs.length)),(34,lit (.int .i64 y.k))])
   (fun y=>(b9,lT,lqx m)::(y.H1++y.H2)) ⟨0,lit (.slice none 0 0),[],lit (.slice none 0 0),[]⟩
   ⟨Nat.zero_le _,Own.nil _ _,Own.nil _ _⟩ lfA Sr ?_
  rintro ⟨k,s1,H1,s2,H2⟩ ⟨hk,hown1,hown2⟩ K hK;simp only at hk hown1 hown2⊢;have hco1:=hown1.co;have hco2:=hown2.co;by_cases hkl:k<xs.length
  ·obtain⟨g,hget,hmm,hat,hne⟩:=elt jr om hkl;obtain⟨dg,g1,g2⟩:=ds g hmm;obtain⟨r1,r2⟩:=hb1 k;obtain⟨e1,e2⟩:=xz (m:=m) hget;have hgo:=fun s1' H1' (h1:Own fT 14 (aP (xs.take (k+1)) m).1.length ((aP (xs.take (k+1)) m).1.map fqx).flatten s1' H1') s2' H2' (h2:Own fT 14 (aP (xs.take (k+1)) m).2.length ((aP (xs.take (k+1)) m).2.map fqx).flatten s2' H2') F' H'=>hK F' H' ⟨k+1,s1',H1',s2',H2'⟩ ⟨(by simp only;omega),h1,h2⟩ (by simp only;omega)
   rw [e1,e2,AF,AF,List.length_append,List.length_append]at hgo;have f1:(((bh g m).1.map fqx).flatten).length=(bh g m).1.length*14:=cT jr _;have f2:(((bh g m).2.map fqx).flatten).length=(bh g m).2.length*14:=cT jr _;clear hK hget hmm i1 i2 d3 ds hb1 hfl hat0 hne0 e1 e2;generalize(bh g m).1=A at *;generalize(bh g m).2=B at *;generalize(aP (xs.take k) m).1.length=m1 at *;generalize(aP (xs.take k) m).2.length=m2 at *;generalize((aP (xs.take k) m).1.map fqx).flatten=q1 at *;generalize((aP (xs.take k) m).2.map fqx).flatten=q2 at *;repeat(refine A1 ⟨?_⟩;intros)
   refine Wo (a7 (cs':=fqx g) rfl rfl om om hat hne) ?_;repeat(refine A1 ⟨?_⟩;intros)
   rename_i b13;refine WPL.store (b:=b13) (o:=0) (sv:=ag (fqx g)) (cs':=fqx g) rfl rfl rfl (.here _) rfl rfl ?_;repeat(first|(refine A1 ⟨?_⟩;intros)|refine W4 dg ⟨?_⟩)
   refine tU (k0:=A.length) (ds:=(A.map fqx).flatten) hown1 (qR _ _ _ _) om f1 (fun s1' H1' hown1'=>?_);have hco1':=hown1'.co;replace hgo:=hgo s1' H1' hown1';clear hown1 hown1';refine WPL.perm (qR _ _ _ _).symm ?_;repeat(refine A1 ⟨?_⟩;intros)
   refine tU (k0:=B.length) (ds:=(B.map fqx).flatten) hown2 (Bq _ _ _ _) om f2 (fun s2' H2' hown2'=>?_);have hco2':=hown2'.co;replace hgo:=hgo s2' H2' hown2';clear hown2 hown2';refine WPL.perm (Bq _ _ _ _).symm ?_;repeat(refine A1 ⟨?_⟩;intros)
   exact hgo _ _ lfA (Sc Sr)
  ·have hke:k=xs.length:=by omega
   subst hke;rw [List.take_length]at hown1 hown2;refine WP.rowS 11 hown2 rfl (R:=(b9,lT,lqx m)::H1) (List.perm_append_comm (l₁:=_::H1) (l₂:=H2)) ?_;refine WP.rowS 10 hown1 rfl (R:=[(b9,lT,lqx m)]) (List.perm_append_comm (l₁:=[_]) (l₂:=H1)) ?_;clear hK hown1 hown2 ds hb1 hat0 hne0;generalize(aP xs m).1=A at *;generalize(aP xs m).2=B at *;rw [show rt (.node m tA tB)=pt (rc (.node m tA tB))from rfl,eN];by_cases h0:c=[]
   ·subst h0;clear hfl hc;repeat(first|(refine AS ⟨?_⟩;intros)|(refine O1 ⟨?_⟩;intros))
    repeat(first|(refine Wo (jn) ?_)|(refine Wdo (jn) ?_)|(refine Wo (fw rfl rfl) ?_)|(refine Wdo (fw rfl rfl) ?_)|(refine Wo (aX (r:=[(0,lqx m)]) (cs:=lqx m) (.cons (sv:=ag (lqx m)) rfl inferInstance .nil)) ?_)|(refine Wdo (aX (r:=[(0,lqx m)]) (cs:=lqx m) (.cons (sv:=ag (lqx m)) rfl inferInstance .nil)) ?_)|(refine Wo (aX (r:=[(0,lqx m.neg)]) (cs:=lqx m.neg) (.cons (sv:=ag (lqx m.neg)) rfl inferInstance .nil)) ?_)|(refine Wdo (aX (r:=[(0,lqx m.neg)]) (cs:=lqx m.neg) (.cons (sv:=ag (lqx m.neg)) rfl inferInstance .nil)) ?_)|(refine Wo (az (k:=0) (k0:=1) (ds:=lqx m) rfl rfl rfl rfl om) ?_)|(refine Wdo (az (k:=0) (k0:=1) (ds:=lqx m) rfl rfl rfl rfl om) ?_)|(refine Wo (az (k:=0) (k0:=1) (ds:=lqx m.neg) rfl rfl rfl rfl om) ?_)|(refine Wdo (az (k:=0) (k0:=1) (ds:=lqx m.neg) rfl rfl rfl rfl om) ?_)|(refine Wo (aB (sv:=ag _) rfl) ?_)|(refine Wdo (aB (sv:=ag _) rfl) ?_)|(refine A1 ⟨?_⟩;intros)|refine W4 i1 ⟨?_⟩|refine W4 i2 ⟨?_⟩|refine W4 d3 ⟨?_⟩)
    exact E1
   ·have hpos:=List.length_pos_iff.2 h0;clear hc h0;repeat(first|(refine AS ⟨?_⟩;intros)|(refine O1 ⟨?_⟩;intros))
    refine WdZ 22 [0,1,2,3,4,6,7,10,11,12,13,15,5,8,9,14,16,17,18,19,20,21] [5,8,14,18] [] [(b9,lT,lqx m)] ?_;refine ZkD 12 ?_;repeat(first|(refine Wo (gX) ?_)|(refine Wdo (gX) ?_)|(refine Wo (aX (r:=[(0,lqx m)]) (cs:=lqx m) (.cons (sv:=ag (lqx m)) rfl inferInstance .nil)) ?_)|(refine Wdo (aX (r:=[(0,lqx m)]) (cs:=lqx m) (.cons (sv:=ag (lqx m)) rfl inferInstance .nil)) ?_)|(refine A1 ⟨?_⟩;intros))
    refine jh ?_;refine ZkE rfl rfl hfl om om (fun s' H' hown=>?_) (hyx:=fun h=>by cases h);refine ZkP hown om ?_;refine ZkD 1 ?_;repeat(first|(refine A1 ⟨?_⟩;intros)|refine W4 i1 ⟨?_⟩)
    refine jh ?_;refine ZkE rfl rfl hfl om om (fun s' H' hown=>?_) (hyx:=fun h=>by cases h);refine ZkD 2 ?_;repeat(first|(refine Wo (aX (r:=[(0,lqx m.neg)]) (cs:=lqx m.neg) (.cons (sv:=ag (lqx m.neg)) rfl inferInstance .nil)) ?_)|(refine Wdo (aX (r:=[(0,lqx m.neg)]) (cs:=lqx m.neg) (.cons (sv:=ag (lqx m.neg)) rfl inferInstance .nil)) ?_)|(refine A1 ⟨?_⟩;intros)|refine W4 d3 ⟨?_⟩)
    refine jh ?_;refine ZkP hown om ?_;refine ZkD 3 ?_;repeat(first|(refine Wo (aB (sv:=ag _) rfl) ?_)|(refine Wdo (aB (sv:=ag _) rfl) ?_)|(refine A1 ⟨?_⟩;intros)|refine W4 i2 ⟨?_⟩)
    refine jh ?_;refine ZkN ?_;exact Z1
theorem uH {rs:List (List Pq)}{fill:Int}{ls:List Li}(hf:fill=1∨fill=2) (hrl:rs.length≤20) (hrs:∀r∈rs,eL r) :
  Pu Tryz.prog 22 [rgR rs fill ls] (rt (a8 (jX (inR rs fill) (20000) ((rs.map dS).flatten) []) [])):=by
 have hlen:((rs.map dS).flatten).length≤120:=by have:=ig rs hrs;unfold fy at this;rw [List.length_map]at this;omega
 have hfw:∀f∈(rs.map dS).flatten,FgW (fy rs) f:=fun f hf=>by
  obtain⟨e,he,hfe⟩:=List.mem_flatten.1 hf;obtain⟨r,hr,rfl⟩:=List.mem_map.1 he;obtain⟨q1,q2,q3⟩:=rk (hrs r hr) f hfe;exact⟨q3 _ (List.mem_map.2 ⟨f,hf,rfl⟩),q1,⟨by have:=q2.1;omega,by have:=q2.2;omega⟩⟩
 have hL:=r9 hrs;have hLl:=ig rs hrs;have hphi:ga (fy rs) (rs.map dS).flatten≤120*121:=Nat.le_trans (qQ _ _) (Nat.mul_le_mul hlen om);have ir:=w4 (ls:=ls) hf om hrs 20000 ((rs.map dS).flatten) [] hfw om (fun m h=>by cases h) (by simp) om;have ir':=ir.arg (l':=[rgR rs fill ls,fqs (rs.map dS).flatten,lit (.slice none 0 0)]) ⟨Le.refl _,Le.refl _,dJ,trivial⟩;obtain⟨z1,z2,z3⟩:=jW (inR rs fill) 20000 ((rs.map dS).flatten) [] (fun f hf=>(hfw f hf).g) (show ga (fy rs) _<20000 by omega);have cr:=fL (jX (inR rs fill) 20000 (rs.map dS).flatten []) (z3.all hL) om;have de:∀r∈rs,Pu Tryz.prog 48 [rps r] (fqs (dS r))∧(dS r).length≤6:=fun r hr=>⟨uG (hrs r hr),by rw [oV];exact(hrs r hr).1⟩
 have hb:∀k,(((rs.take k).map dS).flatten).length≤120:=fun k=>by
  have:=ig (rs.take k) (fun r hr=>hrs r (List.mem_of_mem_take hr));unfold fy at this;rw [List.length_map,List.length_take]at this;omega
 clear hfw hL hLl hphi ir z1 z2 z3 hlen;generalize jX (inR rs fill) 20000 (rs.map dS).flatten []=raw at *;generalize a8 raw []=red at *;refine Pi Tryz.func22 fun C=>?_
 repeat(first|(refine Wo (aB (sv:=ag _) rfl) ?_)|(refine Wdo (aB (sv:=ag _) rfl) ?_)|(refine A1 ⟨?_⟩;intros))
 refine WP.loopS (ι:=pf) (fun y=>y.k≤rs.length∧Own fT 14 (((rs.take y.k).map dS).flatten).length ((((rs.take y.k).map dS).flatten).map fqx).flatten y.s y.Hs) (fun y=>rs.length-y.k)
  (fun y=>fm [(1,pt [s8 rs,lit (.int .i64 fill),lqs ls]),(3,y.s),(7,s8 rs),(8,lit (.int .i64 rs.length)),(9,lit (.int .i64 y.k))]) (fun y=>y.Hs) ⟨0,lit (.slice none 0 0),[]⟩
  ⟨Nat.zero_le _,Own.nil _ _⟩ lfA (List.nil_sublist _) ?_
 rintro ⟨k,s,Hs⟩ ⟨hk,hown⟩ K hK;simp only at hk hown⊢;have hco:=hown.co;by_cases hkl:k<rs.length
 ·obtain⟨r,hget,hmm,hat,hne⟩:=elt (f:=fun r=>[rps r]) (n:=1) (fun _=>rfl) om hkl;obtain⟨c,h6⟩:=de r hmm;have hbk:=hb k;have hgo:=fun s' Hs' h F' H'=>hK F' H' ⟨k+1,s',Hs'⟩ ⟨by simp only;omega,h⟩ (by simp only;omega)
  simp only [eI hget,AF,List.length_append]at hgo;have f1:(((dS r).map fqx).flatten).length=(dS r).length*14:=cT jr _;clear hK hget hmm de hb ir' cr;generalize dS r=A at *;generalize(((rs.take k).map dS).flatten).length=m1 at *;generalize((((rs.take k).map dS).flatten).map fqx).flatten=q1 at *;repeat(refine A1 ⟨?_⟩;intros)
  refine Wo (a7 (cs':=[rps r]) rfl rfl om om hat hne) ?_;repeat(first|(refine A1 ⟨?_⟩;intros)|refine W4 c ⟨?_⟩)
  refine vL (k0:=A.length) (ds:=(A.map fqx).flatten) hown (Tk.same _) om f1 (fun s' H1 hown'=>?_);have hco':=hown'.co;replace hgo:=hgo s' H1 hown';clear hown hown';repeat(refine A1 ⟨?_⟩;intros)
  exact hgo _ _ lfA Sr
 ·have hke:k=rs.length:=by omega
  subst hke;rw [List.take_length]at hown;refine WP.rowS 3 hown rfl (by rw [List.append_nil]) ?_;clear hK hown de hb;exact Y2 ir' cr
abbrev lsT:TypeId:=63
abbrev lss (l:List (List Li)):SV:=sl (l.map fun c=>[lqs c]).flatten l.length
def cB (L:RPs):List (List Li):=(L.filter (·.2)).map (·.1)
theorem Dp {L:RPs}{k:Nat}{s:List Li}{i:Bool}(h:L[k]? = some (s,i)):cB (L.take (k+1))=if i then cB (L.take k)++[s]else cB (L.take k):=by
 unfold cB;rw [List.take_add_one,h,List.filter_append,List.map_append];cases i <;> simp
theorem kg (L:RPs):(cB L).length≤L.length:=by
 unfold cB;rw [List.length_map];exact List.length_filter_le _ _
theorem Ip {l:List (List Li)}{c:List Li}{s:SV}{H:LH}(h:Own lsT 1 (l.length+1) ((l.map fun c=>[lqs c]).flatten++[lqs c]) s H):Own lsT 1 (l++[c]).length ((l++[c]).map fun c=>[lqs c]).flatten s H:=by
 rw [List.map_append,List.flatten_append,List.length_append];simpa using h
theorem Bc {t:Tr}(hall:t.all fun l=>l.sm) (hd:aU t≤90000) (hl:ap t≤1000000):Pu Tryz.prog 31 [rt t] (lss (cB (aF t []))):=by
 have c:=(pF t [] hall (fun m hm=>by cases hm) (by simpa using hd) hl).leA (svs':=[rt t,lit (.slice none 0 0)]) ⟨Le.refl _,dJ,trivial⟩;have hn:=dU t [];generalize aF t []=L at *;clear hall hd;refine PuH.toPu ?_;refine PuH.intro Tryz.func31 rfl kr fun C hC=>?_
 repeat(refine A1 ⟨?_⟩;intros)
 refine WfT c ?_;intro r H' hown;simp only [List.nil_append];refine WPL.rowS 7 hown rfl (R:=[]) (by simp) ?_;clear hown c;repeat(refine A1 ⟨?_⟩;intros)
 refine WP.loopS (ι:=pf) (fun y=>y.k≤L.length∧Own lsT 1 (cB (L.take y.k)).length ((cB (L.take y.k)).map fun c=>[lqs c]).flatten y.s y.Hs) (fun y=>L.length-y.k)
  (fun y=>fm [(3,y.s),(7,sl (L.map tM).flatten L.length),(8,lit (.int .i64 L.length)),(9,lit (.int .i64 y.k))]) (fun y=>y.Hs) ⟨0,lit (.slice none 0 0),[]⟩
  ⟨Nat.zero_le _,Own.nil _ _⟩ lfA (List.nil_sublist _) ?_
 rintro ⟨k,s,Hs⟩ ⟨hk,hown⟩ K hK;simp only at hk hown⊢;have hco:=hown.co;by_cases hkl:k<L.length
 ·obtain⟨⟨q,i⟩,hget,hmm,hat,hne⟩:=elt Hj om hkl;have hgo:=fun s' Hs' h F' H'=>hK F' H' ⟨k+1,s',Hs'⟩ ⟨by simp only;omega,h⟩ (by simp only;omega)
  simp only [Dp hget]at hgo;have hle:=kg (L.take k);rw [List.length_take]at hle;generalize cB (L.take k)=D at *;clear hK hget hmm;cases i with
  |false =>
   simp only [Bool.false_eq_true,if_false]at hgo;replace hgo:=hgo s Hs hown;clear hown;repeat(refine A1 ⟨?_⟩;intros)
   refine Wo (a7 (cs':=tM (q,false)) rfl rfl om om hat hne) ?_;repeat(refine A1 ⟨?_⟩;intros)
   exact hgo _ _ lfA (Sc Sr)
  |true =>
   simp only [if_true]at hgo;repeat(refine A1 ⟨?_⟩;intros)
   refine Wo (a7 (cs':=tM (q,true)) rfl rfl om om hat hne) ?_;repeat(first|(refine Wo (eS (s:=lqs q) (ds:=[lqs q]) rfl inferInstance) ?_)|(refine Wdo (eS (s:=lqs q) (ds:=[lqs q]) rfl inferInstance) ?_)|(refine A1 ⟨?_⟩;intros))
   refine iG (ds:=[lqs q]) hown (Tk.skip _ (Tk.same _)) om (fun s' H1 hown'=>?_);replace hgo:=hgo s' H1 (Ip hown');have hco':=hown'.co;clear hown hown';repeat(refine A1 ⟨?_⟩;intros)
   exact hgo _ _ lfA (Sc Sr)
 ·have hke:k=L.length:=by omega
  subst hke;rw [List.take_length]at hown;refine WP.rowS 3 hown rfl (by rw [List.append_nil]) ?_;clear hK hown;repeat(refine A1 ⟨?_⟩;intros)
  exact cH _ _ (aC (RV.tmp rfl) Lr) (List.nil_sublist _) rfl
def p5 (l m:Li):Bool:=decide (im l m=0)||decide (im l m.neg=0)
def dX (l:Li):List Li→List Spn→List Spn
 | [],s=>s
 |m::r,s=>if p5 l m then dX l r s else dX l r (iE 2 s ((bh (l,Spn.full) m).1.map Prod.snd))
def gL (a b:List Li):Bool:=a.any fun l=>(b.any fun m=>decide (im l m.neg=0)) && !(dX l (a++b) [Spn.full]).isEmpty
theorem qC (b:List Spn):iE 2 [] b=[]:=by
 obtain⟨h1,h2⟩:=tJ 2 [] b;refine lD (E:=cU ([]++b)) h1 sS fun t ht=>(h2 t ht).trans ⟨fun k=>?_,fun⟨u,hu,_⟩=>(by cases hu)⟩
 rw [wu,Bool.and_eq_true]at k;have:=of_decide_eq_true k.1;cases this
theorem lE (l:Li):∀r:List Li,dX l r []=[]
 | []=>rfl
 |m::r=>by
  unfold dX;rw [qC];split <;> exact lE l r
theorem tj:cj Spn.full=false:=rfl
theorem rO {l m:Li}(hl:l.ok):(bh (l,Spn.full) m).1.map Prod.snd=(ej l Spn.full m).toList:=by
 rw [iS (f:=(l,Spn.full)) pS tj hl];cases ej l Spn.full m <;> rfl
theorem nc {l:Li}(hl:l.ok):∀(r:List Li) (s:Spn),SpG s→cj s=false→
  ((dX l r [s]=[]∧¬∃t,InS s t∧∀m∈r,p5 l m=false→0<a6 m (atL l t))∨∃w,dX l r [s]=[w]∧∃t,InS s t∧∀m∈r,p5 l m=false→0<a6 m (atL l t))
 | [],s,_,hb => .inr ⟨s,rfl,_,f6 hb,fun m hm=>by cases hm⟩
 |m::r,s,hg,hb=>by
  unfold dX;cases hc:p5 l m with
  |true =>
   rw [if_pos rfl]
   have e:∀t,(∀x∈m::r,p5 l x=false→0<a6 x (atL l t))↔∀x∈r,p5 l x=false→0<a6 x (atL l t):=fun t=>by
    constructor
    ·exact fun h x hx=>h x (Mc hx)
    ·intro h x hx hcx;rcases List.mem_cons.1 hx with e|e
     ·rw [e,hc]at hcx;cases hcx
     ·exact h x e hcx
   simp only [e];exact nc hl r s hg hb
  |false =>
   rw [if_neg (by decide),rO hl]
   have e:∀t,(InS s t∧∀x∈m::r,p5 l x=false→0<a6 x (atL l t))↔(InS s t∧0<a6 m (atL l t))∧∀x∈r,p5 l x=false→0<a6 x (atL l t):=fun t=>by
    constructor
    ·rintro ⟨h1,h2⟩;exact⟨⟨h1,h2 m List.mem_cons_self hc⟩,fun x hx=>h2 x (Mc hx)⟩
    ·rintro ⟨⟨h1,h2⟩,h3⟩;refine⟨h1,fun x hx hcx=>?_⟩;rcases List.mem_cons.1 hx with e|e
     ·rw [e];exact h2
     ·exact h3 x e hcx
   simp only [e];cases hcut:ej l Spn.full m with
   |none =>
    rw [Option.toList_none,kX,lE];exact .inl ⟨rfl,fun⟨t,⟨h1,h2⟩,_⟩=>q8 hcut t ⟨mB t,h2⟩⟩
   |some w =>
    obtain⟨wg,wb⟩:=H7 pS tj hcut
    have hw:∀t,InS w t↔0<a6 m (atL l t):=fun t=>by
     rw [eh hcut];exact⟨And.right,fun h=>⟨mB t,h⟩⟩
    rw [Option.toList_some,kw hg wg];cases hbad:cj (bN s w)with
    |true =>
     rw [if_pos rfl,lE];refine .inl ⟨rfl,fun⟨t,⟨h1,h2⟩,_⟩=>?_⟩;rw [i8 ((gj s w t).2 ⟨h1,(hw t).2 h2⟩)]at hbad;cases hbad
    |false =>
     rw [if_neg (by decide)];have e2:∀t,(InS s t∧0<a6 m (atL l t))↔InS (bN s w) t:=fun t=>by rw [gj,hw]
     simp only [e2];exact nc hl r (bN s w) (qX hg wg hbad) hbad
theorem AM {l m:Li}:p5 l m=false↔m≠l∧m≠l.neg:=by
 unfold p5;rw [Bool.or_eq_false_iff,decide_eq_false_iff_not,decide_eq_false_iff_not,el,el];constructor
 ·rintro ⟨h1,h2⟩;exact⟨fun e=>h1 e.symm,fun e=>h2 (by rw [e,du])⟩
 ·rintro ⟨h1,h2⟩;exact⟨fun e=>h1 e.symm,fun e=>h2 (by rw [e,du])⟩
theorem pK {a b:List Li}(ha:∀l∈a,l.ok):gL a b=true↔Shr a b:=by
 unfold gL Shr;rw [List.any_eq_true];refine exists_congr fun l=>and_congr_right fun hl=>?_
 rw [Bool.and_eq_true,List.any_eq_true]
 have h1:(∃x∈b,decide (im l x.neg=0)=true)↔l.neg∈b:=by
  constructor
  ·rintro ⟨x,hx,h⟩;have e:=el.1 (of_decide_eq_true h);rw [e,du];exact hx
  ·intro h;exact⟨l.neg,h,decide_eq_true (el.2 (du l).symm)⟩
 rw [h1];refine and_congr_right fun _=>?_
 have h2:∀t,(∀m∈a++b,p5 l m=false→0<a6 m (atL l t))↔∀m,m∈a∨m∈b→m≠l→m≠l.neg→0<a6 m (atL l t):=fun t=>by
  constructor
  ·exact fun h m hm n1 n2=>h m (List.mem_append.2 hm) (AM.2 ⟨n1,n2⟩)
  ·exact fun h m hm hc=>h m (List.mem_append.1 hm) (AM.1 hc).1 (AM.1 hc).2
 rcases nc (ha l hl) (a++b) Spn.full pS tj with⟨e,hno⟩|⟨w,e,t,_,ht⟩
 ·rw [e];refine⟨fun h=>(by cases h),fun⟨t,ht⟩=>absurd ⟨t,mB t,(h2 t).2 ht⟩ hno⟩
 ·rw [e];exact⟨fun _=>⟨t,(h2 t).1 ht⟩,fun _=>rfl⟩
theorem yj {c d:PC}(hc:cW c) (hd:cW d) (hdis:∀q,Inn (aa c) q→¬Inn (aa d) q){a b:List Li}(ha:∀l∈a,l.ok) (hsa:∀m,m∈aa c↔m∈a) (hsb:∀m,m∈aa d↔m∈b):dD c d=gL a b:=by
 rw [Bool.eq_iff_iff,ui hc hd hdis,pK ha];unfold Shr;simp only [hsa,hsb]
inductive F2 {α β:Type}(R:α→β→Prop):List α→List β→Prop
 |nil:F2 R [] []
 |cons {a:α}{b:β}{l:List α}{m:List β}(h:R a b) (k:F2 R l m):F2 R (a::l) (b::m)
theorem F2.app {α β:Type}{R:α→β→Prop}{l m:List α}{l' m':List β}(h:F2 R l l') (k:F2 R m m'):F2 R (l++m) (l'++m'):=by
 induction h with
 |nil=>exact k
 |cons h _ ih=>exact .cons h ih
theorem F2.len {α β:Type}{R:α→β→Prop}{l:List α}{l':List β}(h:F2 R l l'):l.length=l'.length:=by
 induction h with
 |nil=>rfl
 |cons _ _ ih=>rw [List.length_cons,List.length_cons,ih]
theorem F2.get {α β:Type}{R:α→β→Prop}{l:List α}{l':List β}(h:F2 R l l'):∀{k:Nat}{a:α},l[k]? = some a→∃b,l'[k]? = some b∧R a b:=by
 induction h with
 |nil=>intro k a h;simp at h
 |cons h _ ih =>
  intro k a hk;cases k with
  |zero=>simp only [List.getElem?_cons_zero,Option.some.injEq]at hk⊢;exact⟨_,rfl,hk▸h⟩
  |succ k=>simp only [List.getElem?_cons_succ]at hk⊢;exact ih hk
def lvs:Tr→List Bool
 | .leaf i=>[i]
 | .node _ a b=>lvs a++lvs b
theorem qY:∀t:Tr,(lvs t).length=ap t
 | .leaf _=>rfl
 | .node _ a b=>by unfold lvs ap;rw [List.length_append,qY a,qY b]
theorem qZ:∀t:Tr,jF t=(lvs t).countP id
 | .leaf i=>by cases i <;> rfl
 | .node _ a b=>by unfold lvs jF;rw [List.countP_append,qZ a,qZ b]
structure CR (x:PC×Bool) (y:List Li×Bool):Prop where
 f:x.2=y.2
 p:cW x.1
 m:∀m,m∈aa x.1↔m∈y.1
 ok:∀l∈y.1,l.ok
theorem zk {d:List Li}(hd:∀l∈d,l.ok) (hn:∃q,Inn d q):d=[]∨aZ d≠[]:=by
 cases d with
 |nil=>exact .inl rfl
 |cons l d =>
  refine .inr fun e=>?_
  obtain⟨q,_,hq⟩:=(G4 (hd l Ms)).2;have h:=(jf hd hn q).1 (by rw [e];exact fun l h=>by cases h);have:=h l Ms;grind
theorem par:∀(t:Tr) (c:PC) (d:List Li),cW c→(∀l∈d,l.ok)→(∀q,Inn (aa c) q↔Inn d q)→t.lok→Prp t (Inn (aa c))→
  F2 CR (a9 t c) (aF t d)∧(a9 t c).map Prod.snd=lvs t
 | .leaf i,c,d,hc,hd,he,_,_=>by
  have hn:∃q,Inn d q:=by obtain⟨q,hq⟩:=hc.inn;exact⟨q,(he q).1 hq⟩
  unfold a9 aF;rw [if_pos (zk hd hn)];have hok:∀l∈aZ d,l.ok:=fun l hl=>hd l ((dV hd).1 hl).1
  exact⟨.cons ⟨rfl,hc,zH hc hok (fun l hl=>AQ hd hl) (fun q=>(he q).trans (jf hd hn q).symm),hok⟩ .nil,rfl⟩
 | .node l a b,c,d,hc,hd,he,hl,hp=>by
  have hn:∃q,Inn d q:=by obtain⟨q,hq⟩:=hc.inn;exact⟨q,(he q).1 hq⟩
  have hok:∀l∈aZ d,l.ok:=fun l hl=>hd l ((dV hd).1 hl).1
  obtain⟨hl0,hla,hlb⟩:=hl;obtain⟨p1,p2,p3,p4⟩:=hp
  have q2:Lft (Inn (aa c)) l.neg:=by
   obtain⟨q,h1,h2⟩:=p2;exact⟨q,h1,by rw [bI];grind⟩
  have k1:=(et hc hl0 (ak l)).2 p1;have k2:=(et hc (Li.ok.neg hl0) (ak l.neg)).2 q2;obtain⟨g1,g2⟩:=je hc hl0 (ak l) (d:=(aG (ak l) c l).1) (by rw [←k1]);obtain⟨g3,g4⟩:=je hc (Li.ok.neg hl0) (ak l.neg) (d:=(aG (ak l.neg) c l.neg).1) (by rw [←k2])
  have g5:Inn (aa (aG (ak l.neg) c l.neg).1)=fun q=>Inn (aa c) q∧a6 l q<0:=by
   rw [g4];funext q;rw [bI];exact propext ⟨fun h=>⟨h.1,by have:=h.2;grind⟩,fun h=>⟨h.1,by have:=h.2;grind⟩⟩
  unfold a9 aF;rw [if_pos (zk hd hn),if_pos k1,if_pos k2];obtain⟨i1,j1⟩:=par a (aG (ak l) c l).1 (aZ d++[l]) g1 (iJ hok hl0) (fun q=>by rw [g2,gb,jf hd hn];exact⟨fun h=>⟨(he q).1 h.1,h.2⟩,fun h=>⟨(he q).2 h.1,h.2⟩⟩) hla (by rw [g2];exact p3);obtain⟨i2,j2⟩:=par b (aG (ak l.neg) c l.neg).1 (aZ d++[l.neg]) g3 (iJ hok (Li.ok.neg hl0)) (fun q=>by rw [g4,gb,jf hd hn];exact⟨fun h=>⟨(he q).1 h.1,h.2⟩,fun h=>⟨(he q).2 h.1,h.2⟩⟩) hlb (by rw [g5];exact p4);refine⟨i1.app i2,?_⟩;rw [List.map_append,j1,j2];rfl
end Go.Ab
