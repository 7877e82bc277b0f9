/- Texts laid one behind the other: GwK, TmC, Nbr, TqA, TmF, TmG, TmD, TmE, TmH, Prs, TqB, TqC, TqD, GwM, TmI, TmJ, TqE, TqF. -/
import Derived.Test.YtncbhpffccggcaaGreatDoorB34
set_option linter.all false
set_option maxHeartbeats 16000000
namespace Go.Ab
open Go.Proofs
variable [Base]
theorem pN (rs:List (List Pq)) (hl:rs.length≤1000) (hh:∀r∈rs,eM r):Pu Tryz.prog 23 [qQ rs] (ya rs):=by
 refine Pi Tryz.func23 fun C=>?_
 repeat(refine A1 ⟨?_⟩;intros)
 refine WP.loopS (ι:=vV) (fun y=>y.k≤rs.length∧Own 112 1 y.k ((rs.take y.k).map fun r=>[aps r]).flatten y.s y.Hs) (fun y=>rs.length-y.k)
  (fun y=>fm [(3,y.s),(6,qQ rs),(7,lit (.int .i64 rs.length)),(8,lit (.int .i64 y.k))]) (fun y=>y.Hs) ⟨0,lit (.slice none 0 0),[]⟩
  ⟨Nat.zero_le _,Own.nil _ _⟩ lfA (List.nil_sublist _) ?_
 rintro ⟨k,s,Hs⟩ ⟨hk,hown⟩ K hK;simp only at hk hown⊢;have hco:=hown.co;by_cases hkl:k<rs.length
 ·obtain⟨r,hget,hmm,hat,hne⟩:=elt (f:=fun r=>[rps r]) (n:=1) (fun _=>rfl) om hkl;have hr:=hh r hmm;have c:=Gf r (by have:=hr.1;omega) (fun p hp=>by have:=hr.ht p hp;omega);have hgo:=fun s' Hs' h F' H'=>hK F' H' ⟨k+1,s',Hs'⟩ ⟨by simp only;omega,h⟩ (by simp only;omega)
  simp only [ee hget]at hgo;clear hK hh hget hmm hr;repeat(refine A1 ⟨?_⟩;intros)
  refine Wo (a7 (cs':=[rps r]) rfl rfl om om hat hne) ?_;repeat(first|(refine Wo (iy (s:=aps r) (ds:=[aps r]) rfl inferInstance) ?_)|(refine Wdo (iy (s:=aps r) (ds:=[aps r]) rfl inferInstance) ?_)|(refine A1 ⟨?_⟩;intros)|refine W4 c ⟨?_⟩)
  refine jL (ds:=[aps r]) hown (Tk.same _) om (fun s' H1 hown'=>?_);have hco':=hown'.co;replace hgo:=hgo s' H1 hown';clear hown hown';repeat(refine A1 ⟨?_⟩;intros)
  exact hgo _ _ lfA Sr
 ·have hke:k=rs.length:=by omega
  subst hke;rw [List.take_length]at hown;refine WP.rowS 3 hown rfl (by rw [List.append_nil]) ?_;clear hK hown;exact Z1
theorem FS (l:List Pq):aps l=J0 (l.map fun p=>(RQ.of p.1,RQ.of p.2)):=by
 show sl _ _=sl ((l.map fun p=>(RQ.of p.1,RQ.of p.2)).map oC).flatten (l.map fun p=>(RQ.of p.1,RQ.of p.2)).length
 rw [List.map_map,List.length_map];rfl
theorem GC {l:List Pq}(h:eM l):Pu Tryz.prog 47 [aps l] (rps l):=by
 have c:=J5 (l.map fun p=>(RQ.of p.1,RQ.of p.2)) (L:=1) (by have:=h.1;rw [List.length_map];omega) (fun q hq=>by
  obtain⟨p,hp,rfl⟩:=List.mem_map.1 hq;obtain⟨h1,h2⟩:=h.ht p hp;exact⟨RQ.of_ok h1,RQ.of_ok h2⟩) om
 rw [←FS,List.map_map,show(rvl∘fun p:Pq=>(RQ.of p.1,RQ.of p.2))=id from funext fun p=>by simp [rvl,RQ.of_v],List.map_id]at c;exact c
theorem pR (x y:Nat×TypeId×List SV) (A B:LH):(x::y::(A++B)).Perm (A++(x::y::B)):=by
 have:=(List.perm_append_comm (l₁:=[x,y]) (l₂:=A)).append_right B;simpa using this
theorem Al (x y:Nat×TypeId×List SV) (A B:LH):(x::y::(A++B)).Perm (B++(x::y::A)):=List.perm_append_comm (l₁:=x::y::A) (l₂:=B)
structure KA where
 k:Nat
 s1:SV
 H1:LH
 s2:SV
 H2:LH
def f6 (rs:List (List Pq)):List Li:=((rs.map dG).flatten).map Prod.fst
theorem Cd {rs:List (List Pq)}{k:Nat}{r:List Pq}(h:rs[k]? = some r):f6 (rs.take (k+1))=f6 (rs.take k)++(dG r).map Prod.fst:=by
 unfold f6;rw [dQ h,List.map_append,List.flatten_append,List.map_append];simp
theorem gH:∀(rs:List (List Pq)),(∀r∈rs,eM r)→(f6 rs).length≤6*rs.length
 | [],_=>by simp [f6]
 |r::rs,h=>by
  have h1:=gH rs (fun r hr=>h r (Mc hr));have h2:=(h r Ms).1;have h3:=nQ r;unfold f6 at *;simp only [List.map_cons,List.flatten_cons,List.map_append,List.length_append,List.length_map,List.length_cons]at *;omega
theorem pY {rs:List (List Pq)}(h:∀r∈rs,eM r):∀l∈f6 rs,l.sm:=fun l hl=>by
 obtain⟨f,hf,rfl⟩:=List.mem_map.1 hl;obtain⟨e,he,hfe⟩:=List.mem_flatten.1 hf;obtain⟨r,hr,rfl⟩:=List.mem_map.1 he;exact(qg (h r hr) f hfe).1
abbrev RT:TypeId:=56
abbrev psT:TypeId:=50
theorem A4 {rs:List (List Pq)}(fill:Int) (h0:rs≠[]) (hl:rs.length≤1000) (hh:∀r∈rs,eM r):Pu Tryz.prog 22 [ya rs,lit (.int .i64 fill)] (rgR rs fill (mq (f6 rs))):=by
 have hpos:=List.length_pos_iff.2 h0;have hll:=gH rs hh;have hsm:=pY hh;have cd:=uI (f6 rs) om (fun m hm=>(hsm m hm).ile);refine Pi Tryz.func22 fun C=>?_
 repeat(refine A1 ⟨?_⟩;intros)
 rename_i b4 b5
 refine WP.loopS (ι:=KA) (fun y=>y.k≤rs.length∧Own psT 1 y.k ((rs.take y.k).map fun r=>[rps r]).flatten y.s1 y.H1∧Own lT 6 (f6 (rs.take y.k)).length ((f6 (rs.take y.k)).map lqx).flatten y.s2 y.H2) (fun y=>rs.length-y.k)
  (fun y=>fm [(4,lit (.pointer (some ⟨b4,0,none⟩))),(5,lit (.pointer (some ⟨b5,0,none⟩))),(6,y.s2),(14,ya rs),(15,lit (.int .i64 rs.length)),(16,lit (.int .i64 y.k))])
  (fun y=>(b5,RT,[y.s1,lit (.int .i64 fill),lit (.slice none 0 0)])::(b4,RT,[lit (.slice none 0 0),lit (.int .i64 0),lit (.slice none 0 0)])::(y.H1++y.H2)) ⟨0,lit (.slice none 0 0),[],lit (.slice none 0 0),[]⟩
  ⟨Nat.zero_le _,Own.nil _ _,Own.nil _ _⟩ lfA Sr ?_
 rintro ⟨k,s1,H1,s2,H2⟩ ⟨hk,hown1,hown2⟩ K hK;simp only at hk hown1 hown2⊢;have hco1:=hown1.co;have hco2:=hown2.co;by_cases hkl:k<rs.length
 ·obtain⟨r,hget,hmm,hat,hne⟩:=elt (f:=fun r=>[aps r]) (n:=1) (fun _=>rfl) om hkl;have hr:=hh r hmm;have c1:=GC hr;have c2:=tc hr;have hel:=nQ r;have h6:=hr.1
  have hlk:(f6 (rs.take k)).length≤6000:=by
   have:=gH (rs.take k) (fun r hr=>hh r (List.mem_of_mem_take hr));rw [List.length_take]at this;omega
  have hgo:=fun s1' H1' (h1:Own psT 1 (k+1) ((rs.take (k+1)).map fun r=>[rps r]).flatten s1' H1') s2' H2' (h2:Own lT 6 (f6 (rs.take (k+1))).length ((f6 (rs.take (k+1))).map lqx).flatten s2' H2') F' H'=>hK F' H' ⟨k+1,s1',H1',s2',H2'⟩ ⟨(by simp only;omega),h1,h2⟩ (by simp only;omega)
  simp only [ee hget,Cd hget]at hgo;generalize f6 (rs.take k)=ls at *;generalize dG r=es at *;clear hK hh hget hmm hr cd hsm hll;repeat(refine A1 ⟨?_⟩;intros)
  refine Wo (a7 (cs':=[aps r]) rfl rfl om om hat hne) ?_;repeat(first|(refine Wo (iy (s:=rps r) (ds:=[rps r]) rfl inferInstance) ?_)|(refine Wdo (iy (s:=rps r) (ds:=[rps r]) rfl inferInstance) ?_)|(refine A1 ⟨?_⟩;intros)|refine W4 c1 ⟨?_⟩)
  refine zL (ds:=[rps r]) hown1 (pR _ _ _ _) om (fun s1' H1' hown1'=>?_);have hco1':=hown1'.co;replace hgo:=hgo s1' H1' hown1';clear hown1 hown1';refine WPL.perm (pR _ _ _ _).symm ?_;repeat(refine A1 ⟨?_⟩;intros)
  refine WPL.store (b:=b5) (o:=0) (sv:=s1') (cs':=[s1',lit (.int .i64 fill),lit (.slice none 0 0)]) rfl rfl rfl (.here _) rfl rfl ?_;repeat(first|(refine A1 ⟨?_⟩;intros)|refine W4 c2 ⟨?_⟩)
  refine WP.loopS (ι:=vV) (fun y=>y.k≤es.length∧Own lT 6 (ls++(es.take y.k).map Prod.fst).length ((ls++(es.take y.k).map Prod.fst).map lqx).flatten y.s y.Hs) (fun y=>es.length-y.k)
   (fun y=>fm [(4,lit (.pointer (some ⟨b4,0,none⟩))),(5,lit (.pointer (some ⟨b5,0,none⟩))),(6,y.s),(14,ya rs),(15,lit (.int .i64 rs.length)),(16,lit (.int .i64 k)),(29,fqs es),(30,lit (.int .i64 es.length)),(31,lit (.int .i64 y.k))])
   (fun y=>(b5,RT,[s1',lit (.int .i64 fill),lit (.slice none 0 0)])::(b4,RT,[lit (.slice none 0 0),lit (.int .i64 0),lit (.slice none 0 0)])::(H1'++y.Hs)) ⟨0,s2,H2⟩
   ⟨Nat.zero_le _,by simpa using hown2⟩ lfA Sr ?_
  rintro ⟨j,s3,H3⟩ ⟨hj,hown3⟩ K2 hK2;simp only at hj hown3⊢;have hco3:=hown3.co;clear hown2;by_cases hjl:j<es.length
  ·obtain⟨e,hget2,hmm2,hat2,hne2⟩:=elt kh om hjl
   have hlen:(ls++(es.take (j+1)).map Prod.fst).length=(ls++(es.take j).map Prod.fst).length+1:=by
    rw [dQ hget2];simp;omega
   have hcel:((ls++(es.take (j+1)).map Prod.fst).map lqx).flatten=((ls++(es.take j).map Prod.fst).map lqx).flatten++lqx e.1:=by
    rw [dQ hget2,List.map_append,List.map_append,List.flatten_append,List.map_append,List.flatten_append,List.map_append,List.flatten_append,List.append_assoc];simp
   have hlb:(ls++(es.take j).map Prod.fst).length≤7000:=by rw [List.length_append,List.length_map,List.length_take];omega
   have hgo2:=fun s' Hs' h F' H'=>hK2 F' H' ⟨j+1,s',Hs'⟩ ⟨by simp only;omega,h⟩ (by simp only;omega)
   simp only [hlen,hcel]at hgo2;clear hK2 hgo hlen hcel hget2 hmm2 c1 c2;generalize(ls++(es.take j).map Prod.fst).length=nn at *;generalize((ls++(es.take j).map Prod.fst).map lqx).flatten=cc at *;repeat(refine A1 ⟨?_⟩;intros)
   refine Wo (a7 (cs':=fqx e) rfl rfl om om hat2 hne2) ?_;repeat(refine A1 ⟨?_⟩;intros)
   rename_i b11;refine WPL.store (b:=b11) (o:=0) (sv:=ag (fqx e)) (cs':=fqx e) rfl rfl rfl (.here _) rfl rfl ?_;repeat(first|(refine Wo (aD (lqx e.1) rfl) ?_)|(refine Wdo (aD (lqx e.1) rfl) ?_)|(refine A1 ⟨?_⟩;intros))
   refine zL (ds:=lqx e.1) hown3 (List.perm_append_comm (l₁:=_::_::_::H1') (l₂:=H3)) om (fun s' H1 hown'=>?_);have hco':=hown'.co;replace hgo2:=hgo2 s' H1 hown';clear hown3 hown';refine WPL.perm List.perm_append_comm ?_;simp only [List.cons_append];repeat(refine A1 ⟨?_⟩;intros)
   exact hgo2 _ _ lfA (Sc Sr)
  ·have hje:j=es.length:=by omega
   subst hje;rw [List.take_length]at hown3;replace hgo:=hgo s3 H3 hown3;clear hK2 hown3;repeat(refine A1 ⟨?_⟩;intros)
   exact hgo _ _ lfA Sr
 ·have hke:k=rs.length:=by omega
  subst hke;rw [List.take_length]at hown1 hown2;obtain⟨b1,q1,hc1,hm1,rfl,rfl⟩:=hown1.blk hpos;refine WP.rowS 6 hown2 rfl (R:=(b5,RT,[lit (.slice (some ⟨b1,0,none⟩) rs.length q1),lit (.int .i64 fill),lit (.slice none 0 0)])::(b4,RT,[lit (.slice none 0 0),lit (.int .i64 0),lit (.slice none 0 0)])::[(b1,psT,(rs.map fun r=>[rps r]).flatten++List.replicate (q1*1-rs.length*1) top)]) (List.perm_append_comm (l₁:=_::_::[_]) (l₂:=H2)) ?_;clear hK hown1 hown2 hsm hh hll;repeat(refine A1 ⟨?_⟩;intros)
  refine WPL.pubC (c1:=[]) (c2:=[lit (.int .i64 fill),lit (.slice none 0 0)]) (s':=qQ rs) (.there _ (.there _ (.here _))) (.here _) (fun m arr hm ha=>uJ hm ha hc1 hm1) ?_;simp only [List.nil_append];exact X1 cd
theorem wh {l:List Fg}{k:Nat}{f:Fg}{m:Li}(h:l[k]? = some f):(aK (l.take (k+1)) m).1=(aK (l.take k) m).1++(bX f m).1∧(aK (l.take (k+1)) m).2=(aK (l.take k) m).2++(bX f m).2:=by
 unfold aK;simp only;rw [dQ h];simp [List.map_append,List.flatten_append]
theorem lY {L:List Li}{m:Li}:∀{l:List Fg},(∀f∈l,FgG L f)→(aK l m).1.length≤l.length∧(aK l m).2.length≤l.length
 | [],_=>⟨Nat.le_refl _,Nat.le_refl _⟩
 |f::l,h=>by
  obtain⟨h1,h2⟩:=lY (m:=m) fun g hg=>h g (Mc hg)
  obtain⟨h3,h4⟩:=ol (m:=m) (h f Ms);unfold aK at *;simp only [List.map_cons,List.flatten_cons,List.length_append,List.length_cons]at *;omega
structure FgW (L:List Li) (f:Fg):Prop where
 g:FgG L f
 l:f.1.sm
 s:f.2.le 46
theorem Dp {L:List Li}{m:Li}(hm:m.sm){l:List Fg}(hl:∀f∈l,FgW L f):(∀g∈(aK l m).1,FgW L g)∧∀g∈(aK l m).2,FgW L g:=by
 have key:∀f∈l,(∀g∈(bX f m).1,FgW L g)∧∀g∈(bX f m).2,FgW L g:=fun f hf=>by
  obtain⟨h1,h2,h3⟩:=hl f hf;obtain⟨g1,g2⟩:=uv (m:=m) h1;obtain⟨k1,k2⟩:=Bt h1 h2 hm h3;exact⟨fun g hg=>⟨(g1 g hg).1,by rw [(g1 g hg).2];exact h2,k1 g hg⟩,fun g hg=>⟨(g2 g hg).1,by rw [(g2 g hg).2];exact h2,k2 g hg⟩⟩
 unfold aK;constructor
 ·intro g hg;obtain⟨a,ha,hga⟩:=List.mem_flatten.1 hg;obtain⟨f,hf,rfl⟩:=List.mem_map.1 ha;exact(key f hf).1 g hga
 ·intro g hg;obtain⟨a,ha,hga⟩:=List.mem_flatten.1 hg;obtain⟨f,hf,rfl⟩:=List.mem_map.1 ha;exact(key f hf).2 g hga
theorem zw (a b:List Fg):((a++b).map fqx).flatten=(a.map fqx).flatten++(b.map fqx).flatten:=by rw [List.map_append,List.flatten_append]
theorem uE {rs:List (List Pq)}{fill:Int}{ls:List Li}(hf:fill=1∨fill=2) (hrl:rs.length≤1000) (hrs:∀r∈rs,eM r){L:List Li}:∀(n:Nat) (l:List Fg) (c:List Li),(∀f∈l,FgW L f)→fC L l<n→(∀m∈c,m.sm)→c.length+n≤80000→l.length≤1000→
  Pu Tryz.prog 46 [rgR rs fill ls,fqs l,lqs c] (rt (jo (inR rs fill) n l c))
 |0,_,_,_,h,_,_,_=>by omega
 |n+1,[],c,_,_,hc,hd,_=>by
  have d1:=oA hc om;have h9:=Ck hc;have d2:=Gy (ls:=ls) (p:=(cz c).getD (0,0)) hf hrl hrs ⟨by have:=h9.1;omega,by have:=h9.2;omega⟩;have d3:=cS (inR rs fill ((cz c).getD (0,0)));unfold jo;clear hc h9 hrs hf;generalize inR rs fill ((cz c).getD (0,0))=bb at *;generalize(cz c).getD (0,0)=p at *;refine Pi Tryz.func46 fun C=>?_
  exact Y3 d1 d2 d3
 |n+1,f::l,c,hl,hphi,hc,hd,hlen=>by
  have hfw:=hl f Ms;have hsm:=hfw.l;have hphi2:=p7 fun g hg=>(hl g hg).g
  obtain⟨w1,w2⟩:=Dp hsm hl;obtain⟨n1,n2⟩:=lY (m:=f.1) fun g hg=>(hl g hg).g
  have i1:=uE (ls:=ls) hf hrl hrs n (aK (f::l) f.1).1 (c++[f.1]) w1 om (lm hc hsm) (by rw [List.length_append,List.length_singleton];omega) om;have i2:=uE (ls:=ls) hf hrl hrs n (aK (f::l) f.1).2 (c++[f.1.neg]) w2 om (lm hc hsm.neg) (by rw [List.length_append,List.length_singleton];omega) om
  have hsl:∀m:Li,lqs (c++[m])=sl ((c.map lqx).flatten++lqx m) (c.length+1):=fun m=>by
   show sl ((c++[m]).map lqx).flatten (c++[m]).length=_
   rw [oo,List.length_append,List.length_singleton]
  rw [hsl]at i1 i2;have hfl:=oH c;have d3:=mV f.1 hsm.ile;have ds:∀g∈f::l,Pu Tryz.prog 80 [ag (fqx g),lq f.1] (Ab.tup [fqs (bX g f.1).1,fqs (bX g f.1).2])∧(bX g f.1).1.length≤1∧(bX g f.1).2.length≤1:=fun g hg=>⟨BB (hl g hg).g (hl g hg).l hsm (hl g hg).s,ol (hl g hg).g⟩
  have hb1:∀k,(aK ((f::l).take k) f.1).1.length≤1000∧(aK ((f::l).take k) f.1).2.length≤1000:=fun k=>by
   obtain⟨q1,q2⟩:=lY (l:=(f::l).take k) (m:=f.1) fun g hg=>(hl g (List.mem_of_mem_take hg)).g
   rw [List.length_take]at q1 q2;omega
  show Pu _ _ _ (rt (.node f.1 (jo (inR rs fill) n (aK (f::l) f.1).1 (c++[f.1])) (jo (inR rs fill) n (aK (f::l) f.1).2 (c++[f.1.neg]))))
  generalize jo (inR rs fill) n (aK (f::l) f.1).1 (c++[f.1])=tA at *;generalize jo (inR rs fill) n (aK (f::l) f.1).2 (c++[f.1.neg])=tB at *;have hat0:=eA (f:=fqx) (n:=14) (l:=f::l) (k:=0) kh rfl;have hne0:((f::l).map fqx).flatten≠[]:=eN kh om (by simp);have hgl:f∈f::l:=Ms;have hpl:0<(f::l).length:=by simp
  clear hl hphi hphi2 w1 w2 hsl hf hrs hfw;obtain⟨m,hm⟩:∃m,m=f.1:=⟨_,rfl⟩
  rw [←hm]at i1 i2 d3 ds hb1 n1 n2⊢;have hfq:fqx f=lqx m++spx f.2:=by rw [hm]
  rw [hfq]at hat0;generalize hxs:f::l=xs at *;clear hxs hm hfq hgl;refine Pi Tryz.func46 fun C=>?_
  repeat(first|(refine Wo (aG (sv:=ag _) rfl) ?_)|(refine Wdo (aG (sv:=ag _) rfl) ?_)|(refine A1 ⟨?_⟩;intros))
  refine Wo (a7 (cs':=lqx m++spx f.2) rfl rfl om om hat0 hne0) ?_;repeat(refine A1 ⟨?_⟩;intros)
  rename_i b9;refine WPL.store (b:=b9) (o:=0) (sv:=ag (lqx m)) (cs':=lqx m) rfl rfl rfl (.here _) rfl rfl ?_;repeat(refine A1 ⟨?_⟩;intros)
  refine WP.loopS (ι:=KA) (fun y=>y.k≤xs.length∧Own fT 14 (aK (xs.take y.k) m).1.length ((aK (xs.take y.k) m).1.map fqx).flatten y.s1 y.H1∧Own fT 14 (aK (xs.take y.k) m).2.length ((aK (xs.take y.k) m).2.map fqx).flatten y.s2 y.H2) (fun y=>xs.length-y.k)
   (fun y=>fm [(2,lqs c),(3,pt [qQ rs,lit (.int .i64 fill),lqs ls]),(9,lit (.pointer (some ⟨b9,0,none⟩))),(10,y.s1),(11,y.s2),(32,fqs xs),(33,lit (.int .i64 xs.length)),(34,lit (.int .i64 y.k))])
   (fun y=>(b9,lT,lqx m)::(y.H1++y.H2)) ⟨0,lit (.slice none 0 0),[],lit (.slice none 0 0),[]⟩
   ⟨Nat.zero_le _,Own.nil _ _,Own.nil _ _⟩ lfA Sr ?_
  rintro ⟨k,s1,H1,s2,H2⟩ ⟨hk,hown1,hown2⟩ K hK;simp only at hk hown1 hown2⊢;have hco1:=hown1.co;have hco2:=hown2.co;by_cases hkl:k<xs.length
  ·obtain⟨g,hget,hmm,hat,hne⟩:=elt kh om hkl;obtain⟨dg,g1,g2⟩:=ds g hmm;obtain⟨r1,r2⟩:=hb1 k;obtain⟨e1,e2⟩:=wh (m:=m) hget;have hgo:=fun s1' H1' (h1:Own fT 14 (aK (xs.take (k+1)) m).1.length ((aK (xs.take (k+1)) m).1.map fqx).flatten s1' H1') s2' H2' (h2:Own fT 14 (aK (xs.take (k+1)) m).2.length ((aK (xs.take (k+1)) m).2.map fqx).flatten s2' H2') F' H'=>hK F' H' ⟨k+1,s1',H1',s2',H2'⟩ ⟨(by simp only;omega),h1,h2⟩ (by simp only;omega)
   rw [e1,e2,zw,zw,List.length_append,List.length_append]at hgo;have f1:(((bX g m).1.map fqx).flatten).length=(bX g m).1.length*14:=cG kh _;have f2:(((bX g m).2.map fqx).flatten).length=(bX g m).2.length*14:=cG kh _;clear hK hget hmm i1 i2 d3 ds hb1 hfl hat0 hne0 e1 e2;generalize(bX g m).1=A at *;generalize(bX g m).2=B at *;generalize(aK (xs.take k) m).1.length=m1 at *;generalize(aK (xs.take k) m).2.length=m2 at *;generalize((aK (xs.take k) m).1.map fqx).flatten=q1 at *;generalize((aK (xs.take k) m).2.map fqx).flatten=q2 at *;repeat(refine A1 ⟨?_⟩;intros)
   refine Wo (a7 (cs':=fqx g) rfl rfl om om hat hne) ?_;repeat(refine A1 ⟨?_⟩;intros)
   rename_i b13;refine WPL.store (b:=b13) (o:=0) (sv:=ag (fqx g)) (cs':=fqx g) rfl rfl rfl (.here _) rfl rfl ?_;repeat(first|(refine A1 ⟨?_⟩;intros)|refine W4 dg ⟨?_⟩)
   refine zM (k0:=A.length) (ds:=(A.map fqx).flatten) hown1 (pR _ _ _ _) om f1 (fun s1' H1' hown1'=>?_);have hco1':=hown1'.co;replace hgo:=hgo s1' H1' hown1';clear hown1 hown1';refine WPL.perm (pR _ _ _ _).symm ?_;repeat(refine A1 ⟨?_⟩;intros)
   refine zM (k0:=B.length) (ds:=(B.map fqx).flatten) hown2 (Al _ _ _ _) om f2 (fun s2' H2' hown2'=>?_);have hco2':=hown2'.co;replace hgo:=hgo s2' H2' hown2';clear hown2 hown2';refine WPL.perm (Al _ _ _ _).symm ?_;repeat(refine A1 ⟨?_⟩;intros)
   exact hgo _ _ lfA (Sc Sr)
  ·have hke:k=xs.length:=by omega
   subst hke;rw [List.take_length]at hown1 hown2;refine WP.rowS 11 hown2 rfl (R:=(b9,lT,lqx m)::H1) (List.perm_append_comm (l₁:=_::H1) (l₂:=H2)) ?_;refine WP.rowS 10 hown1 rfl (R:=[(b9,lT,lqx m)]) (List.perm_append_comm (l₁:=[_]) (l₂:=H1)) ?_;clear hK hown1 hown2 ds hb1 hat0 hne0;generalize(aK xs m).1=A at *;generalize(aK xs m).2=B at *;rw [show rt (.node m tA tB)=pt (rc (.node m tA tB))from rfl,gm];by_cases h0:c=[]
   ·subst h0;clear hfl hc;repeat(first|(refine AS ⟨?_⟩;intros)|(refine O1 ⟨?_⟩;intros))
    repeat(first|(refine Wo (lF) ?_)|(refine Wdo (lF) ?_)|(refine Wo (jp rfl rfl) ?_)|(refine Wdo (jp rfl rfl) ?_)|(refine Wo (bA (r:=[(0,lqx m)]) (cs:=lqx m) (.cons (sv:=ag (lqx m)) rfl inferInstance .nil)) ?_)|(refine Wdo (bA (r:=[(0,lqx m)]) (cs:=lqx m) (.cons (sv:=ag (lqx m)) rfl inferInstance .nil)) ?_)|(refine Wo (bA (r:=[(0,lqx m.neg)]) (cs:=lqx m.neg) (.cons (sv:=ag (lqx m.neg)) rfl inferInstance .nil)) ?_)|(refine Wdo (bA (r:=[(0,lqx m.neg)]) (cs:=lqx m.neg) (.cons (sv:=ag (lqx m.neg)) rfl inferInstance .nil)) ?_)|(refine Wo (az (k:=0) (k0:=1) (ds:=lqx m) rfl rfl rfl rfl om) ?_)|(refine Wdo (az (k:=0) (k0:=1) (ds:=lqx m) rfl rfl rfl rfl om) ?_)|(refine Wo (az (k:=0) (k0:=1) (ds:=lqx m.neg) rfl rfl rfl rfl om) ?_)|(refine Wdo (az (k:=0) (k0:=1) (ds:=lqx m.neg) rfl rfl rfl rfl om) ?_)|(refine Wo (aG (sv:=ag _) rfl) ?_)|(refine Wdo (aG (sv:=ag _) rfl) ?_)|(refine A1 ⟨?_⟩;intros)|refine W4 i1 ⟨?_⟩|refine W4 i2 ⟨?_⟩|refine W4 d3 ⟨?_⟩)
    exact E1
   ·have hpos:=List.length_pos_iff.2 h0;clear hc h0;repeat(first|(refine AS ⟨?_⟩;intros)|(refine O1 ⟨?_⟩;intros))
    refine WdZ 22 [0,1,2,3,4,6,7,10,11,12,13,15,5,8,9,14,16,17,18,19,20,21] [5,8,14,18] [] [(b9,lT,lqx m)] ?_;refine ZkD 12 ?_;repeat(first|(refine Wo (iO) ?_)|(refine Wdo (iO) ?_)|(refine Wo (bA (r:=[(0,lqx m)]) (cs:=lqx m) (.cons (sv:=ag (lqx m)) rfl inferInstance .nil)) ?_)|(refine Wdo (bA (r:=[(0,lqx m)]) (cs:=lqx m) (.cons (sv:=ag (lqx m)) rfl inferInstance .nil)) ?_)|(refine A1 ⟨?_⟩;intros))
    refine j5 ?_;refine ZkE rfl rfl hfl om om (fun s' H' hown=>?_) (hyx:=fun h=>by cases h);refine ZkP hown om ?_;refine ZkD 1 ?_;repeat(first|(refine A1 ⟨?_⟩;intros)|refine W4 i1 ⟨?_⟩)
    refine j5 ?_;refine ZkE rfl rfl hfl om om (fun s' H' hown=>?_) (hyx:=fun h=>by cases h);refine ZkD 2 ?_;repeat(first|(refine Wo (bA (r:=[(0,lqx m.neg)]) (cs:=lqx m.neg) (.cons (sv:=ag (lqx m.neg)) rfl inferInstance .nil)) ?_)|(refine Wdo (bA (r:=[(0,lqx m.neg)]) (cs:=lqx m.neg) (.cons (sv:=ag (lqx m.neg)) rfl inferInstance .nil)) ?_)|(refine A1 ⟨?_⟩;intros)|refine W4 d3 ⟨?_⟩)
    refine j5 ?_;refine ZkP hown om ?_;refine ZkD 3 ?_;repeat(first|(refine Wo (aG (sv:=ag _) rfl) ?_)|(refine Wdo (aG (sv:=ag _) rfl) ?_)|(refine A1 ⟨?_⟩;intros)|refine W4 i2 ⟨?_⟩)
    refine j5 ?_;refine ZkN ?_;exact Z1
theorem td {rs:List (List Pq)}{fill:Int}{ls:List Li}(hf:fill=1∨fill=2) (hrl:rs.length≤20) (hrs:∀r∈rs,eM r) :
  Pu Tryz.prog 21 [rgR rs fill ls] (rt (aa (jo (inR rs fill) (20000) ((rs.map dG).flatten) []) [])):=by
 have hlen:((rs.map dG).flatten).length≤120:=by have:=gH rs hrs;unfold f6 at this;rw [List.length_map]at this;omega
 have hfw:∀f∈(rs.map dG).flatten,FgW (f6 rs) f:=fun f hf=>by
  obtain⟨e,he,hfe⟩:=List.mem_flatten.1 hf;obtain⟨r,hr,rfl⟩:=List.mem_map.1 he;obtain⟨q1,q2,q3⟩:=qg (hrs r hr) f hfe;exact⟨q3 _ (List.mem_map.2 ⟨f,hf,rfl⟩),q1,⟨by have:=q2.1;omega,by have:=q2.2;omega⟩⟩
 have hL:=pY hrs;have hLl:=gH rs hrs;have hphi:fC (f6 rs) (rs.map dG).flatten≤120*121:=Nat.le_trans (pQ _ _) (Nat.mul_le_mul hlen om);have ir:=uE (ls:=ls) hf om hrs 20000 ((rs.map dG).flatten) [] hfw om (fun m h=>by cases h) (by simp) om;have ir':=ir.arg (l':=[rgR rs fill ls,fqs (rs.map dG).flatten,lit (.slice none 0 0)]) ⟨Le.refl _,Le.refl _,dM,trivial⟩;obtain⟨z1,z2,z3⟩:=jn (inR rs fill) 20000 ((rs.map dG).flatten) [] (fun f hf=>(hfw f hf).g) (show fC (f6 rs) _<20000 by omega);have cr:=jR (jo (inR rs fill) 20000 (rs.map dG).flatten []) (z3.all hL) om;have de:∀r∈rs,Pu Tryz.prog 45 [rps r] (fqs (dG r))∧(dG r).length≤6:=fun r hr=>⟨tc (hrs r hr),by rw [nQ];exact(hrs r hr).1⟩
 have hb:∀k,(((rs.take k).map dG).flatten).length≤120:=fun k=>by
  have:=gH (rs.take k) (fun r hr=>hrs r (List.mem_of_mem_take hr));unfold f6 at this;rw [List.length_map,List.length_take]at this;omega
 clear hfw hL hLl hphi ir z1 z2 z3 hlen;generalize jo (inR rs fill) 20000 (rs.map dG).flatten []=raw at *;generalize aa raw []=red at *;refine Pi Tryz.func21 fun C=>?_
 repeat(first|(refine Wo (aG (sv:=ag _) rfl) ?_)|(refine Wdo (aG (sv:=ag _) rfl) ?_)|(refine A1 ⟨?_⟩;intros))
 refine WP.loopS (ι:=vV) (fun y=>y.k≤rs.length∧Own fT 14 (((rs.take y.k).map dG).flatten).length ((((rs.take y.k).map dG).flatten).map fqx).flatten y.s y.Hs) (fun y=>rs.length-y.k)
  (fun y=>fm [(1,pt [qQ rs,lit (.int .i64 fill),lqs ls]),(3,y.s),(7,qQ rs),(8,lit (.int .i64 rs.length)),(9,lit (.int .i64 y.k))]) (fun y=>y.Hs) ⟨0,lit (.slice none 0 0),[]⟩
  ⟨Nat.zero_le _,Own.nil _ _⟩ lfA (List.nil_sublist _) ?_
 rintro ⟨k,s,Hs⟩ ⟨hk,hown⟩ K hK;simp only at hk hown⊢;have hco:=hown.co;by_cases hkl:k<rs.length
 ·obtain⟨r,hget,hmm,hat,hne⟩:=elt (f:=fun r=>[rps r]) (n:=1) (fun _=>rfl) om hkl;obtain⟨c,h6⟩:=de r hmm;have hbk:=hb k;have hgo:=fun s' Hs' h F' H'=>hK F' H' ⟨k+1,s',Hs'⟩ ⟨by simp only;omega,h⟩ (by simp only;omega)
  simp only [ee hget,zw,List.length_append]at hgo;have f1:(((dG r).map fqx).flatten).length=(dG r).length*14:=cG kh _;clear hK hget hmm de hb ir' cr;generalize dG r=A at *;generalize(((rs.take k).map dG).flatten).length=m1 at *;generalize((((rs.take k).map dG).flatten).map fqx).flatten=q1 at *;repeat(refine A1 ⟨?_⟩;intros)
  refine Wo (a7 (cs':=[rps r]) rfl rfl om om hat hne) ?_;repeat(first|(refine A1 ⟨?_⟩;intros)|refine W4 c ⟨?_⟩)
  refine FX (k0:=A.length) (ds:=(A.map fqx).flatten) hown (Tk.same _) om f1 (fun s' H1 hown'=>?_);have hco':=hown'.co;replace hgo:=hgo s' H1 hown';clear hown hown';repeat(refine A1 ⟨?_⟩;intros)
  exact hgo _ _ lfA Sr
 ·have hke:k=rs.length:=by omega
  subst hke;rw [List.take_length]at hown;refine WP.rowS 3 hown rfl (by rw [List.append_nil]) ?_;clear hK hown de hb;exact Y2 ir' cr
abbrev lss (l:List (List Li)):SV:=sl (l.map fun c=>[lqs c]).flatten l.length
inductive F2 {α β:Type}(R:α→β→Prop):List α→List β→Prop
 |nil:F2 R [] []
 |cons {a:α}{b:β}{l:List α}{m:List β}(h:R a b) (k:F2 R l m):F2 R (a::l) (b::m)
theorem F2.app {α β:Type}{R:α→β→Prop}{l m:List α}{l' m':List β}(h:F2 R l l') (k:F2 R m m'):F2 R (l++m) (l'++m'):=by
 induction h with
 |nil=>exact k
 |cons h _ ih=>exact .cons h ih
theorem F2.len {α β:Type}{R:α→β→Prop}{l:List α}{l':List β}(h:F2 R l l'):l.length=l'.length:=by
 induction h with
 |nil=>rfl
 |cons _ _ ih=>rw [List.length_cons,List.length_cons,ih]
theorem F2.get {α β:Type}{R:α→β→Prop}{l:List α}{l':List β}(h:F2 R l l'):∀{k:Nat}{a:α},l[k]? = some a→∃b,l'[k]? = some b∧R a b:=by
 induction h with
 |nil=>intro k a h;simp at h
 |cons h _ ih =>
  intro k a hk;cases k with
  |zero=>simp only [List.getElem?_cons_zero,Option.some.injEq]at hk⊢;exact⟨_,rfl,hk▸h⟩
  |succ k=>simp only [List.getElem?_cons_succ]at hk⊢;exact ih hk
def lvs:Tr→List Bool
 | .leaf i=>[i]
 | .node _ a b=>lvs a++lvs b
theorem vg:∀t:Tr,(lvs t).length=aV t
 | .leaf _=>rfl
 | .node _ a b=>by unfold lvs aV;rw [List.length_append,vg a,vg b]
structure CR (x:PC×Bool) (y:List Li×Bool):Prop where
 f:x.2=y.2
 p:dC x.1
 m:∀m,m∈a9 x.1↔m∈y.1
 ok:∀l∈y.1,l.ok
theorem xZ {d:List Li}(hd:∀l∈d,l.ok) (hn:∃q,Inn d q):d=[]∨dh d≠[]:=by
 cases d with
 |nil=>exact .inl rfl
 |cons l d =>
  refine .inr fun e=>?_
  obtain⟨q,_,hq⟩:=(EI (hd l Ms)).2;have h:=(iH hd hn q).1 (by rw [e];exact fun l h=>by cases h);have:=h l Ms;grind
theorem par:∀(t:Tr) (c:PC) (d:List Li),dC c→(∀l∈d,l.ok)→(∀q,Inn (a9 c) q↔Inn d q)→t.lok→Prp t (Inn (a9 c))→
  F2 CR (a8 t c) (ky t d)∧(a8 t c).map Prod.snd=lvs t
 | .leaf i,c,d,hc,hd,he,_,_=>by
  have hn:∃q,Inn d q:=by obtain⟨q,hq⟩:=hc.inn;exact⟨q,(he q).1 hq⟩
  unfold a8 ky;rw [if_pos (xZ hd hn)];have hok:∀l∈dh d,l.ok:=fun l hl=>hd l ((dH hd).1 hl).1
  exact⟨.cons ⟨rfl,hc,yp hc hok (fun l hl=>zI hd hl) (fun q=>(he q).trans (iH hd hn q).symm),hok⟩ .nil,rfl⟩
 | .node l a b,c,d,hc,hd,he,hl,hp=>by
  have hn:∃q,Inn d q:=by obtain⟨q,hq⟩:=hc.inn;exact⟨q,(he q).1 hq⟩
  have hok:∀l∈dh d,l.ok:=fun l hl=>hd l ((dH hd).1 hl).1
  obtain⟨hl0,hla,hlb⟩:=hl;obtain⟨p1,p2,p3,p4⟩:=hp
  have q2:Lft (Inn (a9 c)) l.neg:=by
   obtain⟨q,h1,h2⟩:=p2;exact⟨q,h1,by rw [bF];grind⟩
  have k1:=(dV hc hl0 (aj l)).2 p1;have k2:=(dV hc (Li.ok.neg hl0) (aj l.neg)).2 q2;obtain⟨g1,g2⟩:=iG hc hl0 (aj l) (d:=(aA (aj l) c l).1) (by rw [←k1]);obtain⟨g3,g4⟩:=iG hc (Li.ok.neg hl0) (aj l.neg) (d:=(aA (aj l.neg) c l.neg).1) (by rw [←k2])
  have g5:Inn (a9 (aA (aj l.neg) c l.neg).1)=fun q=>Inn (a9 c) q∧a6 l q<0:=by
   rw [g4];funext q;rw [bF];exact propext ⟨fun h=>⟨h.1,by have:=h.2;grind⟩,fun h=>⟨h.1,by have:=h.2;grind⟩⟩
  unfold a8 ky;rw [if_pos (xZ hd hn),if_pos k1,if_pos k2];obtain⟨i1,j1⟩:=par a (aA (aj l) c l).1 (dh d++[l]) g1 (fD hok hl0) (fun q=>by rw [g2,eD,iH hd hn];exact⟨fun h=>⟨(he q).1 h.1,h.2⟩,fun h=>⟨(he q).2 h.1,h.2⟩⟩) hla (by rw [g2];exact p3);obtain⟨i2,j2⟩:=par b (aA (aj l.neg) c l.neg).1 (dh d++[l.neg]) g3 (fD hok (Li.ok.neg hl0)) (fun q=>by rw [g4,eD,iH hd hn];exact⟨fun h=>⟨(he q).1 h.1,h.2⟩,fun h=>⟨(he q).2 h.1,h.2⟩⟩) hlb (by rw [g5];exact p4);refine⟨i1.app i2,?_⟩;rw [List.map_append,j1,j2];rfl
structure KY where
 j:Nat
 S:List Spn
structure KZ where
 k:Nat
 g:Nat→Nat
def nk {α:Type}(pre:List α):List α→List (α×α)
 | []=>[]
 |x::xs=>pre.map (fun k=>(x,k))++nk (pre++[x]) xs
def zV (T:Nat→Nat→Bool) (g:Nat→Nat) (p:Nat×Nat):Nat→Nat:=if g p.1≠g p.2∧T p.1 p.2=true then pn g p.1 p.2 else g
def fP (w:Nat→Bool) (T:Nat→Nat→Bool) (g:Nat→Nat) (p:Nat×Nat):Nat→Nat:=if(w p.1&&w p.2)=true then zV T g p else g
theorem nf {α:Type}(x:α):∀(l pre:List α),nk pre (l++[x])=nk pre l++(pre++l).map fun k=>(x,k)
 | [],pre=>by simp [nk]
 |y::l,pre=>by
  rw [List.cons_append];unfold nk;rw [nf x l (pre++[y]),List.append_assoc,List.append_assoc,List.singleton_append]
theorem BJ {β:Type}(f:β→Nat×Nat→β) (n:Nat) (g:β):(nk [] (List.range n)).foldl f g=(List.range n).foldl (fun g i=>(List.range i).foldl (fun g k=>f g (i,k)) g) g:=by
 induction n with
 |zero=>rfl
 |succ n ih =>
  rw [List.range_succ,nf,List.foldl_append,ih,List.foldl_append,List.nil_append,List.foldl_map];rfl
theorem J6 {n:Nat}:∀{p:Nat×Nat},p∈nk [] (List.range n)→p.1<n∧p.2<p.1:=by
 induction n with
 |zero=>intro p h;cases h
 |succ n ih =>
  intro p h;rw [List.range_succ,nf]at h;rcases List.mem_append.1 h with h|h
  ·have:=ih h;omega
  ·obtain⟨k,hk,rfl⟩:=List.mem_map.1 h;rw [List.nil_append]at hk;have:=List.mem_range.1 hk;exact⟨by show n<n+1;omega,this⟩
theorem CH (l:Pts) (k:Nat) (g:Nat→Nat) (j:Nat):zD l k g j=fP (inB l) (fun a b=>dE (clB l a) (clB l b)) g (k,j):=by
 unfold zD jnB fP zV;dsimp only;cases inB l k <;> cases inB l j <;> simp
theorem se (l:Pts):cP l=(nk [] (List.range l.length)).foldl (fP (inB l) fun a b=>dE (clB l a) (clB l b)) id:=by
 rw [BJ];unfold cP FD;congr 1
 funext g i
 congr 1
 funext g k
 exact CH l i g k
theorem Dz {a b:List Li}(h:Shr a b):Shr b a:=by
 obtain⟨l,hl,hn,t,ht⟩:=h;refine⟨l.neg,hn,by rw [eF];exact hl,-t,fun m hm h1 h2=>?_⟩;rw [yY];rw [eF]at h2;exact ht m hm.symm h2 h1
abbrev Dis (x y:PC×Bool):Prop:=∀q,Inn (a9 x.1) q→¬Inn (a9 y.1) q
theorem dis:∀(t:Tr) (c:PC),dC c→t.lok→Prp t (Inn (a9 c))→(∀x∈a8 t c,∀q,Inn (a9 x.1) q→Inn (a9 c) q)∧(a8 t c).Pairwise Dis
 | .leaf i,c,_,_,_=>⟨fun x hx q h=>by unfold a8 at hx;rw [List.mem_singleton.1 hx]at h;exact h,List.pairwise_singleton _ _⟩
 | .node l a b,c,hc,hl,hp=>by
  obtain⟨hl0,hla,hlb⟩:=hl;obtain⟨p1,p2,p3,p4⟩:=hp
  have q2:Lft (Inn (a9 c)) l.neg:=by
   obtain⟨q,h1,h2⟩:=p2;exact⟨q,h1,by rw [bF];grind⟩
  have k1:=(dV hc hl0 (aj l)).2 p1;have k2:=(dV hc (Li.ok.neg hl0) (aj l.neg)).2 q2;obtain⟨g1,g2⟩:=iG hc hl0 (aj l) (d:=(aA (aj l) c l).1) (by rw [←k1]);obtain⟨g3,g4⟩:=iG hc (Li.ok.neg hl0) (aj l.neg) (d:=(aA (aj l.neg) c l.neg).1) (by rw [←k2])
  have g5:Inn (a9 (aA (aj l.neg) c l.neg).1)=fun q=>Inn (a9 c) q∧a6 l q<0:=by
   rw [g4];funext q;rw [bF];exact propext ⟨fun h=>⟨h.1,by have:=h.2;grind⟩,fun h=>⟨h.1,by have:=h.2;grind⟩⟩
  obtain⟨i1,j1⟩:=dis a (aA (aj l) c l).1 g1 hla (by rw [g2];exact p3);obtain⟨i2,j2⟩:=dis b (aA (aj l.neg) c l.neg).1 g3 hlb (by rw [g5];exact p4)
  have r1:∀x∈a8 a (aA (aj l) c l).1,∀q,Inn (a9 x.1) q→Inn (a9 c) q∧0<a6 l q:=fun x hx q h=>by
   have:=i1 x hx q h;rw [g2]at this;exact this
  have r2:∀x∈a8 b (aA (aj l.neg) c l.neg).1,∀q,Inn (a9 x.1) q→Inn (a9 c) q∧a6 l q<0:=fun x hx q h=>by
   have:=i2 x hx q h;rw [g5]at this;exact this
  unfold a8;rw [if_pos k1,if_pos k2];refine⟨fun x hx q h=>?_,?_⟩
  ·rcases List.mem_append.1 hx with hx|hx
   ·exact(r1 x hx q h).1
   ·exact(r2 x hx q h).1
  ·refine List.pairwise_append.2 ⟨j1,j2,fun x hx y hy q h1 h2=>?_⟩;have a1:=(r1 x hx q h1).2;have a2:=(r2 y hy q h2).2;grind
theorem F2.at {l:Pts}{Y:RPs}(h:F2 CR l Y){k:Nat}(hk:k<l.length):CR (l.getD k ([],false)) (Y.getD k ([],false)):=by
 obtain⟨y,h1,h2⟩:=h.get (List.getElem?_eq_getElem hk);rw [List.getD,List.getD,List.getElem?_eq_getElem hk,h1];exact h2
theorem Ch {p:Li→Prop}{l:Li}(h:p l):∀{a b:Tr},a.all p→b.all p→(fQ l a b).all p
 | .leaf i, .leaf j,_,_=>by
  show(if i=j then Tr.leaf i else .node l (.leaf i) (.leaf j)).all p
  split
  ·trivial
  ·exact⟨h,trivial,trivial⟩
 | .leaf _, .node _ _ _,h1,h2=>⟨h,h1,h2⟩
 | .node _ _ _, .leaf _,h1,h2=>⟨h,h1,h2⟩
 | .node _ _ _, .node _ _ _,h1,h2=>⟨h,h1,h2⟩
theorem io {p:Li→Prop}:∀{t:Tr}{c:List Li},t.all p→(aa t c).all p
 | .leaf _,_,_=>trivial
 | .node l a b,c,h=>by
  unfold aa;split
  ·exact io h.2.1
  ·split
   ·exact io h.2.2
   ·exact Ch h.1 (io h.2.1) (io h.2.2)
theorem ij (op:Int) (hop:1≤op∧op≤4) (b:Tr) (hb:b.all fun l=>l.sm):∀(t:Tr) (c:List Li),(t.all fun l=>l.sm)→(∀m∈c,m.sm)→c.length+br t+br b≤90000→Pu Tryz.prog 37 [lit (.int .i64 op),rt t,rt b,lqs c] (rt (aQ op t b c))
 | .leaf i,c,_,hc,hd=>by
  have d1:=i9 b c hb hc (by simp only [br]at hd;omega);have d2:=n7 (aa b c) (io hb);have d3:=cS true;have d4:=cS false;show Pu _ _ _ (rt (qo op i b c))
  unfold qo;generalize cN (aa b c)=nb at *;generalize aa b c=rb at *;clear hb hc hd;have ho:op=1∨op=2∨op=3∨op=4:=by omega
  have en:rt (.leaf i)=pt (rc (.leaf i)):=rfl;rw [en,iN];rcases ho with rfl|rfl|rfl|rfl <;> cases i
  all_goals
   simp only [Int.reduceEq,true_and,false_and,and_true,and_false,or_false,false_or,or_true,true_or,or_self,if_true,if_false,Bool.false_eq_true,Bool.true_eq_false,reduceCtorEq];refine Pi Tryz.func37 fun C=>?_
   repeat(first|(refine A1 ⟨?_⟩;intros)|refine W4 d1 ⟨?_⟩|refine W4 d2 ⟨?_⟩|refine W4 d3 ⟨?_⟩|refine W4 d4 ⟨?_⟩)
   exact E1
 | .node l x y,c,hall,hc,hd=>by
  have hd':c.length+(1+max (br x) (br y))+br b≤90000:=hd;have p0:=sZ hc hall.1 om;have d3:=ij op hop b hb x c hall.2.1 hc om;have d4:=ij op hop b hb y c hall.2.2 hc om;have n1:=lh c l;have n2:=lh c l.neg;have w1:=mT hc hall.1 om;have w2:=mT hc hall.1.neg om;have d0:=mV l hall.1.ile;have d5:=ij op hop b hb x (dP c l) hall.2.1 (mH hc hall.1) om;have d6:=ij op hop b hb y (dP c l.neg) hall.2.2 (mH hc hall.1.neg) om;have d7:=wx l (aQ op x b (dP c l)) (aQ op y b (dP c l.neg)) hall.1.ile;unfold aQ;clear hd hd' n1 n2 hc hall hb;generalize aQ op x b c=ra at *;generalize aQ op y b c=rb at *;generalize aQ op x b (dP c l)=ra' at *;generalize aQ op y b (dP c l.neg)=rb' at *;generalize fQ l ra' rb'=rj at *;generalize dP c l=c1 at *;generalize dP c l.neg=c2 at *;have en:rt (.node l x y)=pt (rc (.node l x y)):=rfl;rw [en,gm];clear en;generalize gN c l=z at *;by_cases h1:z=1
  ·rw [if_pos h1];refine Pi Tryz.func37 fun C=>?_
   exact Y2 p0 d3
  ·rw [if_neg h1];by_cases h2:z = -1
   ·rw [if_pos h2];refine Pi Tryz.func37 fun C=>?_
    exact Y2 p0 d4
   ·rw [if_neg h2];refine Pi Tryz.func37 fun C=>?_
    repeat(first|(refine A1 ⟨?_⟩;intros)|refine W4 p0 ⟨?_⟩|refine W4 w1 ⟨?_⟩|refine W4 d0 ⟨?_⟩|refine W4 w2 ⟨?_⟩|refine W4 d5 ⟨?_⟩|refine W4 d6 ⟨?_⟩|refine W4 d7 ⟨?_⟩)
    exact E1
theorem FJ (c:PC):oY c=true↔(∀s∈c,¬(s.2.nl=true∨s.2.nh=true))∧0<c.length:=by
 unfold oY;rw [Bool.and_eq_true,List.all_eq_true,decide_eq_true_iff];refine and_congr ⟨fun h s hs=>?_,fun h s hs=>?_⟩ Iff.rfl
 ·have:=h s hs;cases h1:s.2.nl <;> cases h2:s.2.nh <;> simp_all
 ·have:=h s hs;cases h1:s.2.nl <;> cases h2:s.2.nh <;> simp_all
abbrev FZ (ls:List Li) (d:Pq):Prop:=∀m∈ls,0≤(m.a:Rat)*d.1+(m.b:Rat)*d.2
theorem nu {c:PC}(hc:dC c):oY c=false↔∃d:Pq,(d.1≠0∨d.2≠0)∧FZ (a9 c) d:=by
 rw [←Bool.not_eq_true,FJ];by_cases h:c=[]
 ·subst h;exact⟨fun _=>⟨(1,0), .inl (by decide +kernel),fun m hm=>by cases hm⟩,fun _ k=>by have:=k.2;simp at this⟩
 ·have h0:0<c.length:=List.length_pos_iff.2 h;rw [←Eo hc h];constructor
  ·intro k;apply Classical.byContradiction;intro n;exact k ⟨fun s hs ho=>n ⟨s,hs,ho⟩,h0⟩
  ·rintro ⟨s,hs,ho⟩ k;exact k.1 s hs ho
theorem w6 {L:List Li}(hL:∀l∈L,l.ok){ls:List Li}{d:Pq}(hq:∃q,Inn ls q) (hd:FZ ls d){S:List PC}(H:∀q,Off L q→Inn ls q→∃y∈S,Inn (a9 y) q):∃y∈S,FZ (a9 y) d:=by
 obtain⟨q,hq⟩:=hq;obtain⟨r,h1,h2⟩:=jq L hL hq;obtain⟨N,hN⟩:=A9 (d:=d) h2
 obtain⟨y,hy,hy2⟩:=IA (L:=S) (P:=fun y n=>Inn (a9 y) (cn r (n:Rat) d)) (fun M=>by
  obtain⟨y,hy,hi⟩:=H (cn r ((max N M:Nat):Rat) d) (hN _ (Nat.le_max_left _ _)) (En h1 hd (by exact_mod_cast Nat.zero_le _));exact⟨max N M,Nat.le_max_right _ _,y,hy,hi⟩)
 exact⟨y,hy,DL hy2⟩
theorem uR {t:Tr}{c:PC}(hc:dC c) (hl:t.lok) (hp:Prp t (Inn (a9 c))):(a8 t c).length=aV t:=by
 have h:=(par t c (a9 c) hc (fun l hl=>by
  unfold a9 at hl;obtain⟨s,hs,rfl⟩:=List.mem_map.1 hl;exact hc.ok s hs) (fun q=>Iff.rfl) hl hp).2
 have:=congrArg List.length h;rw [List.length_map,vg]at this;exact this
theorem rA {l:Li}{a b:Tr}{c:PC}(hc:dC c) (hl:(Tr.node l a b).lok) (hp:Prp (.node l a b) (Inn (a9 c))) :
  ∃c1 c2:PC,dC c1∧dC c2∧a8 (.node l a b) c=a8 a c1++a8 b c2∧(Inn (a9 c1)=fun q=>Inn (a9 c) q∧0<a6 l q)∧(Inn (a9 c2)=fun q=>Inn (a9 c) q∧a6 l q<0)∧a.lok∧b.lok∧Prp a (Inn (a9 c1))∧Prp b (Inn (a9 c2)):=by
 obtain⟨hl0,hla,hlb⟩:=hl;obtain⟨p1,p2,p3,p4⟩:=hp
 have q2:Lft (Inn (a9 c)) l.neg:=by
  obtain⟨q,h1,h2⟩:=p2;exact⟨q,h1,by rw [bF];grind⟩
 have k1:=(dV hc hl0 (aj l)).2 p1;have k2:=(dV hc (Li.ok.neg hl0) (aj l.neg)).2 q2;obtain⟨g1,g2⟩:=iG hc hl0 (aj l) (d:=(aA (aj l) c l).1) (by rw [←k1]);obtain⟨g3,g4⟩:=iG hc (Li.ok.neg hl0) (aj l.neg) (d:=(aA (aj l.neg) c l.neg).1) (by rw [←k2])
 have g5:Inn (a9 (aA (aj l.neg) c l.neg).1)=fun q=>Inn (a9 c) q∧a6 l q<0:=by
  rw [g4];funext q;rw [bF];exact propext ⟨fun h=>⟨h.1,by have:=h.2;grind⟩,fun h=>⟨h.1,by have:=h.2;grind⟩⟩
 refine⟨_,_,g1,g3,?_,g2,g5,hla,hlb,by rw [g2];exact p3,by rw [g5];exact p4⟩;rw [a8,if_pos k1,if_pos k2]
theorem vR (keep:Nat→Bool){q:Pq}:∀(t:Tr) (c:PC) (k0:Nat),dC c→t.lok→Prp t (Inn (a9 c))→∀(k:Nat) (x:PC×Bool),(a8 t c)[k]? = some x→Inn (a9 x.1) q→atT (gD keep t k0) q=(x.2&&keep (k0+k))
 | .leaf i,c,k0,_,_,_,k,x,hk,_=>by
  unfold a8 at hk;cases k with
  |zero=>simp only [List.getElem?_cons_zero,Option.some.injEq]at hk;rw [←hk];rfl
  |succ k=>simp at hk
 | .node l a b,c,k0,hc,hl,hp,k,x,hk,hq=>by
  obtain⟨c1,c2,o1,o2,e,i1,i2,l1,l2,p1,p2⟩:=rA hc hl hp;have d1:=(dis a c1 o1 l1 p1).1;have d2:=(dis b c2 o2 l2 p2).1;have n1:=uR o1 l1 p1;rw [e]at hk;unfold gD;show(if 0<a6 l q then atT (gD keep a k0) q else atT (gD keep b (k0+aV a)) q)=_
  by_cases hlt:k<(a8 a c1).length
  ·rw [List.getElem?_append_left hlt]at hk;have hv:=d1 x (List.mem_of_getElem? hk) q hq;rw [i1]at hv;rw [if_pos hv.2];exact vR keep a c1 k0 o1 l1 p1 k x hk hq
  ·rw [List.getElem?_append_right om]at hk;have hv:=d2 x (List.mem_of_getElem? hk) q hq;rw [i2]at hv;rw [if_neg (by have:=hv.2;grind)];rw [vR keep b c2 (k0+aV a) o2 l2 p2 _ x hk hq,n1];congr 2
   omega
theorem FA {L:List Li}{q:Pq}(hq:Off L q):∀(t:Tr) (c:PC),dC c→t.lok→t.lin L→Prp t (Inn (a9 c))→Inn (a9 c) q→∃(k:Nat) (x:PC×Bool),(a8 t c)[k]? = some x∧Inn (a9 x.1) q
 | .leaf i,c,_,_,_,_,h=>⟨0,(c,i),rfl,h⟩
 | .node l a b,c,hc,hl,hn,hp,h=>by
  obtain⟨c1,c2,o1,o2,e,i1,i2,l1,l2,p1,p2⟩:=rA hc hl hp;rw [e];have hv:=hq l hn.1;rcases(by grind:0<a6 l q∨a6 l q<0)with hp|hp
  ·obtain⟨k,x,hk,hx⟩:=FA hq a c1 o1 l1 hn.2.1 p1 (by rw [i1];exact⟨h,hp⟩);exact⟨k,x,by rw [List.getElem?_append_left (List.getElem?_eq_some_iff.1 hk).1];exact hk,hx⟩
  ·obtain⟨k,x,hk,hx⟩:=FA hq b c2 o2 l2 hn.2.2 p2 (by rw [i2];exact⟨h,hp⟩);exact⟨(a8 a c1).length+k,x,by rw [List.getElem?_append_right om,Nat.add_sub_cancel_left];exact hk,hx⟩
end Go.Ab
