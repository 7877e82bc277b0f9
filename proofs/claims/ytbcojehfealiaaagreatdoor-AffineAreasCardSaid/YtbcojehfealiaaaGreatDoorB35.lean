/- Texts laid one behind the other: GwK, TmC, TqA, TmF, TmG, TmD, TmE, TmH, Prs, TqB, TqC, TcF, TqD, GwM, TmI, TmJ, TqE, TqF, TqG, ArE. -/
import Derived.Test.YtbcojehfealiaaaGreatDoorB34
set_option linter.all false
set_option maxHeartbeats 16000000
namespace Go.Ab
open Go.Proofs
variable [Base]
theorem uS (rs:List (List Pq)) (hl:rs.length≤1000) (hh:∀r∈rs,iu r):Pu Tryz.prog 87 [sL rs] (Dg rs):=by
 refine Pi Tryz.func87 fun C=>?_
 repeat(refine A1 ⟨?_⟩;intros)
 refine WP.loopS (ι:=A0) (fun y=>y.k≤rs.length∧Own 222 1 y.k ((rs.take y.k).map fun r=>[aps r]).flatten y.s y.Hs) (fun y=>rs.length-y.k)
  (fun y=>fm [(3,y.s),(6,sL rs),(7,lit (.int .i64 rs.length)),(8,lit (.int .i64 y.k))]) (fun y=>y.Hs) ⟨0,lit (.slice none 0 0),[]⟩
  ⟨Nat.zero_le _,Own.nil _ _⟩ lfA (List.nil_sublist _) ?_
 rintro ⟨k,s,Hs⟩ ⟨hk,hown⟩ K hK;simp only at hk hown⊢;have hco:=hown.co;by_cases hkl:k<rs.length
 ·obtain⟨r,hget,hmm,hat,hne⟩:=elt (f:=fun r=>[rps r]) (n:=1) (fun _=>rfl) om hkl;have hr:=hh r hmm;have c:=GJ r (by have:=hr.1;omega) (fun p hp=>by have:=hr.ht p hp;omega);have hgo:=fun s' Hs' h F' H'=>hK F' H' ⟨k+1,s',Hs'⟩ ⟨by simp only;omega,h⟩ (by simp only;omega)
  simp only [eA hget]at hgo;clear hK hh hget hmm hr;repeat(refine A1 ⟨?_⟩;intros)
  refine Wo (aa (cs':=[rps r]) rfl rfl om om hat hne) ?_;repeat(first|(refine Wo (iC (s:=aps r) (ds:=[aps r]) rfl inferInstance) ?_)|(refine Wdo (iC (s:=aps r) (ds:=[aps r]) rfl inferInstance) ?_)|(refine A1 ⟨?_⟩;intros)|refine W4 c ⟨?_⟩)
  refine jS (ds:=[aps r]) hown (Tk.same _) om (fun s' H1 hown'=>?_);have hco':=hown'.co;replace hgo:=hgo s' H1 hown';clear hown hown';repeat(refine A1 ⟨?_⟩;intros)
  exact hgo _ _ lfA Sr
 ·have hke:k=rs.length:=by omega
  subst hke;rw [List.take_length]at hown;refine WP.rowS 3 hown rfl (by rw [List.append_nil]) ?_;clear hK hown;exact Z1
theorem Gl (l:List Pq):aps l=JM (l.map fun p=>(RQ.of p.1,RQ.of p.2)):=by
 show sl _ _=sl ((l.map fun p=>(RQ.of p.1,RQ.of p.2)).map p8).flatten (l.map fun p=>(RQ.of p.1,RQ.of p.2)).length
 rw [List.map_map,List.length_map];rfl
theorem Hg {l:List Pq}(h:iu l):Pu Tryz.prog 142 [aps l] (rps l):=by
 have c:=JR (l.map fun p=>(RQ.of p.1,RQ.of p.2)) (L:=1) (by have:=h.1;rw [List.length_map];omega) (fun q hq=>by
  obtain⟨p,hp,rfl⟩:=List.mem_map.1 hq;obtain⟨h1,h2⟩:=h.ht p hp;exact⟨RQ.of_ok h1,RQ.of_ok h2⟩) om
 rw [←Gl,List.map_map,show(rvl∘fun p:Pq=>(RQ.of p.1,RQ.of p.2))=id from funext fun p=>by simp [rvl,RQ.of_v],List.map_id]at c;exact c
theorem qh (x y:Nat×TypeId×List SV) (A B:LH):(x::y::(A++B)).Perm (A++(x::y::B)):=by
 have:=(List.perm_append_comm (l₁:=[x,y]) (l₂:=A)).append_right B;simpa using this
theorem AA (x y:Nat×TypeId×List SV) (A B:LH):(x::y::(A++B)).Perm (B++(x::y::A)):=List.perm_append_comm (l₁:=x::y::A) (l₂:=B)
structure LE where
 k:Nat
 s1:SV
 H1:LH
 s2:SV
 H2:LH
def gL (rs:List (List Pq)):List Li:=((rs.map dk).flatten).map Prod.fst
theorem Cz {rs:List (List Pq)}{k:Nat}{r:List Pq}(h:rs[k]? = some r):gL (rs.take (k+1))=gL (rs.take k)++(dk r).map Prod.fst:=by
 unfold gL;rw [dM h,List.map_append,List.flatten_append,List.map_append];simp
theorem iE:∀(rs:List (List Pq)),(∀r∈rs,iu r)→(gL rs).length≤6*rs.length
 | [],_=>by simp [gL]
 |r::rs,h=>by
  have h1:=iE rs (fun r hr=>h r (Mc hr));have h2:=(h r Ms).1;have h3:=oz r;unfold gL at *;simp only [List.map_cons,List.flatten_cons,List.map_append,List.length_append,List.length_map,List.length_cons]at *;omega
theorem vw {rs:List (List Pq)}(h:∀r∈rs,iu r):∀l∈gL rs,l.sm:=fun l hl=>by
 obtain⟨f,hf,rfl⟩:=List.mem_map.1 hl;obtain⟨e,he,hfe⟩:=List.mem_flatten.1 hf;obtain⟨r,hr,rfl⟩:=List.mem_map.1 he;exact(vQ (h r hr) f hfe).1
abbrev RT:TypeId:=156
abbrev psT:TypeId:=151
theorem GZ {rs:List (List Pq)}(fill:Int) (h0:rs≠[]) (hl:rs.length≤1000) (hh:∀r∈rs,iu r):Pu Tryz.prog 86 [Dg rs,lit (.int .i64 fill)] (rgR rs fill (pu (gL rs))):=by
 have hpos:=List.length_pos_iff.2 h0;have hll:=iE rs hh;have hsm:=vw hh;have cd:=uQ (gL rs) om (fun m hm=>(hsm m hm).ile);refine Pi Tryz.func86 fun C=>?_
 repeat(refine A1 ⟨?_⟩;intros)
 rename_i b4 b5
 refine WP.loopS (ι:=LE) (fun y=>y.k≤rs.length∧Own psT 1 y.k ((rs.take y.k).map fun r=>[rps r]).flatten y.s1 y.H1∧Own lT 6 (gL (rs.take y.k)).length ((gL (rs.take y.k)).map lqx).flatten y.s2 y.H2) (fun y=>rs.length-y.k)
  (fun y=>fm [(4,lit (.pointer (some ⟨b4,0,none⟩))),(5,lit (.pointer (some ⟨b5,0,none⟩))),(6,y.s2),(14,Dg rs),(15,lit (.int .i64 rs.length)),(16,lit (.int .i64 y.k))])
  (fun y=>(b5,RT,[y.s1,lit (.int .i64 fill),lit (.slice none 0 0)])::(b4,RT,[lit (.slice none 0 0),lit (.int .i64 0),lit (.slice none 0 0)])::(y.H1++y.H2)) ⟨0,lit (.slice none 0 0),[],lit (.slice none 0 0),[]⟩
  ⟨Nat.zero_le _,Own.nil _ _,Own.nil _ _⟩ lfA Sr ?_
 rintro ⟨k,s1,H1,s2,H2⟩ ⟨hk,hown1,hown2⟩ K hK;simp only at hk hown1 hown2⊢;have hco1:=hown1.co;have hco2:=hown2.co;by_cases hkl:k<rs.length
 ·obtain⟨r,hget,hmm,hat,hne⟩:=elt (f:=fun r=>[aps r]) (n:=1) (fun _=>rfl) om hkl;have hr:=hh r hmm;have c1:=Hg hr;have c2:=tr hr;have hel:=oz r;have h6:=hr.1
  have hlk:(gL (rs.take k)).length≤6000:=by
   have:=iE (rs.take k) (fun r hr=>hh r (List.mem_of_mem_take hr));rw [List.length_take]at this;omega
  have hgo:=fun s1' H1' (h1:Own psT 1 (k+1) ((rs.take (k+1)).map fun r=>[rps r]).flatten s1' H1') s2' H2' (h2:Own lT 6 (gL (rs.take (k+1))).length ((gL (rs.take (k+1))).map lqx).flatten s2' H2') F' H'=>hK F' H' ⟨k+1,s1',H1',s2',H2'⟩ ⟨(by simp only;omega),h1,h2⟩ (by simp only;omega)
  simp only [eA hget,Cz hget]at hgo;generalize gL (rs.take k)=ls at *;generalize dk r=es at *;clear hK hh hget hmm hr cd hsm hll;repeat(refine A1 ⟨?_⟩;intros)
  refine Wo (aa (cs':=[aps r]) rfl rfl om om hat hne) ?_;repeat(first|(refine Wo (iC (s:=rps r) (ds:=[rps r]) rfl inferInstance) ?_)|(refine Wdo (iC (s:=rps r) (ds:=[rps r]) rfl inferInstance) ?_)|(refine A1 ⟨?_⟩;intros)|refine W4 c1 ⟨?_⟩)
  refine Gx (ds:=[rps r]) hown1 (qh _ _ _ _) om (fun s1' H1' hown1'=>?_);have hco1':=hown1'.co;replace hgo:=hgo s1' H1' hown1';clear hown1 hown1';refine WPL.perm (qh _ _ _ _).symm ?_;repeat(refine A1 ⟨?_⟩;intros)
  refine WPL.store (b:=b5) (o:=0) (sv:=s1') (cs':=[s1',lit (.int .i64 fill),lit (.slice none 0 0)]) rfl rfl rfl (.here _) rfl rfl ?_;repeat(first|(refine A1 ⟨?_⟩;intros)|refine W4 c2 ⟨?_⟩)
  refine WP.loopS (ι:=A0) (fun y=>y.k≤es.length∧Own lT 6 (ls++(es.take y.k).map Prod.fst).length ((ls++(es.take y.k).map Prod.fst).map lqx).flatten y.s y.Hs) (fun y=>es.length-y.k)
   (fun y=>fm [(4,lit (.pointer (some ⟨b4,0,none⟩))),(5,lit (.pointer (some ⟨b5,0,none⟩))),(6,y.s),(14,Dg rs),(15,lit (.int .i64 rs.length)),(16,lit (.int .i64 k)),(29,fqs es),(30,lit (.int .i64 es.length)),(31,lit (.int .i64 y.k))])
   (fun y=>(b5,RT,[s1',lit (.int .i64 fill),lit (.slice none 0 0)])::(b4,RT,[lit (.slice none 0 0),lit (.int .i64 0),lit (.slice none 0 0)])::(H1'++y.Hs)) ⟨0,s2,H2⟩
   ⟨Nat.zero_le _,by simpa using hown2⟩ lfA Sr ?_
  rintro ⟨j,s3,H3⟩ ⟨hj,hown3⟩ K2 hK2;simp only at hj hown3⊢;have hco3:=hown3.co;clear hown2;by_cases hjl:j<es.length
  ·obtain⟨e,hget2,hmm2,hat2,hne2⟩:=elt kj om hjl
   have hlen:(ls++(es.take (j+1)).map Prod.fst).length=(ls++(es.take j).map Prod.fst).length+1:=by
    rw [dM hget2];simp;omega
   have hcel:((ls++(es.take (j+1)).map Prod.fst).map lqx).flatten=((ls++(es.take j).map Prod.fst).map lqx).flatten++lqx e.1:=by
    rw [dM hget2,List.map_append,List.map_append,List.flatten_append,List.map_append,List.flatten_append,List.map_append,List.flatten_append,List.append_assoc];simp
   have hlb:(ls++(es.take j).map Prod.fst).length≤7000:=by rw [List.length_append,List.length_map,List.length_take];omega
   have hgo2:=fun s' Hs' h F' H'=>hK2 F' H' ⟨j+1,s',Hs'⟩ ⟨by simp only;omega,h⟩ (by simp only;omega)
   simp only [hlen,hcel]at hgo2;clear hK2 hgo hlen hcel hget2 hmm2 c1 c2;generalize(ls++(es.take j).map Prod.fst).length=nn at *;generalize((ls++(es.take j).map Prod.fst).map lqx).flatten=cc at *;repeat(refine A1 ⟨?_⟩;intros)
   refine Wo (aa (cs':=fqx e) rfl rfl om om hat2 hne2) ?_;repeat(refine A1 ⟨?_⟩;intros)
   rename_i b11;refine WPL.store (b:=b11) (o:=0) (sv:=ag (fqx e)) (cs':=fqx e) rfl rfl rfl (.here _) rfl rfl ?_;repeat(first|(refine Wo (aH (lqx e.1) rfl) ?_)|(refine Wdo (aH (lqx e.1) rfl) ?_)|(refine A1 ⟨?_⟩;intros))
   refine Gx (ds:=lqx e.1) hown3 (List.perm_append_comm (l₁:=_::_::_::H1') (l₂:=H3)) om (fun s' H1 hown'=>?_);have hco':=hown'.co;replace hgo2:=hgo2 s' H1 hown';clear hown3 hown';refine WPL.perm List.perm_append_comm ?_;simp only [List.cons_append];repeat(refine A1 ⟨?_⟩;intros)
   exact hgo2 _ _ lfA (Sc Sr)
  ·have hje:j=es.length:=by omega
   subst hje;rw [List.take_length]at hown3;replace hgo:=hgo s3 H3 hown3;clear hK2 hown3;repeat(refine A1 ⟨?_⟩;intros)
   exact hgo _ _ lfA Sr
 ·have hke:k=rs.length:=by omega
  subst hke;rw [List.take_length]at hown1 hown2;obtain⟨b1,q1,hc1,hm1,rfl,rfl⟩:=hown1.blk hpos;refine WP.rowS 6 hown2 rfl (R:=(b5,RT,[lit (.slice (some ⟨b1,0,none⟩) rs.length q1),lit (.int .i64 fill),lit (.slice none 0 0)])::(b4,RT,[lit (.slice none 0 0),lit (.int .i64 0),lit (.slice none 0 0)])::[(b1,psT,(rs.map fun r=>[rps r]).flatten++List.replicate (q1*1-rs.length*1) top)]) (List.perm_append_comm (l₁:=_::_::[_]) (l₂:=H2)) ?_;clear hK hown1 hown2 hsm hh hll;repeat(refine A1 ⟨?_⟩;intros)
  refine WPL.pubC (c1:=[]) (c2:=[lit (.int .i64 fill),lit (.slice none 0 0)]) (s':=sL rs) (.there _ (.there _ (.here _))) (.here _) (fun m arr hm ha=>uT hm ha hc1 hm1) ?_;simp only [List.nil_append];exact X1 cd
theorem wr {l:List Fg}{k:Nat}{f:Fg}{m:Li}(h:l[k]? = some f):(aK (l.take (k+1)) m).1=(aK (l.take k) m).1++(bM f m).1∧(aK (l.take (k+1)) m).2=(aK (l.take k) m).2++(bM f m).2:=by
 unfold aK;simp only;rw [dM h];simp [List.map_append,List.flatten_append]
theorem mG {L:List Li}{m:Li}:∀{l:List Fg},(∀f∈l,FgG L f)→(aK l m).1.length≤l.length∧(aK l m).2.length≤l.length
 | [],_=>⟨Nat.le_refl _,Nat.le_refl _⟩
 |f::l,h=>by
  obtain⟨h1,h2⟩:=mG (m:=m) fun g hg=>h g (Mc hg)
  obtain⟨h3,h4⟩:=oS (m:=m) (h f Ms);unfold aK at *;simp only [List.map_cons,List.flatten_cons,List.length_append,List.length_cons]at *;omega
structure FgW (L:List Li) (f:Fg):Prop where
 g:FgG L f
 l:f.1.sm
 s:f.2.le 46
theorem DM {L:List Li}{m:Li}(hm:m.sm){l:List Fg}(hl:∀f∈l,FgW L f):(∀g∈(aK l m).1,FgW L g)∧∀g∈(aK l m).2,FgW L g:=by
 have key:∀f∈l,(∀g∈(bM f m).1,FgW L g)∧∀g∈(bM f m).2,FgW L g:=fun f hf=>by
  obtain⟨h1,h2,h3⟩:=hl f hf;obtain⟨g1,g2⟩:=uH (m:=m) h1;obtain⟨k1,k2⟩:=BJ h1 h2 hm h3;exact⟨fun g hg=>⟨(g1 g hg).1,by rw [(g1 g hg).2];exact h2,k1 g hg⟩,fun g hg=>⟨(g2 g hg).1,by rw [(g2 g hg).2];exact h2,k2 g hg⟩⟩
 unfold aK;constructor
 ·intro g hg;obtain⟨a,ha,hga⟩:=List.mem_flatten.1 hg;obtain⟨f,hf,rfl⟩:=List.mem_map.1 ha;exact(key f hf).1 g hga
 ·intro g hg;obtain⟨a,ha,hga⟩:=List.mem_flatten.1 hg;obtain⟨f,hf,rfl⟩:=List.mem_map.1 ha;exact(key f hf).2 g hga
theorem zH (a b:List Fg):((a++b).map fqx).flatten=(a.map fqx).flatten++(b.map fqx).flatten:=by rw [List.map_append,List.flatten_append]
theorem uM {rs:List (List Pq)}{fill:Int}{ls:List Li}(hf:fill=1∨fill=2) (hrl:rs.length≤1000) (hrs:∀r∈rs,iu r){L:List Li}:∀(n:Nat) (l:List Fg) (c:List Li),(∀f∈l,FgW L f)→fM L l<n→(∀m∈c,m.sm)→c.length+n≤80000→l.length≤1000→
  Pu Tryz.prog 141 [rgR rs fill ls,fqs l,lqs c] (rt (gg (inR rs fill) n l c))
 |0,_,_,_,h,_,_,_=>by omega
 |n+1,[],c,_,_,hc,hd,_=>by
  have d1:=oY hc om;have h9:=CH hc;have d2:=H4 (ls:=ls) (p:=(ci c).getD (0,0)) hf hrl hrs ⟨by have:=h9.1;omega,by have:=h9.2;omega⟩;have d3:=E7 (inR rs fill ((ci c).getD (0,0)));unfold gg;clear hc h9 hrs hf;generalize inR rs fill ((ci c).getD (0,0))=bb at *;generalize(ci c).getD (0,0)=p at *;refine Pi Tryz.func141 fun C=>?_
  exact Y3 d1 d2 d3
 |n+1,f::l,c,hl,hphi,hc,hd,hlen=>by
  have hfw:=hl f Ms;have hsm:=hfw.l;have hphi2:=pK fun g hg=>(hl g hg).g
  obtain⟨w1,w2⟩:=DM hsm hl;obtain⟨n1,n2⟩:=mG (m:=f.1) fun g hg=>(hl g hg).g
  have i1:=uM (ls:=ls) hf hrl hrs n (aK (f::l) f.1).1 (c++[f.1]) w1 om (ll hc hsm) (by rw [List.length_append,List.length_singleton];omega) om;have i2:=uM (ls:=ls) hf hrl hrs n (aK (f::l) f.1).2 (c++[f.1.neg]) w2 om (ll hc hsm.neg) (by rw [List.length_append,List.length_singleton];omega) om
  have hsl:∀m:Li,lqs (c++[m])=sl ((c.map lqx).flatten++lqx m) (c.length+1):=fun m=>by
   show sl ((c++[m]).map lqx).flatten (c++[m]).length=_
   rw [oT,List.length_append,List.length_singleton]
  rw [hsl]at i1 i2;have hfl:=pe c;have d3:=qe f.1 hsm.ile;have ds:∀g∈f::l,Pu Tryz.prog 200 [ag (fqx g),lq f.1] (Ab.tup [fqs (bM g f.1).1,fqs (bM g f.1).2])∧(bM g f.1).1.length≤1∧(bM g f.1).2.length≤1:=fun g hg=>⟨BU (hl g hg).g (hl g hg).l hsm (hl g hg).s,oS (hl g hg).g⟩
  have hb1:∀k,(aK ((f::l).take k) f.1).1.length≤1000∧(aK ((f::l).take k) f.1).2.length≤1000:=fun k=>by
   obtain⟨q1,q2⟩:=mG (l:=(f::l).take k) (m:=f.1) fun g hg=>(hl g (List.mem_of_mem_take hg)).g
   rw [List.length_take]at q1 q2;omega
  show Pu _ _ _ (rt (.node f.1 (gg (inR rs fill) n (aK (f::l) f.1).1 (c++[f.1])) (gg (inR rs fill) n (aK (f::l) f.1).2 (c++[f.1.neg]))))
  generalize gg (inR rs fill) n (aK (f::l) f.1).1 (c++[f.1])=tA at *;generalize gg (inR rs fill) n (aK (f::l) f.1).2 (c++[f.1.neg])=tB at *;have hat0:=dJ (f:=fqx) (n:=14) (l:=f::l) (k:=0) kj rfl;have hne0:((f::l).map fqx).flatten≠[]:=eI kj om (by simp);have hgl:f∈f::l:=Ms;have hpl:0<(f::l).length:=by simp
  clear hl hphi hphi2 w1 w2 hsl hf hrs hfw;obtain⟨m,hm⟩:∃m,m=f.1:=⟨_,rfl⟩
  rw [←hm]at i1 i2 d3 ds hb1 n1 n2⊢;have hfq:fqx f=lqx m++spx f.2:=by rw [hm]
  rw [hfq]at hat0;generalize hxs:f::l=xs at *;clear hxs hm hfq hgl;refine Pi Tryz.func141 fun C=>?_
  repeat(first|(refine Wo (bh (sv:=ag _) rfl) ?_)|(refine Wdo (bh (sv:=ag _) rfl) ?_)|(refine A1 ⟨?_⟩;intros))
  refine Wo (aa (cs':=lqx m++spx f.2) rfl rfl om om hat0 hne0) ?_;repeat(refine A1 ⟨?_⟩;intros)
  rename_i b9;refine WPL.store (b:=b9) (o:=0) (sv:=ag (lqx m)) (cs':=lqx m) rfl rfl rfl (.here _) rfl rfl ?_;repeat(refine A1 ⟨?_⟩;intros)
  refine WP.loopS (ι:=LE) (fun y=>y.k≤xs.length∧Own fT 14 (aK (xs.take y.k) m).1.length ((aK (xs.take y.k) m).1.map fqx).flatten y.s1 y.H1∧Own fT 14 (aK (xs.take y.k) m).2.length ((aK (xs.take y.k) m).2.map fqx).flatten y.s2 y.H2) (fun y=>xs.length-y.k)
   (fun y=>fm [(2,lqs c),(3,pt [sL rs,lit (.int .i64 fill),lqs ls]),(9,lit (.pointer (some ⟨b9,0,none⟩))),(10,y.s1),(11,y.s2),(32,fqs xs),(33,lit (.int .i64 xs.length)),(34,lit (.int .i64 y.k))])
   (fun y=>(b9,lT,lqx m)::(y.H1++y.H2)) ⟨0,lit (.slice none 0 0),[],lit (.slice none 0 0),[]⟩
   ⟨Nat.zero_le _,Own.nil _ _,Own.nil _ _⟩ lfA Sr ?_
  rintro ⟨k,s1,H1,s2,H2⟩ ⟨hk,hown1,hown2⟩ K hK;simp only at hk hown1 hown2⊢;have hco1:=hown1.co;have hco2:=hown2.co;by_cases hkl:k<xs.length
  ·obtain⟨g,hget,hmm,hat,hne⟩:=elt kj om hkl;obtain⟨dg,g1,g2⟩:=ds g hmm;obtain⟨r1,r2⟩:=hb1 k;obtain⟨e1,e2⟩:=wr (m:=m) hget;have hgo:=fun s1' H1' (h1:Own fT 14 (aK (xs.take (k+1)) m).1.length ((aK (xs.take (k+1)) m).1.map fqx).flatten s1' H1') s2' H2' (h2:Own fT 14 (aK (xs.take (k+1)) m).2.length ((aK (xs.take (k+1)) m).2.map fqx).flatten s2' H2') F' H'=>hK F' H' ⟨k+1,s1',H1',s2',H2'⟩ ⟨(by simp only;omega),h1,h2⟩ (by simp only;omega)
   rw [e1,e2,zH,zH,List.length_append,List.length_append]at hgo;have f1:(((bM g m).1.map fqx).flatten).length=(bM g m).1.length*14:=cJ kj _;have f2:(((bM g m).2.map fqx).flatten).length=(bM g m).2.length*14:=cJ kj _;clear hK hget hmm i1 i2 d3 ds hb1 hfl hat0 hne0 e1 e2;generalize(bM g m).1=A at *;generalize(bM g m).2=B at *;generalize(aK (xs.take k) m).1.length=m1 at *;generalize(aK (xs.take k) m).2.length=m2 at *;generalize((aK (xs.take k) m).1.map fqx).flatten=q1 at *;generalize((aK (xs.take k) m).2.map fqx).flatten=q2 at *;repeat(refine A1 ⟨?_⟩;intros)
   refine Wo (aa (cs':=fqx g) rfl rfl om om hat hne) ?_;repeat(refine A1 ⟨?_⟩;intros)
   rename_i b13;refine WPL.store (b:=b13) (o:=0) (sv:=ag (fqx g)) (cs':=fqx g) rfl rfl rfl (.here _) rfl rfl ?_;repeat(first|(refine A1 ⟨?_⟩;intros)|refine W4 dg ⟨?_⟩)
   refine zZ (k0:=A.length) (ds:=(A.map fqx).flatten) hown1 (qh _ _ _ _) om f1 (fun s1' H1' hown1'=>?_);have hco1':=hown1'.co;replace hgo:=hgo s1' H1' hown1';clear hown1 hown1';refine WPL.perm (qh _ _ _ _).symm ?_;repeat(refine A1 ⟨?_⟩;intros)
   refine zZ (k0:=B.length) (ds:=(B.map fqx).flatten) hown2 (AA _ _ _ _) om f2 (fun s2' H2' hown2'=>?_);have hco2':=hown2'.co;replace hgo:=hgo s2' H2' hown2';clear hown2 hown2';refine WPL.perm (AA _ _ _ _).symm ?_;repeat(refine A1 ⟨?_⟩;intros)
   exact hgo _ _ lfA (Sc Sr)
  ·have hke:k=xs.length:=by omega
   subst hke;rw [List.take_length]at hown1 hown2;refine WP.rowS 11 hown2 rfl (R:=(b9,lT,lqx m)::H1) (List.perm_append_comm (l₁:=_::H1) (l₂:=H2)) ?_;refine WP.rowS 10 hown1 rfl (R:=[(b9,lT,lqx m)]) (List.perm_append_comm (l₁:=[_]) (l₂:=H1)) ?_;clear hK hown1 hown2 ds hb1 hat0 hne0;generalize(aK xs m).1=A at *;generalize(aK xs m).2=B at *;rw [show rt (.node m tA tB)=pt (rc (.node m tA tB))from rfl,ly];by_cases h0:c=[]
   ·subst h0;clear hfl hc;repeat(first|(refine AS ⟨?_⟩;intros)|(refine O1 ⟨?_⟩;intros))
    repeat(first|(refine Wo (lL) ?_)|(refine Wdo (lL) ?_)|(refine Wo (jE rfl rfl) ?_)|(refine Wdo (jE rfl rfl) ?_)|(refine Wo (cg (r:=[(0,lqx m)]) (cs:=lqx m) (.cons (sv:=ag (lqx m)) rfl inferInstance .nil)) ?_)|(refine Wdo (cg (r:=[(0,lqx m)]) (cs:=lqx m) (.cons (sv:=ag (lqx m)) rfl inferInstance .nil)) ?_)|(refine Wo (cg (r:=[(0,lqx m.neg)]) (cs:=lqx m.neg) (.cons (sv:=ag (lqx m.neg)) rfl inferInstance .nil)) ?_)|(refine Wdo (cg (r:=[(0,lqx m.neg)]) (cs:=lqx m.neg) (.cons (sv:=ag (lqx m.neg)) rfl inferInstance .nil)) ?_)|(refine Wo (aG (k:=0) (k0:=1) (ds:=lqx m) rfl rfl rfl rfl om) ?_)|(refine Wdo (aG (k:=0) (k0:=1) (ds:=lqx m) rfl rfl rfl rfl om) ?_)|(refine Wo (aG (k:=0) (k0:=1) (ds:=lqx m.neg) rfl rfl rfl rfl om) ?_)|(refine Wdo (aG (k:=0) (k0:=1) (ds:=lqx m.neg) rfl rfl rfl rfl om) ?_)|(refine Wo (bh (sv:=ag _) rfl) ?_)|(refine Wdo (bh (sv:=ag _) rfl) ?_)|(refine A1 ⟨?_⟩;intros)|refine W4 i1 ⟨?_⟩|refine W4 i2 ⟨?_⟩|refine W4 d3 ⟨?_⟩)
    exact E1
   ·have hpos:=List.length_pos_iff.2 h0;clear hc h0;repeat(first|(refine AS ⟨?_⟩;intros)|(refine O1 ⟨?_⟩;intros))
    refine WdZ 22 [0,1,2,3,4,6,7,10,11,12,13,15,5,8,9,14,16,17,18,19,20,21] [5,8,14,18] [] [(b9,lT,lqx m)] ?_;refine ZkD 12 ?_;repeat(first|(refine Wo (iU) ?_)|(refine Wdo (iU) ?_)|(refine Wo (cg (r:=[(0,lqx m)]) (cs:=lqx m) (.cons (sv:=ag (lqx m)) rfl inferInstance .nil)) ?_)|(refine Wdo (cg (r:=[(0,lqx m)]) (cs:=lqx m) (.cons (sv:=ag (lqx m)) rfl inferInstance .nil)) ?_)|(refine A1 ⟨?_⟩;intros))
    refine Ct ?_;refine ZkE rfl rfl hfl om om (fun s' H' hown=>?_) (hyx:=fun h=>by cases h);refine ZkP hown om ?_;refine ZkD 1 ?_;repeat(first|(refine A1 ⟨?_⟩;intros)|refine W4 i1 ⟨?_⟩)
    refine Ct ?_;refine ZkE rfl rfl hfl om om (fun s' H' hown=>?_) (hyx:=fun h=>by cases h);refine ZkD 2 ?_;repeat(first|(refine Wo (cg (r:=[(0,lqx m.neg)]) (cs:=lqx m.neg) (.cons (sv:=ag (lqx m.neg)) rfl inferInstance .nil)) ?_)|(refine Wdo (cg (r:=[(0,lqx m.neg)]) (cs:=lqx m.neg) (.cons (sv:=ag (lqx m.neg)) rfl inferInstance .nil)) ?_)|(refine A1 ⟨?_⟩;intros)|refine W4 d3 ⟨?_⟩)
    refine Ct ?_;refine ZkP hown om ?_;refine ZkD 3 ?_;repeat(first|(refine Wo (bh (sv:=ag _) rfl) ?_)|(refine Wdo (bh (sv:=ag _) rfl) ?_)|(refine A1 ⟨?_⟩;intros)|refine W4 i2 ⟨?_⟩)
    refine Ct ?_;refine ZkN ?_;exact Z1
theorem C6 {rs:List (List Pq)}{fill:Int}{ls:List Li}(hf:fill=1∨fill=2) (hrl:rs.length≤20) (hrs:∀r∈rs,iu r) :
  Pu Tryz.prog 85 [rgR rs fill ls] (rt (cG (gg (inR rs fill) (20000) ((rs.map dk).flatten) []) [])):=by
 have hlen:((rs.map dk).flatten).length≤120:=by have:=iE rs hrs;unfold gL at this;rw [List.length_map]at this;omega
 have hfw:∀f∈(rs.map dk).flatten,FgW (gL rs) f:=fun f hf=>by
  obtain⟨e,he,hfe⟩:=List.mem_flatten.1 hf;obtain⟨r,hr,rfl⟩:=List.mem_map.1 he;obtain⟨q1,q2,q3⟩:=vQ (hrs r hr) f hfe;exact⟨q3 _ (List.mem_map.2 ⟨f,hf,rfl⟩),q1,⟨by have:=q2.1;omega,by have:=q2.2;omega⟩⟩
 have hL:=vw hrs;have hLl:=iE rs hrs;have hphi:fM (gL rs) (rs.map dk).flatten≤120*121:=Nat.le_trans (uX _ _) (Nat.mul_le_mul hlen om);have ir:=uM (ls:=ls) hf om hrs 20000 ((rs.map dk).flatten) [] hfw om (fun m h=>by cases h) (by simp) om;have ir':=ir.arg (l':=[rgR rs fill ls,fqs (rs.map dk).flatten,lit (.slice none 0 0)]) ⟨Le.refl _,Le.refl _,ft,trivial⟩;obtain⟨z1,z2,z3⟩:=lG (inR rs fill) 20000 ((rs.map dk).flatten) [] (fun f hf=>(hfw f hf).g) (show fM (gL rs) _<20000 by omega);have cr:=yE (gg (inR rs fill) 20000 (rs.map dk).flatten []) (z3.all hL) om;have de:∀r∈rs,Pu Tryz.prog 140 [rps r] (fqs (dk r))∧(dk r).length≤6:=fun r hr=>⟨tr (hrs r hr),by rw [oz];exact(hrs r hr).1⟩
 have hb:∀k,(((rs.take k).map dk).flatten).length≤120:=fun k=>by
  have:=iE (rs.take k) (fun r hr=>hrs r (List.mem_of_mem_take hr));unfold gL at this;rw [List.length_map,List.length_take]at this;omega
 clear hfw hL hLl hphi ir z1 z2 z3 hlen;generalize gg (inR rs fill) 20000 (rs.map dk).flatten []=raw at *;generalize cG raw []=red at *;refine Pi Tryz.func85 fun C=>?_
 repeat(first|(refine Wo (bh (sv:=ag _) rfl) ?_)|(refine Wdo (bh (sv:=ag _) rfl) ?_)|(refine A1 ⟨?_⟩;intros))
 refine WP.loopS (ι:=A0) (fun y=>y.k≤rs.length∧Own fT 14 (((rs.take y.k).map dk).flatten).length ((((rs.take y.k).map dk).flatten).map fqx).flatten y.s y.Hs) (fun y=>rs.length-y.k)
  (fun y=>fm [(1,pt [sL rs,lit (.int .i64 fill),lqs ls]),(3,y.s),(7,sL rs),(8,lit (.int .i64 rs.length)),(9,lit (.int .i64 y.k))]) (fun y=>y.Hs) ⟨0,lit (.slice none 0 0),[]⟩
  ⟨Nat.zero_le _,Own.nil _ _⟩ lfA (List.nil_sublist _) ?_
 rintro ⟨k,s,Hs⟩ ⟨hk,hown⟩ K hK;simp only at hk hown⊢;have hco:=hown.co;by_cases hkl:k<rs.length
 ·obtain⟨r,hget,hmm,hat,hne⟩:=elt (f:=fun r=>[rps r]) (n:=1) (fun _=>rfl) om hkl;obtain⟨c,h6⟩:=de r hmm;have hbk:=hb k;have hgo:=fun s' Hs' h F' H'=>hK F' H' ⟨k+1,s',Hs'⟩ ⟨by simp only;omega,h⟩ (by simp only;omega)
  simp only [eA hget,zH,List.length_append]at hgo;have f1:(((dk r).map fqx).flatten).length=(dk r).length*14:=cJ kj _;clear hK hget hmm de hb ir' cr;generalize dk r=A at *;generalize(((rs.take k).map dk).flatten).length=m1 at *;generalize((((rs.take k).map dk).flatten).map fqx).flatten=q1 at *;repeat(refine A1 ⟨?_⟩;intros)
  refine Wo (aa (cs':=[rps r]) rfl rfl om om hat hne) ?_;repeat(first|(refine A1 ⟨?_⟩;intros)|refine W4 c ⟨?_⟩)
  refine Gy (k0:=A.length) (ds:=(A.map fqx).flatten) hown (Tk.same _) om f1 (fun s' H1 hown'=>?_);have hco':=hown'.co;replace hgo:=hgo s' H1 hown';clear hown hown';repeat(refine A1 ⟨?_⟩;intros)
  exact hgo _ _ lfA Sr
 ·have hke:k=rs.length:=by omega
  subst hke;rw [List.take_length]at hown;refine WP.rowS 3 hown rfl (by rw [List.append_nil]) ?_;clear hK hown de hb;exact Y2 ir' cr
inductive F2 {α β:Type}(R:α→β→Prop):List α→List β→Prop
 |nil:F2 R [] []
 |cons {a:α}{b:β}{l:List α}{m:List β}(h:R a b) (k:F2 R l m):F2 R (a::l) (b::m)
theorem F2.app {α β:Type}{R:α→β→Prop}{l m:List α}{l' m':List β}(h:F2 R l l') (k:F2 R m m'):F2 R (l++m) (l'++m'):=by
 induction h with
 |nil=>exact k
 |cons h _ ih=>exact .cons h ih
theorem F2.len {α β:Type}{R:α→β→Prop}{l:List α}{l':List β}(h:F2 R l l'):l.length=l'.length:=by
 induction h with
 |nil=>rfl
 |cons _ _ ih=>rw [List.length_cons,List.length_cons,ih]
def lvs:Tr→List Bool
 | .leaf i=>[i]
 | .node _ a b=>lvs a++lvs b
theorem vv:∀t:Tr,(lvs t).length=cD t
 | .leaf _=>rfl
 | .node _ a b=>by unfold lvs cD;rw [List.length_append,vv a,vv b]
structure CR (x:PC×Bool) (y:List Li×Bool):Prop where
 f:x.2=y.2
 p:bZ x.1
 m:∀m,m∈ac x.1↔m∈y.1
 ok:∀l∈y.1,l.ok
theorem y9 {d:List Li}(hd:∀l∈d,l.ok) (hn:∃q,Inn d q):d=[]∨dF d≠[]:=by
 cases d with
 |nil=>exact .inl rfl
 |cons l d =>
  refine .inr fun e=>?_
  obtain⟨q,_,hq⟩:=(Ff (hd l Ms)).2;have h:=(iL hd hn q).1 (by rw [e];exact fun l h=>by cases h);have:=h l Ms;grind
theorem par:∀(t:Tr) (c:PC) (d:List Li),bZ c→(∀l∈d,l.ok)→(∀q,Inn (ac c) q↔Inn d q)→t.lok→Prp t (Inn (ac c))→
  F2 CR (aN t c) (pE t d)∧(aN t c).map Prod.snd=lvs t
 | .leaf i,c,d,hc,hd,he,_,_=>by
  have hn:∃q,Inn d q:=by obtain⟨q,hq⟩:=hc.inn;exact⟨q,(he q).1 hq⟩
  unfold aN pE;rw [if_pos (y9 hd hn)];have hok:∀l∈dF d,l.ok:=fun l hl=>hd l ((fG hd).1 hl).1
  exact⟨.cons ⟨rfl,hc,qS hc hok (fun l hl=>zT hd hl) (fun q=>(he q).trans (iL hd hn q).symm),hok⟩ .nil,rfl⟩
 | .node l a b,c,d,hc,hd,he,hl,hp=>by
  have hn:∃q,Inn d q:=by obtain⟨q,hq⟩:=hc.inn;exact⟨q,(he q).1 hq⟩
  have hok:∀l∈dF d,l.ok:=fun l hl=>hd l ((fG hd).1 hl).1
  obtain⟨hl0,hla,hlb⟩:=hl;obtain⟨p1,p2,p3,p4⟩:=hp
  have q2:Lft (Inn (ac c)) l.neg:=by
   obtain⟨q,h1,h2⟩:=p2;exact⟨q,h1,by rw [cA];grind⟩
  have k1:=(ij hc hl0 (aP l)).2 p1;have k2:=(ij hc (Li.ok.neg hl0) (aP l.neg)).2 q2;obtain⟨g1,g2⟩:=gP hc hl0 (aP l) (d:=(bs (aP l) c l).1) (by rw [←k1]);obtain⟨g3,g4⟩:=gP hc (Li.ok.neg hl0) (aP l.neg) (d:=(bs (aP l.neg) c l.neg).1) (by rw [←k2])
  have g5:Inn (ac (bs (aP l.neg) c l.neg).1)=fun q=>Inn (ac c) q∧a8 l q<0:=by
   rw [g4];funext q;rw [cA];exact propext ⟨fun h=>⟨h.1,by have:=h.2;grind⟩,fun h=>⟨h.1,by have:=h.2;grind⟩⟩
  unfold aN pE;rw [if_pos (y9 hd hn),if_pos k1,if_pos k2];obtain⟨i1,j1⟩:=par a (bs (aP l) c l).1 (dF d++[l]) g1 (gY hok hl0) (fun q=>by rw [g2,dN,iL hd hn];exact⟨fun h=>⟨(he q).1 h.1,h.2⟩,fun h=>⟨(he q).2 h.1,h.2⟩⟩) hla (by rw [g2];exact p3);obtain⟨i2,j2⟩:=par b (bs (aP l.neg) c l.neg).1 (dF d++[l.neg]) g3 (gY hok (Li.ok.neg hl0)) (fun q=>by rw [g4,dN,iL hd hn];exact⟨fun h=>⟨(he q).1 h.1,h.2⟩,fun h=>⟨(he q).2 h.1,h.2⟩⟩) hlb (by rw [g5];exact p4);refine⟨i1.app i2,?_⟩;rw [List.map_append,j1,j2];rfl
abbrev Dis (x y:PC×Bool):Prop:=∀q,Inn (ac x.1) q→¬Inn (ac y.1) q
theorem dis:∀(t:Tr) (c:PC),bZ c→t.lok→Prp t (Inn (ac c))→(∀x∈aN t c,∀q,Inn (ac x.1) q→Inn (ac c) q)∧(aN t c).Pairwise Dis
 | .leaf i,c,_,_,_=>⟨fun x hx q h=>by unfold aN at hx;rw [List.mem_singleton.1 hx]at h;exact h,List.pairwise_singleton _ _⟩
 | .node l a b,c,hc,hl,hp=>by
  obtain⟨hl0,hla,hlb⟩:=hl;obtain⟨p1,p2,p3,p4⟩:=hp
  have q2:Lft (Inn (ac c)) l.neg:=by
   obtain⟨q,h1,h2⟩:=p2;exact⟨q,h1,by rw [cA];grind⟩
  have k1:=(ij hc hl0 (aP l)).2 p1;have k2:=(ij hc (Li.ok.neg hl0) (aP l.neg)).2 q2;obtain⟨g1,g2⟩:=gP hc hl0 (aP l) (d:=(bs (aP l) c l).1) (by rw [←k1]);obtain⟨g3,g4⟩:=gP hc (Li.ok.neg hl0) (aP l.neg) (d:=(bs (aP l.neg) c l.neg).1) (by rw [←k2])
  have g5:Inn (ac (bs (aP l.neg) c l.neg).1)=fun q=>Inn (ac c) q∧a8 l q<0:=by
   rw [g4];funext q;rw [cA];exact propext ⟨fun h=>⟨h.1,by have:=h.2;grind⟩,fun h=>⟨h.1,by have:=h.2;grind⟩⟩
  obtain⟨i1,j1⟩:=dis a (bs (aP l) c l).1 g1 hla (by rw [g2];exact p3);obtain⟨i2,j2⟩:=dis b (bs (aP l.neg) c l.neg).1 g3 hlb (by rw [g5];exact p4)
  have r1:∀x∈aN a (bs (aP l) c l).1,∀q,Inn (ac x.1) q→Inn (ac c) q∧0<a8 l q:=fun x hx q h=>by
   have:=i1 x hx q h;rw [g2]at this;exact this
  have r2:∀x∈aN b (bs (aP l.neg) c l.neg).1,∀q,Inn (ac x.1) q→Inn (ac c) q∧a8 l q<0:=fun x hx q h=>by
   have:=i2 x hx q h;rw [g5]at this;exact this
  unfold aN;rw [if_pos k1,if_pos k2];refine⟨fun x hx q h=>?_,?_⟩
  ·rcases List.mem_append.1 hx with hx|hx
   ·exact(r1 x hx q h).1
   ·exact(r2 x hx q h).1
  ·refine List.pairwise_append.2 ⟨j1,j2,fun x hx y hy q h1 h2=>?_⟩;have a1:=(r1 x hx q h1).2;have a2:=(r2 y hy q h2).2;grind
theorem yb (c:PC):bndP c=true↔(∀s∈c,¬(s.2.nl=true∨s.2.nh=true))∧0<c.length:=by
 unfold bndP;rw [Bool.and_eq_true,List.all_eq_true,decide_eq_true_iff];refine and_congr ⟨fun h s hs=>?_,fun h s hs=>?_⟩ Iff.rfl
 ·have:=h s hs;cases h1:s.2.nl <;> cases h2:s.2.nh <;> simp_all
 ·have:=h s hs;cases h1:s.2.nl <;> cases h2:s.2.nh <;> simp_all
abbrev ye (ls:List Li) (d:Pq):Prop:=∀m∈ls,0≤(m.a:Rat)*d.1+(m.b:Rat)*d.2
theorem rA {c:PC}(hc:bZ c):bndP c=false↔∃d:Pq,(d.1≠0∨d.2≠0)∧ye (ac c) d:=by
 rw [←Bool.not_eq_true,yb];by_cases h:c=[]
 ·subst h;exact⟨fun _=>⟨(1,0), .inl (by decide +kernel),fun m hm=>by cases hm⟩,fun _ k=>by have:=k.2;simp at this⟩
 ·have h0:0<c.length:=List.length_pos_iff.2 h;rw [←EK hc h];constructor
  ·intro k;apply Classical.byContradiction;intro n;exact k ⟨fun s hs ho=>n ⟨s,hs,ho⟩,h0⟩
  ·rintro ⟨s,hs,ho⟩ k;exact k.1 s hs ho
theorem Hn {t:Tr}{c:PC}(hc:bZ c) (hl:t.lok) (hp:Prp t (Inn (ac c))):(aN t c).length=cD t:=by
 have h:=(par t c (ac c) hc (fun l hl=>by
  unfold ac at hl;obtain⟨s,hs,rfl⟩:=List.mem_map.1 hl;exact hc.ok s hs) (fun q=>Iff.rfl) hl hp).2
 have:=congrArg List.length h;rw [List.length_map,vv]at this;exact this
theorem mL {l:Li}{a b:Tr}{c:PC}(hc:bZ c) (hl:(Tr.node l a b).lok) (hp:Prp (.node l a b) (Inn (ac c))) :
  ∃c1 c2:PC,bZ c1∧bZ c2∧aN (.node l a b) c=aN a c1++aN b c2∧(Inn (ac c1)=fun q=>Inn (ac c) q∧0<a8 l q)∧(Inn (ac c2)=fun q=>Inn (ac c) q∧a8 l q<0)∧a.lok∧b.lok∧Prp a (Inn (ac c1))∧Prp b (Inn (ac c2)):=by
 obtain⟨hl0,hla,hlb⟩:=hl;obtain⟨p1,p2,p3,p4⟩:=hp
 have q2:Lft (Inn (ac c)) l.neg:=by
  obtain⟨q,h1,h2⟩:=p2;exact⟨q,h1,by rw [cA];grind⟩
 have k1:=(ij hc hl0 (aP l)).2 p1;have k2:=(ij hc (Li.ok.neg hl0) (aP l.neg)).2 q2;obtain⟨g1,g2⟩:=gP hc hl0 (aP l) (d:=(bs (aP l) c l).1) (by rw [←k1]);obtain⟨g3,g4⟩:=gP hc (Li.ok.neg hl0) (aP l.neg) (d:=(bs (aP l.neg) c l.neg).1) (by rw [←k2])
 have g5:Inn (ac (bs (aP l.neg) c l.neg).1)=fun q=>Inn (ac c) q∧a8 l q<0:=by
  rw [g4];funext q;rw [cA];exact propext ⟨fun h=>⟨h.1,by have:=h.2;grind⟩,fun h=>⟨h.1,by have:=h.2;grind⟩⟩
 refine⟨_,_,g1,g3,?_,g2,g5,hla,hlb,by rw [g2];exact p3,by rw [g5];exact p4⟩;rw [aN,if_pos k1,if_pos k2]
theorem zV (keep:Nat→Bool){q:Pq}:∀(t:Tr) (c:PC) (k0:Nat),bZ c→t.lok→Prp t (Inn (ac c))→∀(k:Nat) (x:PC×Bool),(aN t c)[k]? = some x→Inn (ac x.1) q→atT (uJ keep t k0) q=(x.2&&keep (k0+k))
 | .leaf i,c,k0,_,_,_,k,x,hk,_=>by
  unfold aN at hk;cases k with
  |zero=>simp only [List.getElem?_cons_zero,Option.some.injEq]at hk;rw [←hk];rfl
  |succ k=>simp at hk
 | .node l a b,c,k0,hc,hl,hp,k,x,hk,hq=>by
  obtain⟨c1,c2,o1,o2,e,i1,i2,l1,l2,p1,p2⟩:=mL hc hl hp;have d1:=(dis a c1 o1 l1 p1).1;have d2:=(dis b c2 o2 l2 p2).1;have n1:=Hn o1 l1 p1;rw [e]at hk;unfold uJ;show(if 0<a8 l q then atT (uJ keep a k0) q else atT (uJ keep b (k0+cD a)) q)=_
  by_cases hlt:k<(aN a c1).length
  ·rw [List.getElem?_append_left hlt]at hk;have hv:=d1 x (List.mem_of_getElem? hk) q hq;rw [i1]at hv;rw [if_pos hv.2];exact zV keep a c1 k0 o1 l1 p1 k x hk hq
  ·rw [List.getElem?_append_right om]at hk;have hv:=d2 x (List.mem_of_getElem? hk) q hq;rw [i2]at hv;rw [if_neg (by have:=hv.2;grind)];rw [zV keep b c2 (k0+cD a) o2 l2 p2 _ x hk hq,n1];congr 2
   omega
theorem F2.left {α β:Type}{R:α→β→Prop}{l:List α}{m:List β}(h:F2 R l m):∀{x:α},x∈l→∃z∈m,R x z:=by
 induction h with
 |nil=>intro x hx;cases hx
 |cons h _ ih =>
  intro x hx;rcases List.mem_cons.1 hx with e|hx
  ·exact⟨_,Ms,e▸h⟩
  ·obtain⟨z,hz,hr⟩:=ih hx;exact⟨z,Mc hz,hr⟩
theorem qV:∀(t:Tr) (k:Nat),uJ (fun _=>true) t k=t
 | .leaf i,_=>by unfold uJ;rw [Bool.and_true]
 | .node l a b,k=>by unfold uJ;rw [qV a,qV b]
theorem IS {t:Tr}(hl:t.lok) (hp:Prp t (Inn [])){q:Pq}{k:Nat}{x:PC×Bool}(hk:(aN t [])[k]? = some x) (hq:Inn (ac x.1) q):atT t q=x.2:=by
 have:=zV (fun _=>true) t [] 0 bZ.nil hl hp k x hk hq;rwa [qV,Bool.and_true]at this
theorem Hl {t:Tr}(hl:t.lok) (hp:Prp t (Inn [])):F2 CR (aN t []) (pE t []):=(par t [] [] bZ.nil (fun l h=>by cases h) (fun q=>Iff.rfl) hl hp).1
theorem yU {m:M6 Rat}(h:m.det≠0):∀{t:Tr}{I I':Pq→Prop},(∀q,I' q↔I (m.inv.app q))→t.lok→Prp t I→Prp (t.im m) I'
 | .leaf _,_,_,_,_,_=>trivial
 | .node l a b,I,I',hI,hl,⟨h1,h2,h3,h4⟩=>by
  obtain⟨k,hk,e,_⟩:=iI h hl.1
  have neg:∀v:Rat,k*v<0↔v<0:=fun v=>by
   have:=eE (v := -v) hk;constructor
   ·intro x;have:=this.1 (by grind);grind
   ·intro x;have:=this.2 (by grind);grind
  refine⟨?_,?_,yU h (fun q=>?_) hl.2.1 h3,yU h (fun q=>?_) hl.2.2 h4⟩
  ·obtain⟨q,q1,q2⟩:=h1;exact⟨m.app q,(hI _).2 (by rw [j5 h];exact q1),by rw [e,j5 h];exact Rat.mul_pos hk q2⟩
  ·obtain⟨q,q1,q2⟩:=h2;exact⟨m.app q,(hI _).2 (by rw [j5 h];exact q1),by rw [e,j5 h];exact(neg _).2 q2⟩
  ·show I' q∧0<a8 (l.im m) q↔_
   rw [hI,e,eE hk]
  ·show I' q∧a8 (l.im m) q<0↔_
   rw [hI,e,neg]
theorem rM {m:M6 Rat}(h:m.det≠0):∀{t:Tr},t.lok→(t.im m).lok
 | .leaf _,_=>trivial
 | .node _ _ _,hl=>⟨Li.im_ok h hl.1,rM h hl.2.1,rM h hl.2.2⟩
theorem rk {m:M6 Rat}:∀(t:Tr) (c c':PC),ImP m c c'→t.lok→Prp t (Inn (ac c))→F2 (fun x y:PC×Bool=>ImP m x.1 y.1∧x.2=y.2) (aN t c) (aN (t.im m) c')
 | .leaf i,c,c',h,_,_ => .cons ⟨h,rfl⟩ .nil
 | .node l a b,c,c',h,hl,hp=>by
  obtain⟨c1,c2,o1,o2,e,i1,i2,l1,l2,p1,p2⟩:=mL h.x hl hp;have hl':=rM h.d hl;have hp':=yU (I':=Inn (ac c')) h.d h.e hl hp;obtain⟨d1,d2,q1,q2,e',j1,j2,_,_,_,_⟩:=mL (l:=l.im m) (a:=a.im m) (b:=b.im m) h.y hl' hp';obtain⟨k,hk,ev,_⟩:=iI h.d hl.1
  have neg:∀v:Rat,k*v<0↔v<0:=fun v=>by
   have:=eE (v := -v) hk;constructor
   ·intro x;have:=this.1 (by grind);grind
   ·intro x;have:=this.2 (by grind);grind
  have r1:=rk a c1 d1 ⟨h.d,o1,q1,fun q=>by
   rw [i1,j1];show Inn (ac c') q∧0<a8 (l.im m) q↔_
   rw [h.e,ev,eE hk]⟩ l1 p1
  have r2:=rk b c2 d2 ⟨h.d,o2,q2,fun q=>by
   rw [i2,j2];show Inn (ac c') q∧a8 (l.im m) q<0↔_
   rw [h.e,ev,neg]⟩ l2 p2
  rw [e];show F2 _ _ (aN (.node (l.im m) (a.im m) (b.im m)) c')
  rw [e'];exact r1.app r2
theorem p9:∀(t:Tr) (c:PC),bZ c→fI c→t.lok→∀x∈aN t c,bZ x.1∧fI x.1
 | .leaf i,c,h,ho,_,x,hx=>by
  unfold aN at hx;rw [List.mem_singleton.1 hx];exact⟨h,ho⟩
 | .node l a b,c,h,ho,hl,x,hx=>by
  unfold aN at hx
  have key:∀(k:Li) (t:Tr),k.ok→t.lok→(∀c,bZ c→fI c→∀x∈aN t c,bZ x.1∧fI x.1)→x∈(if(bs (aP k) c k).2 then aN t (bs (aP k) c k).1 else [])→bZ x.1∧fI x.1:=fun k t hk _ ih hx=>by
   split at hx
   ·rename_i e;have e2:bs (aP k) c k=((bs (aP k) c k).1,true):=Prod.ext rfl e;exact ih _ (gP h hk (aP k) e2).1 (G0 h ho hk e2) x hx
   ·cases hx
  rcases List.mem_append.1 hx with hx|hx
  ·exact key l a hl.1 hl.2.1 (fun c h1 h2=>p9 a c h1 h2 hl.2.1) hx
  ·exact key l.neg b (Li.ok.neg hl.1) hl.2.2 (fun c h1 h2=>p9 b c h1 h2 hl.2.2) hx
theorem HY:fI []:=List.Pairwise.nil
theorem Ks {m:M6 Rat}(h:m.det≠0):ImP m [] []:=⟨h,bZ.nil,bZ.nil,fun q=>⟨fun _=>lO _,fun _=>lO _⟩⟩
theorem ImP.bnd {m:M6 Rat}{c c':PC}(h:ImP m c c'):bndP c'=bndP c:=by
 have key:bndP c'=false↔bndP c=false:=by
  rw [rA h.y,rA h.x]
  have op:∀d,ye (ac c') d↔ye (ac c) (rS m d):=fun d=>by
   have nn:∀{k v:Rat},0<k→(0≤k*v↔0≤v):=fun {k v} hk=>by
    constructor
    ·intro x;apply Classical.byContradiction;intro y;have:=Rat.mul_pos hk (show 0 < -v by grind);grind
    ·exact Rat.mul_nonneg (Rat.le_of_lt hk)
   constructor
   ·intro g j hj;obtain⟨k,hk,_,e⟩:=iI h.d (h.x.lok j hj);have:=g _ ((h.sides _).2 (List.mem_map.2 ⟨j,hj,rfl⟩));have e2:=e d;unfold oB at e2;rw [e2,nn hk]at this;exact this
   ·intro g i hi;obtain⟨j,hj,rfl⟩:=List.mem_map.1 ((h.sides i).1 hi);obtain⟨k,hk,_,e⟩:=iI h.d (h.x.lok j hj);have e2:=e d;unfold oB at e2;rw [e2,nn hk];exact g j hj
  have lin_inv:∀d,kf m (rS m d)=d:=fun d=>by
   have hdi:m.inv.det≠0:=by
    rw [M6.inv_det h.d];intro c;have:=Rat.mul_inv_cancel _ h.d;rw [c]at this;grind
   have:=o8 hdi d;unfold rS kf at this⊢;rw [M6.inv_inv h.d]at this;exact this
  constructor
  ·rintro ⟨d,d0,ho⟩;refine⟨rS m d,?_,(op d).1 ho⟩;have:=d0;apply Classical.byContradiction;intro z;have z1:(rS m d).1=0:=Classical.byContradiction fun e=>z (.inl e)
   have z2:(rS m d).2=0:=Classical.byContradiction fun e=>z (.inr e)
   have e:=lin_inv d;unfold kf at e;rw [z1,z2]at e;have a1:=congrArg Prod.fst e;have a2:=congrArg Prod.snd e;simp only at a1 a2;grind
  ·rintro ⟨d,d0,ho⟩;exact⟨kf m d,Kp h.d d0,(op _).2 (by rw [o8 h.d];exact ho)⟩
 cases h1:bndP c' <;> cases h2:bndP c <;> simp_all
theorem qx {c:PC}(h:bndP c=true):Bdd c:=fun s hs=>by
 have:=((yb c).1 h).1 s hs;constructor
 ·cases e:s.2.nl with
  |false=>rfl
  |true=>exact absurd (.inl e) this
 ·cases e:s.2.nh with
  |false=>rfl
  |true=>exact absurd (.inr e) this
def inC (t:Tr):List PC:=((aN t []).filter fun x=>x.2).map Prod.fst
theorem Ld {m:M6 Rat}{l l':Pts}(h:F2 (fun x y:PC×Bool=>ImP m x.1 y.1∧x.2=y.2) l l'):F2 (ImP m) ((l.filter fun x=>x.2).map Prod.fst) ((l'.filter fun x=>x.2).map Prod.fst):=by
 induction h with
 |nil=>exact .nil
 | @cons a b l m h _ ih =>
  obtain⟨h1,h2⟩:=h;cases ha:a.2 with
  |true =>
   rw [List.filter_cons_of_pos ha,List.filter_cons_of_pos (by rw [←h2];exact ha)];exact .cons h1 ih
  |false =>
   rw [List.filter_cons_of_neg (by rw [ha];decide),List.filter_cons_of_neg (by rw [←h2,ha];decide)];exact ih
theorem Kr {m:M6 Rat}(h:m.det≠0){t:Tr}(hl:t.lok) (hp:Prp t (Inn [])):F2 (ImP m) (inC t) (inC (t.im m)) :=
 Ld (rk t [] [] (Ks h) hl hp)
theorem jq {t:Tr}(hl:t.lok):∀c∈inC t,bZ c∧fI c:=fun c hc=>by
 obtain⟨x,hx,rfl⟩:=List.mem_map.1 hc;exact p9 t [] bZ.nil HY hl x (List.mem_filter.1 hx).1
theorem KD {m:M6 Rat}{l l':List PC}(h:F2 (ImP m) l l'):l'.all bndP=l.all bndP:=by
 induction h with
 |nil=>rfl
 |cons h _ ih=>rw [List.all_cons,List.all_cons,h.bnd,ih]
def cw (f:PC→Rat) (l:List PC):Rat:=bF (l.map f)
theorem A8 {m:M6 Rat}{l l':List PC}(h:F2 (ImP m) l l') (ho:∀c∈l,fI c) (hb:l.all bndP=true) :
  cw ar2 l'=ic m*cw ar2 l∧cw mx6 l'=ic m*(m.a*cw mx6 l+m.b*cw my6 l+3*m.c*cw ar2 l)∧cw my6 l'=ic m*(m.d*cw mx6 l+m.e*cw my6 l+3*m.f*cw ar2 l):=by
 induction h with
 |nil =>
  unfold cw;simp only [List.map_nil,bF];refine⟨by grind,by grind,by grind⟩
 | @cons c c' l l' h _ ih =>
  rw [List.all_cons,Bool.and_eq_true]at hb;obtain⟨s1,s2,s3⟩:=ih (fun x hx=>ho x (Mc hx)) hb.2;have hbc:=qx hb.1;have hbc':=qx (by rw [h.bnd];exact hb.1:bndP c'=true);have hoc:=ho c Ms;have a:=h.area hoc hbc hbc';obtain⟨x,y⟩:=h.moments hoc hbc hbc';unfold cw at *;simp only [List.map_cons,bF];rw [s1,s2,s3,a,x,y];refine⟨by grind,by grind,by grind⟩
end Go.Ab
