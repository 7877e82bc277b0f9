/- Texts laid one behind the other: TmF, TmG, TmD, TmE, TmH, Prs, TqB. -/
import Derived.Test.YtnhepimaijhhaaaGreatDoorB33
set_option linter.all false
set_option maxHeartbeats 16000000
namespace Go.Ab
open Go.Proofs
variable [Base]
abbrev dr2 (l:Li):List Pq:=[((l.b:Rat),-(l.a:Rat)),(-(l.b:Rat),-(-(l.a:Rat)))]
def ik (c:List Li):List Pq:=(c.map dr2).flatten
def bndB (c:List Li):Bool:=decide (0<(ik c).length) && !(ik c).any fun p=>c.all fun m=>decide (0≤((m.b:Rat)*p.2 - -(m.a:Rat)*p.1).num.sign)
theorem AH {c:List Li}{k:Nat}{l:Li}(h:c[k]? = some l):ik (c.take (k+1))=ik (c.take k)++dr2 l:=by
 unfold ik;rw [bV h,List.map_append,List.flatten_append];simp
theorem mF:∀(c:List Li),(ik c).length=2*c.length
 | []=>rfl
 |l::c=>by
  have:=mF c;unfold ik at this⊢;rw [List.map_cons,List.flatten_cons,List.length_append,this];show 2+2*c.length=2*(c.length+1)
  omega
theorem H4 {c:List Li}(h:∀m∈c,m.sm):∀p∈ik c,ht p.1≤1∧ht p.2≤1:=fun p hp=>by
 unfold ik at hp;obtain⟨q,hq,hpq⟩:=List.mem_flatten.1 hp;obtain⟨l,hl,rfl⟩:=List.mem_map.1 hq;have hs:=(h l hl).ht;simp only [dr2,List.mem_cons,List.not_mem_nil,or_false]at hpq;rcases hpq with rfl|rfl
 ·exact⟨hs.2.1,by rw [cz];exact hs.1⟩
 ·exact⟨by show ht (-_)≤1;rw [cz];exact hs.2.1,by show ht (- -_)≤1;rw [cz,cz];exact hs.1⟩
theorem KO {c:List Li}{k:Nat}{l:Li}{s:SV}{H:LH}(h:c[k]? = some l) (ho:Own pT 6 ((ik (c.take k)).length+2) (((ik (c.take k)).map rpx).flatten++((dr2 l).map rpx).flatten) s H):Own pT 6 (ik (c.take (k+1))).length ((ik (c.take (k+1))).map rpx).flatten s H:=by
 rw [AH h,List.map_append,List.flatten_append,List.length_append];exact ho
theorem EK (x y:Rat) (hx:ht x≤10000000) (hy:ht y≤10000000):Pu Tryz.prog 116 [rp x y] (rp (-x) (-y)):=by
 have c1:=iM x hx;have c2:=iM y hy;refine Pi Tryz.func116 fun C=>?_
 exact X2 c1 c2
theorem HG {p:Li→Bool}{b:List Li}{k:Nat}{m:Li}(h:b[k]? = some m):(b.take (k+1)).all p=((b.take k).all p&&p m):=by
 rw [bV h,List.all_append];simp
theorem Id {c:List Li}(hc:∀m∈c,m.sm) (hn:c.length≤100000):Pu Tryz.prog 75 [lqs c] (lit (.bool (bndB c))):=by
 have hdl:=mF c;have hdh:=H4 hc;unfold bndB;generalize hD:ik c=D at *;refine Pi Tryz.func75 fun C=>?_
 repeat(refine A1 ⟨?_⟩;intros)
 refine WP.loopS (ι:=pf) (fun y=>y.k≤c.length∧Own pT 6 (ik (c.take y.k)).length ((ik (c.take y.k)).map rpx).flatten y.s y.Hs) (fun y=>c.length-y.k)
  (fun y=>fm [(0,lqs c),(3,y.s),(11,lqs c),(12,lit (.int .i64 c.length)),(13,lit (.int .i64 y.k))]) (fun y=>y.Hs) ⟨0,lit (.slice none 0 0),[]⟩
  ⟨Nat.zero_le _,Own.nil _ _⟩ lfA (List.nil_sublist _) ?_
 rintro ⟨k,s,Hs⟩ ⟨hk,hown⟩ K hK;simp only at hk hown⊢;have hco:=hown.co;by_cases hkl:k<c.length
 ·obtain⟨l,hget,hmm,hat,hne⟩:=elt dI om hkl;have hl:=hc l hmm;have hgo:=fun s' Hs' h F' H'=>hK F' H' ⟨k+1,s',Hs'⟩ ⟨by simp only;omega,KO hget h⟩ (by simp only;omega)
  have hle:=mF (c.take k);rw [List.length_take]at hle;have c1:=gU l hl.ile;have c2:=EK (l.b:Rat) (-(l.a:Rat)) (by have:=hl.ht;omega) (by have:=hl.ht;rw [cz];omega);generalize ik (c.take k)=A at *;clear hK hget hmm hdh;repeat(refine A1 ⟨?_⟩;intros)
  refine Wo (a7 (cs':=lqx l) rfl rfl om om hat hne) ?_;repeat(first|(refine AS ⟨?_⟩;intros)|(refine O1 ⟨?_⟩;intros))
  refine WdN 7 ?_;repeat(first|(refine Wo (lB bD (dr2 l) (r:=[(0,rpx ((l.b:Rat),-(l.a:Rat))),(1,rpx (-(l.b:Rat),-(-(l.a:Rat))))]) (.pt rfl (.pt rfl .nil))) ?_)|(refine Wdo (lB bD (dr2 l) (r:=[(0,rpx ((l.b:Rat),-(l.a:Rat))),(1,rpx (-(l.b:Rat),-(-(l.a:Rat))))]) (.pt rfl (.pt rfl .nil))) ?_)|(refine A1 ⟨?_⟩;intros)|refine W4 c1 ⟨?_⟩|refine W4 c2 ⟨?_⟩)
  refine vL (k0:=2) hown (Tk.skip _ (Tk.same _)) om rfl (fun s' H1 hown'=>?_);have hco':=hown'.co;replace hgo:=hgo s' H1 hown';clear hown hown';repeat(refine A1 ⟨?_⟩;intros)
  exact hgo _ _ lfA (Sc Sr)
 ·have hke:k=c.length:=by omega
  subst hke;rw [List.take_length,hD]at hown;refine WP.rowS 3 hown rfl (by rw [List.append_nil]) ?_;clear hK hown;by_cases h0:D.length=0
  ·rw [h0,show decide (0<0)=false from rfl,Bool.false_and];exact Z1
  rw [decide_eq_true (show 0<D.length by omega),Bool.true_and];have hR0:(!(D.drop 0).any fun p=>c.all fun m=>decide (0≤((m.b:Rat)*p.2 - -(m.a:Rat)*p.1).num.sign))=(!D.any fun p=>c.all fun m=>decide (0≤((m.b:Rat)*p.2 - -(m.a:Rat)*p.1).num.sign)):=rfl;generalize(!D.any fun p=>c.all fun m=>decide (0≤((m.b:Rat)*p.2 - -(m.a:Rat)*p.1).num.sign))=R at *;repeat(refine A1 ⟨?_⟩;intros)
  refine WP.loopS (ι:=Nat) (fun i=>i≤D.length∧(!(D.drop i).any fun p=>c.all fun m=>decide (0≤((m.b:Rat)*p.2 - -(m.a:Rat)*p.1).num.sign))=R) (fun i=>D.length-i)
   (fun i=>fm [(0,lqs c),(29,rps D),(30,lit (.int .i64 D.length)),(31,lit (.int .i64 i))]) (fun _=>[]) 0 ⟨Nat.zero_le _,hR0⟩ lfA (List.nil_sublist _) ?_
  clear hR0;rintro i ⟨hi,hR⟩ K hK;by_cases hil:i<D.length
  ·obtain⟨p,hget,hmm,hat,hne⟩:=elt bD om hil;obtain⟨hp1,hp2⟩:=hdh p hmm;have hgo:=fun h F' H'=>hK F' H' (i+1) ⟨om,h⟩ om
   rw [f9 hget,List.any_cons,Bool.not_or]at hR;generalize(!(D.drop (i+1)).any fun p=>c.all fun m=>decide (0≤((m.b:Rat)*p.2 - -(m.a:Rat)*p.1).num.sign))=R1 at *;clear hK hget hmm;obtain⟨p1,p2⟩:=p;simp only at hp1 hp2 hR;repeat(refine A1 ⟨?_⟩;intros)
   refine Wo (a7 (cs':=rpx (p1,p2)) rfl rfl om om hat hne) ?_;repeat(refine A1 ⟨?_⟩;intros)
   rename_i b7
   refine WP.loopS (ι:=Nat) (fun j=>j≤c.length) (fun j=>c.length-j)
    (fun j=>fm [(0,lqs c),(7,lit (.pointer (some ⟨b7,0,none⟩))),(8,lit (.bool ((c.take j).all fun m=>decide (0≤((m.b:Rat)*p2 - -(m.a:Rat)*p1).num.sign)))),(29,rps D),(30,lit (.int .i64 D.length)),(31,lit (.int .i64 i)),(35,lqs c),(36,lit (.int .i64 c.length)),(37,lit (.int .i64 j))]) (fun _=>[(b7,pT,rpx (p1,p2))]) 0 (Nat.zero_le _) lfA Sr ?_
   rintro j hj K2 hK2;by_cases hjl:j<c.length
   ·obtain⟨m,hget2,hmm2,hat2,hne2⟩:=elt dI om hjl;have hm:=hc m hmm2;have hgo2:=fun F' H'=>hK2 F' H' (j+1) om om
    rw [HG hget2]at hgo2;have c1:=gU m hm.ile;have hh:=hm.ht;have hx1:=cz (m.a:Rat);have c2:=jU (m.b:Rat) (-(m.a:Rat)) p1 p2 om om om om;have g1:=aA (m.b:Rat) p2;have g2:=aA (-(m.a:Rat)) p1;have g3:=ef ((m.b:Rat)*p2) (-(m.a:Rat)*p1);have c3:=l7 ((m.b:Rat)*p2 - -(m.a:Rat)*p1) om;generalize(c.take j).all (fun m=>decide (0≤((m.b:Rat)*p2 - -(m.a:Rat)*p1).num.sign))=X at *;generalize(m.b:Rat)*p2 - -(m.a:Rat)*p1=v at *;generalize v.num.sign=y at *;clear hK2 hgo hget2 hmm2 hh hx1 g1 g2 g3;cases X with
    |false =>
     rw [Bool.false_and]at hgo2;repeat(refine A1 ⟨?_⟩;intros)
     refine Wo (a7 (cs':=lqx m) rfl rfl om om hat2 hne2) ?_;repeat(first|(refine A1 ⟨?_⟩;intros)|refine W4 c1 ⟨?_⟩|refine W4 c2 ⟨?_⟩|refine W4 c3 ⟨?_⟩)
     exact hgo2 _ _ lfA (Sc Sr)
    |true =>
     rw [Bool.true_and]at hgo2;by_cases hy:0≤y
     ·rw [decide_eq_true hy]at hgo2;repeat(refine A1 ⟨?_⟩;intros)
      refine Wo (a7 (cs':=lqx m) rfl rfl om om hat2 hne2) ?_;repeat(first|(refine A1 ⟨?_⟩;intros)|refine W4 c1 ⟨?_⟩|refine W4 c2 ⟨?_⟩|refine W4 c3 ⟨?_⟩)
      exact hgo2 _ _ lfA (Sc Sr)
     ·rw [decide_eq_false hy]at hgo2;repeat(refine A1 ⟨?_⟩;intros)
      refine Wo (a7 (cs':=lqx m) rfl rfl om om hat2 hne2) ?_;repeat(first|(refine A1 ⟨?_⟩;intros)|refine W4 c1 ⟨?_⟩|refine W4 c2 ⟨?_⟩|refine W4 c3 ⟨?_⟩)
      exact hgo2 _ _ lfA (Sc Sr)
   ·have hje:j=c.length:=by omega
    subst hje;rw [List.take_length];clear hK2;generalize c.all (fun m=>decide (0≤((m.b:Rat)*p2 - -(m.a:Rat)*p1).num.sign))=X at *;cases X with
    |true =>
     rw [Bool.not_true,Bool.false_and]at hR;subst hR;clear hgo;exact Z1
    |false =>
     rw [Bool.not_false,Bool.true_and]at hR;replace hgo:=hgo hR;repeat(refine A1 ⟨?_⟩;intros)
     exact hgo _ _ lfA (List.nil_sublist _)
  ·have hie:i=D.length:=by omega
   subst hie;rw [List.drop_length,List.any_nil]at hR;subst hR;clear hK;exact Z1
theorem qg:∀(t:Tr) (c:List Li),(t.all fun l=>l.sm)→(∀m∈c,m.sm)→∀x∈aF t c,(∀m∈x.1,m.sm)∧x.1.length≤c.length+aU t
 | .leaf i,c,_,hc,x,hx=>by
  unfold aF at hx;split at hx
  ·rw [List.mem_singleton.1 hx];exact⟨mK hc,by have:=nL c;show(aZ c).length≤c.length+0;omega⟩
  ·cases hx
 | .node l a b,c,h,hc,x,hx=>by
  unfold aF at hx;have hn:=nL c;have hd:aU (.node l a b)=1+max (aU a) (aU b):=rfl;split at hx
  ·rcases List.mem_append.1 hx with hx|hx
   ·obtain⟨h1,h2⟩:=qg a _ h.2.1 (gT (mK hc) h.1) x hx;rw [List.length_append,List.length_singleton]at h2;exact⟨h1,by rw [hd];omega⟩
   ·obtain⟨h1,h2⟩:=qg b _ h.2.2 (gT (mK hc) h.1.neg) x hx;rw [List.length_append,List.length_singleton]at h2;exact⟨h1,by rw [hd];omega⟩
  ·cases hx
theorem BO {t:Tr}(hall:t.all fun l=>l.sm){x:List Li}(hx:x∈cB (aF t [])):(∀m∈x,m.sm)∧x.length≤aU t:=by
 unfold cB at hx;obtain⟨y,hy,rfl⟩:=List.mem_map.1 hx;have:=qg t [] hall (fun m hm=>by cases hm) y (List.mem_filter.1 hy).1;simpa using this
theorem EV {t:Tr}(hall:t.all fun l=>l.sm) (hd:aU t≤90000) (hl:ap t≤1000000):Pu Tryz.prog 35 [rt t] (lit (.bool ((cB (aF t [])).all bndB))):=by
 have c:=Bc hall hd hl;have hs:=fun x hx=>BO hall (x:=x) hx
 have hn:=Nat.le_trans (kg (aF t [])) (dU t []);have hR0:((cB (aF t [])).drop 0).all bndB=(cB (aF t [])).all bndB:=rfl;generalize cB (aF t [])=L at *;generalize L.all bndB=R at *;clear hall;refine Pi Tryz.func35 fun C=>?_
 repeat(first|(refine A1 ⟨?_⟩;intros)|refine W4 c ⟨?_⟩)
 refine WP.loopS (ι:=Nat) (fun k=>k≤L.length∧(L.drop k).all bndB=R) (fun k=>L.length-k)
  (fun k=>fm [(6,lss L),(7,lit (.int .i64 L.length)),(8,lit (.int .i64 k))]) (fun _=>[]) 0 ⟨Nat.zero_le _,hR0⟩ lfA (List.nil_sublist _) ?_
 clear hR0;rintro k ⟨hk,hR⟩ K hK;by_cases hkl:k<L.length
 ·obtain⟨x,hget,hmm,hat,hne⟩:=elt (f:=fun c=>[lqs c]) (n:=1) (fun _=>rfl) om hkl;obtain⟨g1,g2⟩:=hs x hmm;have c1:=Id g1 om;have hgo:=fun h F' H'=>hK F' H' (k+1) ⟨om,h⟩ om
  rw [f9 hget,List.all_cons]at hR;generalize(L.drop (k+1)).all bndB=R1 at *;generalize bndB x=y at *;clear hK hget hmm c;cases y with
  |true =>
   rw [Bool.true_and]at hR;replace hgo:=hgo hR;repeat(refine A1 ⟨?_⟩;intros)
   refine Wo (a7 (cs':=[lqs x]) rfl rfl om om hat hne) ?_;repeat(first|(refine A1 ⟨?_⟩;intros)|refine W4 c1 ⟨?_⟩)
   exact hgo _ _ lfA (List.nil_sublist _)
  |false =>
   rw [Bool.false_and]at hR;subst hR;clear hgo;repeat(refine A1 ⟨?_⟩;intros)
   refine Wo (a7 (cs':=[lqs x]) rfl rfl om om hat hne) ?_;exact Y1 c1
 ·have hke:k=L.length:=by omega
  subst hke;rw [List.drop_length,List.all_nil]at hR;subst hR;clear hK c;exact Z1
theorem Ic {l m:Li}(hl:l.sm) (hm:m.sm):Pu Tryz.prog 72 [lq l,lq m] (lit (.bool (p5 l m))):=by
 have c1:=jV (hl.2.gr (show 1≤1000000 by omega)) (hm.2.gr (show 1≤1000000 by omega));have c2:=jk m (hm.2.gr om);have c3:=jV (hl.2.gr (show 1≤1000000 by omega)) (hm.neg.2.gr (show 1≤1000000 by omega));unfold p5;generalize m.neg=m' at *;generalize im l m=x at *;generalize im l m'=y at *;clear hl hm;by_cases hx:x=0
 ·subst hx;rw [decide_eq_true rfl,Bool.true_or];refine Pi Tryz.func72 fun C=>?_
  repeat(first|(refine Wo (aB (sv:=ag _) rfl) ?_)|(refine Wdo (aB (sv:=ag _) rfl) ?_)|(refine A1 ⟨?_⟩;intros)|refine W4 c1 ⟨?_⟩|refine W4 c2 ⟨?_⟩|refine W4 c3 ⟨?_⟩)
  exact E1
 ·rw [decide_eq_false hx,Bool.false_or];by_cases hy:y=0
  ·subst hy;rw [decide_eq_true rfl];refine Pi Tryz.func72 fun C=>?_
   repeat(first|(refine Wo (aB (sv:=ag _) rfl) ?_)|(refine Wdo (aB (sv:=ag _) rfl) ?_)|(refine A1 ⟨?_⟩;intros)|refine W4 c1 ⟨?_⟩|refine W4 c2 ⟨?_⟩|refine W4 c3 ⟨?_⟩)
   exact E1
  ·rw [decide_eq_false hy];refine Pi Tryz.func72 fun C=>?_
   repeat(first|(refine Wo (aB (sv:=ag _) rfl) ?_)|(refine Wdo (aB (sv:=ag _) rfl) ?_)|(refine A1 ⟨?_⟩;intros)|refine W4 c1 ⟨?_⟩|refine W4 c2 ⟨?_⟩|refine W4 c3 ⟨?_⟩)
   exact E1
def NbI (S:List Spn):Prop:=S=[]∨∃v,S=[v]∧SpG v∧cj v=false∧v.le 46
theorem wQ:Spn.full.le 46:=⟨by show ht 0≤46;have:=ij;omega,by show ht 0≤46;have:=ij;omega⟩
theorem FS:NbI [Spn.full] := .inr ⟨_,rfl,pS,rfl,wQ⟩
theorem oU {l:Li}(hl:l.sm):FgG [l] (l,Spn.full):=⟨hl.1,List.mem_singleton.2 rfl,pS,rfl⟩
theorem uW {l m:Li}(hl:l.sm) (hm:m.sm):((bh (l,Spn.full) m).1).length≤1∧∀g∈(bh (l,Spn.full) m).1,SpG g.2∧cj g.2=false∧g.2.le 46:=by
 constructor
 ·have h:=congrArg List.length (rO (m:=m) hl.1);rw [List.length_map]at h;rw [h];cases ej l Spn.full m <;> simp
 ·exact fun g hg=>⟨((o5 (m:=m) (oU hl)).1 g hg).1.g,((o5 (m:=m) (oU hl)).1 g hg).1.b,(um (oU hl) hl hm wQ).1 g hg⟩
theorem J9 {l m:Li}(hl:l.sm) (hm:m.sm){S:List Spn}(h:NbI S):NbI (iE 2 S ((bh (l,Spn.full) m).1.map Prod.snd)):=by
 obtain⟨h1,h2⟩:=uW hl hm;generalize(bh (l,Spn.full) m).1=M at *;rcases h with rfl|⟨v,rfl,g1,g2,g3⟩
 ·rw [qC];exact .inl rfl
 ·rcases oK h1 with rfl|⟨x,rfl⟩
  ·rw [List.map_nil,kX];exact .inl rfl
  ·obtain⟨k1,k2,k3⟩:=h2 x (List.mem_singleton.2 rfl);rw [List.map_cons,List.map_nil,kw g1 k1];split
   ·exact .inl rfl
   ·rename_i hb;have hb':cj (bN v x.2)=false:=by simpa using hb
    exact .inr ⟨_,rfl,qX g1 k1 hb',hb',t7 g3 k3⟩
theorem Ja {S:List Spn}(h:NbI S):S.length≤1:=by
 rcases h with rfl|⟨v,rfl,_⟩ <;> simp
theorem L7 {S:List Spn}(h:NbI S):∀s∈S,s.le 10000:=fun s hs=>by
 rcases h with rfl|⟨v,rfl,_,_,h⟩
 ·cases hs
 ·rw [List.mem_singleton.1 hs];exact⟨by have:=h.1;omega,by have:=h.2;omega⟩
structure ML where
 j:Nat
 S:List Spn
abbrev nbP (l:Li) (m:Li):Bool:=decide (im l m.neg=0)
theorem HF {p:Li→Bool}{b:List Li}{k:Nat}{m:Li}(h:b[k]? = some m):(b.take (k+1)).any p=((b.take k).any p||p m):=by
 rw [bV h,List.any_append];simp
theorem Ez {M:List Fg}{k:Nat}{g:Fg}(h:M[k]? = some g):(((M.take (k+1)).map Prod.snd).map spx).flatten=(((M.take k).map Prod.snd).map spx).flatten++spx g.2:=by
 rw [bV h,List.map_append,List.map_append,List.flatten_append];simp
theorem CH {a b:List Li}(ha:∀m∈a,m.sm) (hb:∀m∈b,m.sm) (hla:a.length≤10000) (hlb:b.length≤10000):Pu Tryz.prog 32 [lqs a,lqs b] (lit (.bool (gL a b))):=by
 have hab:∀m∈a++b,m.sm:=fun m hm=>(List.mem_append.1 hm).elim (ha m) (hb m)
 have hfa:=iW a;have hfb:=iW b;have e1:∀s H',Own lT 6 (a.length+b.length) ((a.map lqx).flatten++(b.map lqx).flatten) s H'→Own lT 6 (a++b).length ((a++b).map lqx).flatten s H':=fun s H' h=>by rw [List.length_append,List.map_append,List.flatten_append];exact h
 have hlab:(a++b).length≤20000:=by rw [List.length_append];omega
 have hR0:(a.drop 0).any (fun l=>b.any (nbP l) && !(dX l (a++b) [Spn.full]).isEmpty)=gL a b:=rfl;generalize gL a b=R at *;have cf:=sr;refine Pi Tryz.func32 fun C=>?_
 repeat(refine A1 ⟨?_⟩;intros)
 refine WP.loopS (ι:=Nat) (fun k=>k≤a.length∧(a.drop k).any (fun l=>b.any (nbP l) && !(dX l (a++b) [Spn.full]).isEmpty)=R) (fun k=>a.length-k)
  (fun k=>fm [(0,lqs a),(1,lqs b),(18,lqs a),(19,lit (.int .i64 a.length)),(20,lit (.int .i64 k))]) (fun _=>[]) 0 ⟨Nat.zero_le _,hR0⟩ lfA (List.nil_sublist _) ?_
 clear hR0;rintro k ⟨hk,hR⟩ K hK;by_cases hkl:k<a.length
 ·obtain⟨l,hget,hmm,hat,hne⟩:=elt dI om hkl;have hl:=ha l hmm;have hgo:=fun h F' H'=>hK F' H' (k+1) ⟨om,h⟩ om
  rw [f9 hget,List.any_cons]at hR;generalize(a.drop (k+1)).any (fun l=>b.any (nbP l) && !(dX l (a++b) [Spn.full]).isEmpty)=R1 at *;clear hK hget hmm;repeat(refine A1 ⟨?_⟩;intros)
  refine Wo (a7 (cs':=lqx l) rfl rfl om om hat hne) ?_;repeat(refine A1 ⟨?_⟩;intros)
  rename_i b6
  refine WP.loopS (ι:=Nat) (fun j=>j≤b.length) (fun j=>b.length-j)
   (fun j=>fm [(0,lqs a),(1,lqs b),(6,lit (.pointer (some ⟨b6,0,none⟩))),(7,lit (.slice none 0 0)),(8,lit (.bool ((b.take j).any (nbP l)))),(18,lqs a),(19,lit (.int .i64 a.length)),(20,lit (.int .i64 k)),(24,lqs b),(25,lit (.int .i64 b.length)),(26,lit (.int .i64 j))]) (fun _=>[(b6,lT,lqx l)]) 0 (Nat.zero_le _) lfA Sr ?_
  rintro j hj K2 hK2;by_cases hjl:j<b.length
  ·obtain⟨m,hget2,hmm2,hat2,hne2⟩:=elt dI om hjl;have hm:=hb m hmm2;have hgo2:=fun F' H'=>hK2 F' H' (j+1) om om
   rw [HF hget2]at hgo2;have c2:=jk m hm.ile;have c3:=jV hl.ile hm.neg.ile;unfold nbP at hgo2⊢;generalize(b.take j).any (fun m=>decide (im l m.neg=0))=X at *;generalize m.neg=m' at *;generalize im l m'=y at *;clear hK2 hgo hget2 hmm2 e1;cases X with
   |true =>
    rw [Bool.true_or]at hgo2;repeat(refine A1 ⟨?_⟩;intros)
    refine Wo (a7 (cs':=lqx m) rfl rfl om om hat2 hne2) ?_;repeat(first|(refine A1 ⟨?_⟩;intros)|refine W4 c2 ⟨?_⟩|refine W4 c3 ⟨?_⟩)
    exact hgo2 _ _ lfA (Sc Sr)
   |false =>
    rw [Bool.false_or]at hgo2;by_cases hy:y=0
    ·subst hy;rw [decide_eq_true rfl]at hgo2;repeat(refine A1 ⟨?_⟩;intros)
     refine Wo (a7 (cs':=lqx m) rfl rfl om om hat2 hne2) ?_;repeat(first|(refine A1 ⟨?_⟩;intros)|refine W4 c2 ⟨?_⟩|refine W4 c3 ⟨?_⟩)
     exact hgo2 _ _ lfA (Sc Sr)
    ·rw [decide_eq_false hy]at hgo2;repeat(refine A1 ⟨?_⟩;intros)
     refine Wo (a7 (cs':=lqx m) rfl rfl om om hat2 hne2) ?_;repeat(first|(refine A1 ⟨?_⟩;intros)|refine W4 c2 ⟨?_⟩|refine W4 c3 ⟨?_⟩)
     exact hgo2 _ _ lfA (Sc Sr)
  ·have hje:j=b.length:=by omega
   subst hje;rw [List.take_length];clear hK2;generalize b.any (nbP l)=X at *;cases X with
   |false =>
    rw [Bool.false_and,Bool.false_or]at hR;replace hgo:=hgo hR;clear e1;repeat(refine A1 ⟨?_⟩;intros)
    exact hgo _ _ lfA (List.nil_sublist _)
   |true =>
    rw [Bool.true_and]at hR;repeat(first|(refine Wo (aE (spx Spn.full) rfl) ?_)|(refine Wdo (aE (spx Spn.full) rfl) ?_)|(refine A1 ⟨?_⟩;intros)|refine W4 cf ⟨?_⟩)
    rename_i b14;refine vL (k0:=a.length) (n0:=0) (cs:=[]) (ds:=(a.map lqx).flatten) (Hs:=[(b14,lT,[])]) ⟨rfl, .inr ⟨b14,0,Nat.le_refl _,by decide,rfl,rfl⟩⟩ (Tk.cons (.here _) (Tk.nil _)) om hfa (fun s1 H1 hown1=>?_);rw [Nat.zero_add,List.nil_append]at hown1;have hco1:=hown1.co;simp only [List.cons_append,List.nil_append];repeat(refine A1 ⟨?_⟩;intros)
    refine vL (k0:=b.length) hown1 (Tk.skip _ (Tk.same _)) om hfb (fun s2 H2 hown2=>?_);replace hown2:=e1 _ _ hown2;refine WPL.rowS 47 hown2 rfl (R:=[(b6,lT,lqx l)]) (List.perm_append_comm (l₁:=[(b6,lT,lqx l)])) ?_;clear hown1 hown2 e1 hco1 hfa hfb;generalize a++b=ab at *;repeat(refine A1 ⟨?_⟩;intros)
    have hR':((!(dX l (ab.drop 0) [Spn.full]).isEmpty)||R1)=R:=hR
    refine WP.loopS (ι:=ML) (fun y=>y.j≤ab.length∧NbI y.S∧((!(dX l (ab.drop y.j) y.S).isEmpty)||R1)=R) (fun y=>ab.length-y.j)
     (fun y=>fm [(0,lqs a),(1,lqs b),(6,lit (.pointer (some ⟨b6,0,none⟩))),(7,sps y.S),(18,lqs a),(19,lit (.int .i64 a.length)),(20,lit (.int .i64 k)),(47,lqs ab),(48,lit (.int .i64 ab.length)),(49,lit (.int .i64 y.j))]) (fun _=>[(b6,lT,lqx l)]) ⟨0,[Spn.full]⟩ ⟨Nat.zero_le _,FS,hR'⟩ lfA Sr ?_
    clear hR hR';rintro ⟨j,S⟩ ⟨hj,hS,hR⟩ K3 hK3;simp only at hj hS hR⊢;have hSl:=Ja hS;by_cases hjl:j<ab.length
    ·obtain⟨m,hget2,hmm2,hat2,hne2⟩:=elt dI om hjl;have hm:=hab m hmm2;have hgo3:=fun S' (h1:NbI S') (h2:((!(dX l (ab.drop (j+1)) S').isEmpty)||R1)=R) F' H'=>hK3 F' H' ⟨j+1,S'⟩ ⟨by simp only;omega,h1,h2⟩ (by simp only;omega)
     simp only at hgo3;rw [f9 hget2,dX]at hR;have c4:=Ic hl hm;clear hK3 hgo;cases hc:p5 l m with
     |true =>
      as_aux_lemma =>
      rw [hc,if_pos rfl]at hR;rw [hc]at c4;replace hgo3:=hgo3 S hS hR;clear hR hget2 hmm2;repeat(refine A1 ⟨?_⟩;intros)
      refine Wo (a7 (cs':=lqx m) rfl rfl om om hat2 hne2) ?_;repeat(first|(refine A1 ⟨?_⟩;intros)|refine W4 c4 ⟨?_⟩)
      exact hgo3 _ _ lfA (Sc Sr)
     |false =>
      rw [hc,if_neg (by decide)]at hR;rw [hc]at c4;have c5:=uw (oU hl) hl hm wQ;obtain⟨hM1,hM2⟩:=uW hl hm;replace hgo3:=hgo3 _ (J9 hl hm hS) hR;generalize(bh (l,Spn.full) m).1=M at *;generalize(bh (l,Spn.full) m).2=M2 at *
      have c6:=lz 2 (.inr rfl) S (M.map Prod.snd) om (by rw [List.length_map];omega) (L7 hS) (fun s hs=>by
       obtain⟨g,hg,rfl⟩:=List.mem_map.1 hs;have:=(hM2 g hg).2.2;exact⟨by have:=this.1;omega,by have:=this.2;omega⟩)
      generalize iE 2 S (M.map Prod.snd)=S' at *;clear hR hget2 hmm2 hM2;repeat(refine A1 ⟨?_⟩;intros)
      refine Wo (a7 (cs':=lqx m) rfl rfl om om hat2 hne2) ?_;repeat(first|(refine A1 ⟨?_⟩;intros)|refine W4 c4 ⟨?_⟩|refine W4 cf ⟨?_⟩|refine W4 c5 ⟨?_⟩)
      refine WP.loopS (ι:=pf) (fun y=>y.k≤M.length∧Own sT 8 ((M.take y.k).map Prod.snd).length (((M.take y.k).map Prod.snd).map spx).flatten y.s y.Hs) (fun y=>M.length-y.k)
       (fun y=>fm [(0,lqs a),(1,lqs b),(6,lit (.pointer (some ⟨b6,0,none⟩))),(7,sps S),(15,y.s),(18,lqs a),(19,lit (.int .i64 a.length)),(20,lit (.int .i64 k)),(47,lqs ab),(48,lit (.int .i64 ab.length)),(49,lit (.int .i64 j)),(64,fqs M),(65,lit (.int .i64 M.length)),(66,lit (.int .i64 y.k))]) (fun y=>(b6,lT,lqx l)::y.Hs) ⟨0,lit (.slice none 0 0),[]⟩
       ⟨Nat.zero_le _,Own.nil _ _⟩ lfA (Sc Sr) ?_
      clear hat hne hat2 hne2 c4 c5 cf;rintro ⟨i,s,Hs⟩ ⟨hi,hown⟩ K4 hK4;simp only at hi hown⊢;have hco:=hown.co;by_cases hil:i<M.length
      ·as_aux_lemma =>
       obtain⟨g,hget3,_,hat3,hne3⟩:=elt jr om hil;have hgo4:=fun s' Hs' h F' H'=>hK4 F' H' ⟨i+1,s',Hs'⟩ ⟨by simp only;omega,h⟩ (by simp only;omega)
       simp only [Ez hget3]at hgo4;have hll:((M.take (i+1)).map Prod.snd).length=((M.take i).map Prod.snd).length+1:=by rw [bV hget3,List.map_append,List.length_append];rfl
       have hli:((M.take i).map Prod.snd).length≤1:=by rw [List.length_map,List.length_take];omega
       rw [hll]at hgo4;generalize((M.take i).map Prod.snd)=Q at *;clear hK4 hget3 hgo3 c6 hll;obtain⟨l3,v3⟩:=g;simp only [fqx,lqx,spx,List.cons_append,List.nil_append]at hat3;repeat(refine A1 ⟨?_⟩;intros)
       refine Wo (a7 rfl rfl om om hat3 hne3) ?_;repeat(first|(refine Wo (aE (spx v3) rfl) ?_)|(refine Wdo (aE (spx v3) rfl) ?_)|(refine A1 ⟨?_⟩;intros))
       refine iG (ds:=spx v3) hown (Tk.skip _ (Tk.skip _ (Tk.same _))) om (fun s' H1 hown'=>?_);have hco':=hown'.co;replace hgo4:=hgo4 s' H1 hown';clear hown hown';repeat(refine A1 ⟨?_⟩;intros)
       exact hgo4 _ _ lfA (Sc Sr)
      ·have hie:i=M.length:=by omega
       subst hie;rw [List.take_length]at hown;refine WP.rowS 15 hown rfl (R:=[(b6,lT,lqx l)]) (List.perm_append_comm (l₁:=[(b6,lT,lqx l)])) ?_;clear hK4 hown;repeat(first|(refine A1 ⟨?_⟩;intros)|refine W4 c6 ⟨?_⟩)
       exact hgo3 _ _ lfA Sr
    ·have hje:j=ab.length:=by omega
     subst hje;rw [List.drop_length,dX]at hR;clear hK3;rcases hS with rfl|⟨v,rfl,_⟩
     ·rw [show(!([]:List Spn).isEmpty)=false from rfl,Bool.false_or]at hR;replace hgo:=hgo hR;repeat(refine A1 ⟨?_⟩;intros)
      exact hgo _ _ lfA (List.nil_sublist _)
     ·rw [show(!([v]:List Spn).isEmpty)=true from rfl,Bool.true_or]at hR;subst hR;clear hgo;exact Z1
 ·have hke:k=a.length:=by omega
  subst hke;rw [List.drop_length,List.any_nil]at hR;subst hR;clear hK e1;exact Z1
def lp (g:Nat→Nat) (M m x:Nat):Nat→Nat:=fun j=>if j<x∧g j=M then m else g j
theorem CD (g:Nat→Nat) (M m:Nat):lp g M m 0=g:=by
 funext j;unfold lp;rw [if_neg om]
theorem I4 (g:Nat→Nat) (M m x:Nat):lp g M m x x=g x:=by
 unfold lp;rw [if_neg om]
theorem EF {g:Nat→Nat}{M m x:Nat}(h:g x=M):gu (lp g M m x) x m=lp g M m (x+1):=by
 funext j
 unfold gu lp;by_cases hj:j=x
 ·subst hj;rw [if_pos rfl,if_pos ⟨om,h⟩]
 ·rw [if_neg hj];by_cases hx:j<x
  ·by_cases hg:g j=M
   ·rw [if_pos ⟨hx,hg⟩,if_pos ⟨om,hg⟩]
   ·rw [if_neg (fun h=>hg h.2),if_neg (fun h=>hg h.2)]
  ·rw [if_neg (fun h=>hx h.1),if_neg (fun h=>hx (by have:=h.1;omega))]
theorem I3 {g:Nat→Nat}{M m x:Nat}(h:g x≠M):lp g M m x=lp g M m (x+1):=by
 funext j
 unfold lp;by_cases hg:g j=M
 ·have hj:j≠x:=fun e=>h (by rw [←e];exact hg)
  by_cases hx:j<x
  ·rw [if_pos ⟨hx,hg⟩,if_pos ⟨om,hg⟩]
  ·rw [if_neg (fun h=>hx h.1),if_neg (fun h=>hx (by have:=h.1;omega))]
 ·rw [if_neg (fun h=>hg h.2),if_neg (fun h=>hg h.2)]
theorem CU {n:Nat}{p q:Nat→Nat}(h:∀j,j<n→p j=q j):pcl n p=pcl n q:=by
 unfold pcl;exact List.map_congr_left fun j hj=>by rw [h j (List.mem_range.1 hj)]
theorem Ik (n:Nat) (g:Nat→Nat) (M m:Nat):pcl n (lp g M m n)=pcl n fun j=>if g j=M then m else g j :=
 CU fun j hj=>by
  unfold lp;by_cases h:g j=M
  ·rw [if_pos ⟨hj,h⟩,if_pos h]
  ·rw [if_neg (fun k=>h k.2),if_neg h]
def bcl (n:Nat) (f:Nat→Bool):List SV:=(List.range n).map fun j=>lit (.bool (f j))
theorem pb (n:Nat) (f:Nat→Bool):(bcl n f).length=n:=by unfold bcl;simp
theorem Hw (n:Nat):List.replicate n (lit (.bool false))=bcl n fun _=>false:=by
 unfold bcl;refine List.ext_getElem? fun j=>?_
 rw [List.getElem?_replicate,List.getElem?_map];by_cases h:j<n
 ·rw [if_pos h,List.getElem?_range h];rfl
 ·rw [if_neg h,List.getElem?_eq_none (by simpa using h)];rfl
def bK (f:Nat→Bool) (k:Nat):Nat→Bool:=fun j=>decide (j<k)&&f j
theorem xf {n:Nat}{f:Nat→Bool}{i:Nat}(h:i<n):(bcl n f)[i]? = some (lit (.bool (f i))):=by
 unfold bcl;rw [List.getElem?_map,List.getElem?_range h];rfl
theorem JT {n:Nat}{f:Nat→Bool}{k:Nat}(h:k<n):spl (bcl n (bK f k)) k [lit (.bool (f k))]=bcl n (bK f (k+1)):=by
 show(bcl n (bK f k)).set k (lit (.bool (f k)))=_
 refine List.ext_getElem? fun j=>?_
 rw [List.getElem?_set,pb];by_cases hj:k=j
 ·subst hj;rw [if_pos rfl,if_pos h,xf h];unfold bK;rw [decide_eq_true om,Bool.true_and]
 ·rw [if_neg hj];by_cases hn:j<n
  ·rw [xf hn,xf hn];unfold bK;by_cases hx:j<k
   ·rw [decide_eq_true hx,decide_eq_true (show j<k+1 by omega)]
   ·rw [decide_eq_false hx,decide_eq_false (show¬j<k+1 by omega)]
  ·rw [List.getElem?_eq_none (by rw [pb];omega),List.getElem?_eq_none (by rw [pb];omega)]
theorem JV {n:Nat}{f:Nat→Bool}{k:Nat}(h:k<n):Nat.ble (k+1) (bcl n f).length=true:=by
 apply Nat.ble_eq_true_of_le;rw [pb];omega
theorem JU (l:List Bool):(l.map fun b=>[(lit (.bool b):SV)]).flatten=l.map fun b=>lit (.bool b):=by
 induction l with
 |nil=>rfl
 |cons a l ih=>rw [List.map_cons,List.flatten_cons,ih];rfl
def iu (G:Nat→Nat) (n i:Nat):List Bool:=(List.range n).map fun j=>decide (G j=i)
theorem Hu (G:Nat→Nat) (n i:Nat):(iu G n i).length=n:=by unfold iu;simp
theorem Hy (G:Nat→Nat) (n i:Nat):bcl n (bK (fun j=>decide (G j=i)) n)=((iu G n i).map fun b=>[(lit (.bool b):SV)]).flatten:=by
 rw [JU];unfold bcl iu bK;rw [List.map_map];refine List.map_congr_left fun j hj=>?_
 rw [decide_eq_true (List.mem_range.1 hj),Bool.true_and];rfl
theorem JW (f:Nat→Bool):(fun _=>false)=bK f 0:=by
 funext j;unfold bK;rw [decide_eq_false om,Bool.false_and]
abbrev rgA (L:List (List Li)) (k:Nat):List Li:=L.getD k []
def jnR (L:List (List Li)) (g:Nat→Nat) (i k:Nat):Bool:=decide (g i≠g k)&&gL (rgA L k) (rgA L i)
def Dv (L:List (List Li)) (i:Nat) (g:Nat→Nat) (k:Nat):Nat→Nat:=if jnR L g i k then lP g i k else g
def Jy (L:List (List Li)) (g:Nat→Nat) (i:Nat):Nat→Nat:=(List.range i).foldl (Dv L i) g
def pQ (L:List (List Li)):Nat→Nat:=(List.range L.length).foldl (Jy L) id
abbrev rts (l:List Tr):SV:=sl (l.map fun t=>[rt t]).flatten l.length
def s9 (t:Tr) (G:Nat→Nat) (n i:Nat):Tr:=a8 (fx (fun j=>(iu G n i).getD j false) t 0) []
def cO (t:Tr) (G:Nat→Nat) (n k:Nat):List Tr:=((List.range k).filter fun i=>decide (G i=i)).map (s9 t G n)
theorem tY (t:Tr) (G:Nat→Nat) (n k:Nat):cO t G n (k+1)=if G k=k then cO t G n k++[s9 t G n k]else cO t G n k:=by
 unfold cO;rw [List.range_succ,List.filter_append,List.map_append];by_cases h:G k=k
 ·rw [if_pos h,List.filter_cons_of_pos (by simpa using h)];rfl
 ·rw [if_neg h,List.filter_cons_of_neg (by simpa using h),List.filter_nil,List.map_nil,List.append_nil]
theorem iL (t:Tr) (G:Nat→Nat) (n k:Nat):(cO t G n k).length≤k:=by
 unfold cO;rw [List.length_map];exact Nat.le_trans (List.length_filter_le _ _) (by simp)
def bA (t:Tr):List Tr:=cO (a8 t []) (pQ (cB (aF (a8 t []) []))) (cB (aF (a8 t []) [])).length (cB (aF (a8 t []) [])).length
theorem Br {l:List Tr}{t:Tr}{s:SV}{H:LH}(h:Own ptR 1 (l.length+1) ((l.map fun t=>[rt t]).flatten++[rt t]) s H):Own ptR 1 (l++[t]).length ((l++[t]).map fun t=>[rt t]).flatten s H:=by
 rw [List.map_append,List.flatten_append,List.length_append];simpa using h
theorem mv {p:Li→Prop}{keep:Nat→Bool}:∀{t:Tr}{k:Nat},t.all p→(fx keep t k).all p
 | .leaf _,_,_=>trivial
 | .node _ _ _,_,h=>⟨h.1,mv h.2.1,mv h.2.2⟩
theorem mu {keep:Nat→Bool}:∀(t:Tr) (k:Nat),aU (fx keep t k)=aU t
 | .leaf _,_=>rfl
 | .node _ a b,k=>by simp only [fx,aU,mu a,mu b]
structure Mn where
 k:Nat
 g:Nat→Nat
def ie {α:Type}(pre:List α):List α→List (α×α)
 | []=>[]
 |x::xs=>pre.map (fun k=>(x,k))++ie (pre++[x]) xs
theorem sC {α:Type}(w:α→Bool):∀(l pre:List α),(ie pre l).filter (fun p=>w p.1&&w p.2)=ie (pre.filter w) (l.filter w)
 | [],_=>rfl
 |x::xs,pre=>by
  unfold ie;rw [List.filter_append,sC w xs];cases hx:w x with
  |true =>
   rw [List.filter_cons_of_pos hx];show _=(pre.filter w).map (fun k=>(x,k))++ie (pre.filter w++[x]) (xs.filter w)
   rw [List.filter_append,List.filter_cons_of_pos hx,List.filter_nil];congr 1
   rw [List.filter_map];congr 1
   apply List.filter_congr;intro k _;simp [hx]
  |false =>
   have hn:¬w x=true:=by rw [hx];exact Bool.false_ne_true
   rw [List.filter_cons_of_neg hn,List.filter_append,List.filter_cons_of_neg hn,List.filter_nil,List.append_nil]
   have:(pre.map (fun k=>(x,k))).filter (fun p=>w p.1&&w p.2)=[]:=by
    rw [List.filter_map];simp [hx,Function.comp_def]
   rw [this,List.nil_append];cases xs.filter w <;> rfl
theorem Bk {α β:Type}(e:α→β):∀(l pre:List α),ie (pre.map e) (l.map e)=(ie pre l).map (fun p=>(e p.1,e p.2))
 | [],_=>rfl
 |x::xs,pre=>by
  rw [List.map_cons];unfold ie;have:=Bk e xs (pre++[x]);rw [List.map_append]at this;rw [List.map_append,←this];congr 1
  rw [List.map_map,List.map_map];rfl
def jN (T:Nat→Nat→Bool) (g:Nat→Nat) (p:Nat×Nat):Nat→Nat:=if g p.1≠g p.2∧T p.1 p.2=true then lP g p.1 p.2 else g
def fV (w:Nat→Bool) (T:Nat→Nat→Bool) (g:Nat→Nat) (p:Nat×Nat):Nat→Nat:=if(w p.1&&w p.2)=true then jN T g p else g
theorem GI (w:Nat→Bool) (T:Nat→Nat→Bool):∀(l:List (Nat×Nat)) (g:Nat→Nat),l.foldl (fV w T) g=(l.filter (fun p=>w p.1&&w p.2)).foldl (jN T) g
 | [],_=>rfl
 |p::l,g=>by
  rw [List.foldl_cons,GI w T l];unfold fV;by_cases h:(w p.1&&w p.2)=true
  ·rw [if_pos h,List.filter_cons_of_pos (by exact h),List.foldl_cons]
  ·rw [if_neg h,List.filter_cons_of_neg (by exact h)]
def Lbl (m:Nat) (e g h:Nat→Nat):Prop:=∀a,a<m→h a<m∧g (e a)=e (h a)
theorem G9 {m:Nat}{e:Nat→Nat}(he:∀a b,a<m→b<m→a<b→e a<e b){T N:Nat→Nat→Bool}{g h:Nat→Nat}(H:Lbl m e g h){a b:Nat}(ha:a<m) (hb:b<m) (hT:T (e a) (e b)=N a b):Lbl m e (jN T g (e a,e b)) (jN N h (a,b)):=by
 have inj:∀x y,x<m→y<m→(e x=e y↔x=y):=by
  intro x y hx hy;refine⟨fun q=>?_,fun q=>by rw [q]⟩;rcases Nat.lt_trichotomy x y with c|c|c
  ·have:=he x y hx hy c;omega
  ·exact c
  ·have:=he y x hy hx c;omega
 obtain⟨a1,a2⟩:=H a ha;obtain⟨b1,b2⟩:=H b hb;unfold jN;dsimp only;rw [a2,b2,hT];have k:(e (h a)≠e (h b)∧N a b=true)↔(h a≠h b∧N a b=true):=by rw [Ne,inj _ _ a1 b1]
 by_cases c:h a≠h b∧N a b=true
 ·rw [if_pos (k.2 c),if_pos c];intro x hx;obtain⟨x1,x2⟩:=H x hx;unfold lP;rw [a2,b2,x2]
  have hM:max (e (h a)) (e (h b))=e (max (h a) (h b)):=by
   rcases Nat.lt_or_ge (h a) (h b)with q|q
   ·have:=he _ _ a1 b1 q;rw [Nat.max_eq_right om,Nat.max_eq_right om]
   ·rcases Nat.eq_or_lt_of_le q with q|q
    ·rw [q,Nat.max_self,Nat.max_self]
    ·have:=he _ _ b1 a1 q;rw [Nat.max_eq_left om,Nat.max_eq_left om]
  have hm:min (e (h a)) (e (h b))=e (min (h a) (h b)):=by
   rcases Nat.lt_or_ge (h a) (h b)with q|q
   ·have:=he _ _ a1 b1 q;rw [Nat.min_eq_left om,Nat.min_eq_left om]
   ·rcases Nat.eq_or_lt_of_le q with q|q
    ·rw [q,Nat.min_self,Nat.min_self]
    ·have:=he _ _ b1 a1 q;rw [Nat.min_eq_right om,Nat.min_eq_right om]
  have lM:max (h a) (h b)<m:=by omega
  have lm:min (h a) (h b)<m:=by omega
  rw [hM,hm];by_cases d:h x=max (h a) (h b)
  ·rw [if_pos d,if_pos (by rw [d])];exact⟨lm,rfl⟩
  ·rw [if_neg d,if_neg (fun q=>d ((inj _ _ x1 lM).1 q))];exact⟨x1,rfl⟩
 ·rw [if_neg (fun q=>c (k.1 q)),if_neg c];exact H
theorem yx {m:Nat}{e:Nat→Nat}(he:∀a b,a<m→b<m→a<b→e a<e b){T N:Nat→Nat→Bool}:∀(l:List (Nat×Nat)){g h:Nat→Nat},Lbl m e g h→(∀p∈l,p.1<m∧p.2<m∧T (e p.1) (e p.2)=N p.1 p.2)→Lbl m e ((l.map (fun p=>(e p.1,e p.2))).foldl (jN T) g) (l.foldl (jN N) h)
 | [],_,_,H,_=>H
 |p::l,g,h,H,k=>by
  obtain⟨k1,k2,k3⟩:=k p (List.mem_cons_self ..);rw [List.map_cons,List.foldl_cons,List.foldl_cons];exact yx he l (G9 he H k1 k2 k3) (fun q hq=>k q (Mc hq))
theorem ou {α:Type}(x:α):∀(l pre:List α),ie pre (l++[x])=ie pre l++(pre++l).map fun k=>(x,k)
 | [],pre=>by simp [ie]
 |y::l,pre=>by
  rw [List.cons_append];unfold ie;rw [ou x l (pre++[y]),List.append_assoc,List.append_assoc,List.singleton_append]
theorem uJ {β:Type}(f:β→Nat×Nat→β) (n:Nat) (g:β):(ie [] (List.range n)).foldl f g=(List.range n).foldl (fun g i=>(List.range i).foldl (fun g k=>f g (i,k)) g) g:=by
 induction n with
 |zero=>rfl
 |succ n ih =>
  rw [List.range_succ,ou,List.foldl_append,ih,List.foldl_append,List.nil_append,List.foldl_map];rfl
theorem F8 {n:Nat}:∀{p:Nat×Nat},p∈ie [] (List.range n)→p.1<n∧p.2<p.1:=by
 induction n with
 |zero=>intro p h;cases h
 |succ n ih =>
  intro p h;rw [List.range_succ,ou]at h;rcases List.mem_append.1 h with h|h
  ·have:=ih h;omega
  ·obtain⟨k,hk,rfl⟩:=List.mem_map.1 h;rw [List.nil_append]at hk;have:=List.mem_range.1 hk;exact⟨by show n<n+1;omega,this⟩
theorem DO (l:Pts) (k:Nat) (g:Nat→Nat) (j:Nat):AN l k g j=fV (inB l) (fun a b=>dD (clB l a) (clB l b)) g (k,j):=by
 unfold AN jnB fV jN;dsimp only;cases inB l k <;> cases inB l j <;> simp
theorem p7 (l:Pts):eE l=(ie [] (List.range l.length)).foldl (fV (inB l) fun a b=>dD (clB l a) (clB l b)) id:=by
 rw [uJ];unfold eE Hg;congr 1
 funext g i
 congr 1
 funext g k
 exact DO l i g k
theorem Du (L:List (List Li)) (i:Nat) (g:Nat→Nat) (k:Nat):Dv L i g k=jN (fun a b=>gL (rgA L b) (rgA L a)) g (i,k):=by
 unfold Dv jnR jN;dsimp only;simp
theorem GB (L:List (List Li)):pQ L=(ie [] (List.range L.length)).foldl (jN fun a b=>gL (rgA L b) (rgA L a)) id:=by
 rw [uJ];unfold pQ Jy;congr 1
 funext g i
 congr 1
 funext g k
 exact Du L i g k
theorem rT {a b:List Li}(h:Shr a b):Shr b a:=by
 obtain⟨l,hl,hn,t,ht⟩:=h;refine⟨l.neg,hn,by rw [du];exact hl,-t,fun m hm h1 h2=>?_⟩;rw [Ai];rw [du]at h2;exact ht m hm.symm h2 h1
theorem Ah {a b:List Li}(ha:∀l∈a,l.ok) (hb:∀l∈b,l.ok):gL a b=gL b a:=by
 rw [Bool.eq_iff_iff,pK ha,pK hb];exact⟨rT,rT⟩
def gN (w:Nat→Bool) (n:Nat):List Nat:=(List.range n).filter w
abbrev enN (w:Nat→Bool) (n:Nat) (a:Nat):Nat:=(gN w n).getD a 0
theorem BQ {w:Nat→Bool}{n k:Nat}(h:k∈gN w n):k<n∧w k=true:=by
 unfold gN at h;have:=List.mem_filter.1 h;exact⟨List.mem_range.1 this.1,this.2⟩
theorem Gj (w:Nat→Bool) (n:Nat):(gN w n).Pairwise (· < ·):=List.Pairwise.filter _ List.pairwise_lt_range
theorem vF {w:Nat→Bool}{n a:Nat}(h:a<(gN w n).length):(gN w n)[a]? = some (enN w n a):=by
 unfold enN;rw [List.getD,List.getElem?_eq_getElem h];rfl
theorem GU {w:Nat→Bool}{n a:Nat}(h:a<(gN w n).length):enN w n a∈gN w n:=List.mem_of_getElem? (vF h)
theorem C6 {w:Nat→Bool}{n a b:Nat}(ha:a<(gN w n).length) (hb:b<(gN w n).length) (h:a<b):enN w n a<enN w n b:=by
 have h1:=vF ha;have h2:=vF hb;rw [List.getElem?_eq_getElem ha,Option.some.injEq]at h1;rw [List.getElem?_eq_getElem hb,Option.some.injEq]at h2;rw [←h1,←h2];exact List.pairwise_iff_getElem.1 (Gj w n) a b ha hb h
theorem yE (w:Nat→Bool) (n:Nat):gN w n=(List.range (gN w n).length).map (enN w n):=by
 refine List.ext_getElem? fun a=>?_
 rw [List.getElem?_map];by_cases h:a<(gN w n).length
 ·rw [List.getElem?_range h,vF h];rfl
 ·rw [List.getElem?_eq_none om,List.getElem?_eq_none (by simpa using h)];rfl
theorem yS {α:Type}(d:α) (p:α→Bool) (Y:List α):Y.filter p=(gN (fun k=>p (Y.getD k d)) Y.length).map fun k=>Y.getD k d:=by
 have e:Y=(List.range Y.length).map fun k=>Y.getD k d:=by
  refine List.ext_getElem? fun a=>?_
  rw [List.getElem?_map];by_cases h:a<Y.length
  ·rw [List.getElem?_range h,List.getElem?_eq_getElem h,Option.map_some,List.getD,List.getElem?_eq_getElem h];rfl
  ·rw [List.getElem?_eq_none om,List.getElem?_eq_none (by simpa using h)];rfl
 conv=>lhs;rw [e]
 rw [List.filter_map];rfl
end Go.Ab
