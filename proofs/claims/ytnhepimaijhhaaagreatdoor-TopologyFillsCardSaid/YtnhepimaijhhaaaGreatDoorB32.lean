/- Texts laid one behind the other: GwJ, Fce, Eqv, Gd. -/
import Derived.Test.YtnhepimaijhhaaaGreatDoorB31
set_option linter.all false
set_option maxHeartbeats 16000000
namespace Go.Ab
open Go.Proofs
variable [Base]
theorem xH {p q:Pq}(hp:Iq p) (hq:Iq q) (h:p≠q):Pu Tryz.prog 92 [ag (rpx p),ag (rpx q)] (Ab.tup [ag (fqx (xF p q)),lit (.bool true)]):=by
 have hl:=s5 hp hq h;have b1:=hp.ht;have b2:=hq.ht
 have hne:q.1-p.1≠0∨q.2-p.2≠0:=by
  by_cases h1:q.1-p.1=0
  ·right;intro h2;exact h (Prod.ext (by grind) (by grind))
  ·exact .inl h1
 have c1:=rL (x:=p.1) (y:=p.2) (u:=q.1) (v:=q.2) (L:=10) om om om om om hne;have c2:=mg (l:=thr p.1 p.2 q.1 q.2) (p:=p) hl ⟨om,om⟩;have c3:=mg (l:=thr p.1 p.2 q.1 q.2) (p:=q) hl ⟨om,om⟩;unfold xF;clear hl b1 b2 hne;generalize thr p.1 p.2 q.1 q.2=l at *;generalize cl l p=s at *;generalize cl l q=t at *;refine Pi Tryz.func92 fun C=>?_
 repeat(first|(refine A1 ⟨?_⟩;intros)|refine W4 c1 ⟨?_⟩|refine W4 c2 ⟨?_⟩|refine W4 c3 ⟨?_⟩)
 exact G3
theorem GX {l:List Pq}{k:Nat}(h:k<l.length):(dS l)[k]? = some (xF (l.getD k (0,0)) (l.getD ((k+1)%l.length) (0,0))):=by
 unfold dS;rw [List.getElem?_map,List.getElem?_range h];rfl
theorem w5 {l:List Pq}{k:Nat}(h:k<l.length):(((l.map rpx).flatten).drop (k*6)).take 6=rpx (l.getD k (0,0)):=e6 (f:=rpx) (n:=6) bD (by rw [List.getD,List.getElem?_eq_getElem h];rfl)
theorem uG {l:List Pq}(h:eL l):Pu Tryz.prog 48 [rps l] (fqs (dS l)):=by
 have hel:=oV l;have h6:=h.1;refine Pi Tryz.func48 fun C=>?_
 repeat(refine A1 ⟨?_⟩;intros)
 refine WP.loopS (ι:=pf) (fun y=>y.k≤l.length∧Own fT 14 y.k (((dS l).take y.k).map fqx).flatten y.s y.Hs) (fun y=>l.length-y.k)
  (fun y=>fm [(0,rps l),(3,y.s),(7,rps l),(8,lit (.int .i64 l.length)),(9,lit (.int .i64 y.k))]) (fun y=>y.Hs) ⟨0,lit (.slice none 0 0),[]⟩
  ⟨Nat.zero_le _,Own.nil _ _⟩ lfA (List.nil_sublist _) ?_
 rintro ⟨k,s,Hs⟩ ⟨hk,hown⟩ K hK;simp only at hk hown⊢;have hco:=hown.co;by_cases hkl:k<l.length
 ·obtain⟨g1,g2,g3⟩:=EP h hkl;have c:=xH g1 g2 g3;have hget:=GX hkl;have hml:(k+1)%l.length<l.length:=Nat.mod_lt _ om;have hat:=w5 hkl;have hat2:=w5 hml;have hne:(l.map rpx).flatten≠[]:=dZ bD om (fun e=>by rw [e]at hkl;simp at hkl);have htm:((k:Int)+1).tmod (l.length:Int)=(((k+1)%l.length:Nat):Int):=rfl;have htm1:0≤((k:Int)+1).tmod (l.length:Int):=by rw [htm];omega
  have htm2:((k:Int)+1).tmod (l.length:Int)<(l.length:Int):=by rw [htm];exact_mod_cast hml
  have hat2':(((l.map rpx).flatten).drop ((((k:Int)+1).tmod (l.length:Int)).toNat*6)).take 6=rpx (l.getD ((k+1)%l.length) (0,0)):=by rw [htm];exact hat2
  have hgo:=fun s' Hs' h F' H'=>hK F' H' ⟨k+1,s',Hs'⟩ ⟨by simp only;omega,h⟩ (by simp only;omega)
  simp only [eI hget]at hgo;clear hK h htm hat2 hget hel;generalize xF (l.getD k (0,0)) (l.getD ((k+1)%l.length) (0,0))=f at *;generalize l.getD ((k+1)%l.length) (0,0)=q at *;generalize l.getD k (0,0)=p at *;repeat(first|(refine AS ⟨?_⟩;intros)|(refine O1 ⟨?_⟩;intros))
  refine WdL 17 1 ?_;repeat(refine A1 ⟨?_⟩;intros)
  refine Wdo (a7 (cs':=rpx p) rfl rfl om om hat hne) ?_;repeat(refine A1 ⟨?_⟩;intros)
  refine Wdo (a7 (cs':=rpx q) rfl rfl htm1 htm2 hat2' hne) ?_;repeat(first|(refine A1 ⟨?_⟩;intros)|refine W4 c ⟨?_⟩)
  refine dL1 fun b5=>?_
  refine Gs (sv:=ag (fqx f)) (cs':=fqx f) rfl rfl rfl (.here _) rfl rfl ?_ ?_
  ·(repeat(first|exact LOk.nil|refine Lsk ?_|refine Lcv ?_))
  refine Gn ?_ ?_
  ·(repeat(first|exact LOk.nil|refine Lsk ?_|refine Lcv ?_))
  repeat(first|(refine Wo (aE (fqx f) rfl) ?_)|(refine Wdo (aE (fqx f) rfl) ?_)|(refine A1 ⟨?_⟩;intros))
  refine iG (ds:=fqx f) hown (Tk.skip _ (Tk.same _)) om (fun s' H1 hown'=>?_);have hco':=hown'.co;replace hgo:=hgo s' H1 hown';clear hown hown';repeat(refine A1 ⟨?_⟩;intros)
  exact hgo _ _ lfA (Sc Sr)
 ·have hke:k=l.length:=by omega
  subst hke;have hl2:l.length=(dS l).length:=hel.symm;rw [hl2,List.take_length]at hown;refine WP.rowS 3 hown rfl (by rw [List.append_nil]) ?_;clear hK hown;exact Z1
def iP (l:List Pq) (p:Pq) (n:Int) (i:Nat):Int :=
 if((l.getD i (0,0)).2-p.2).num.sign≤0 then
  (if((l.getD ((i+1)%l.length) (0,0)).2-p.2).num.sign≤0 then n else if 0<oC (l.getD i (0,0)) (l.getD ((i+1)%l.length) (0,0)) p then n+1 else n)
 else(if((l.getD ((i+1)%l.length) (0,0)).2-p.2).num.sign≤0 then(if oC (l.getD i (0,0)) (l.getD ((i+1)%l.length) (0,0)) p<0 then n-1 else n)else n)
def u5 (l:List Pq) (p:Pq):Int:=(List.range l.length).foldl (iP l p) 0
theorem ye (l:List Pq) (p:Pq) (n:Int) (i:Nat):(iP l p n i).natAbs≤n.natAbs+1:=by
 unfold iP;split <;> split <;> (try split) <;> omega
theorem sP (l:List Pq) (p:Pq):∀k:Nat,((List.range k).foldl (iP l p) 0).natAbs≤k
 |0=>Nat.le_refl _
 |k+1=>by
  have:=sP l p k;have:=ye l p ((List.range k).foldl (iP l p) 0) k;rw [List.range_succ,List.foldl_append];show(iP l p _ k).natAbs≤k+1
  omega
theorem yf (l:List Pq) (p:Pq):(u5 l p).natAbs≤l.length:=sP l p l.length
theorem zT {l:List Pq}{p:Pq}(hl:l.length≤100000) (hh:∀q∈l,hp q 900) (hp':hp p 900):Pu Tryz.prog 137 [rps l,ag (rpx p)] (lit (.int .i64 (u5 l p))):=by
 unfold u5;obtain⟨p1,p2⟩:=hp';refine Pi Tryz.func137 fun C=>?_
 repeat(first|(refine Wo (aB (sv:=ag _) rfl) ?_)|(refine Wdo (aB (sv:=ag _) rfl) ?_)|(refine A1 ⟨?_⟩;intros))
 refine WP.loopS (ι:=Nat×Int) (fun y=>y.1≤l.length∧y.2=(List.range y.1).foldl (iP l p) 0) (fun y=>l.length-y.1)
  (fun y=>fm [(0,rps l),(3,pt (rpx p)),(5,lit (.int .i64 y.2)),(11,rps l),(12,lit (.int .i64 l.length)),(13,lit (.int .i64 y.1))]) (fun _=>[]) (0,0)
  ⟨Nat.zero_le _,rfl⟩ lfA (List.nil_sublist _) ?_
 rintro ⟨k,z⟩ ⟨hk,hz⟩ K hK;simp only at hk hz⊢;by_cases hkl:k<l.length
 ·have hgo:=fun F' H'=>hK F' H' (k+1,iP l p z k) ⟨by simp only;omega,by rw [List.range_succ,List.foldl_append,←hz];rfl⟩ (by simp only;omega)
  have hza:=sP l p k;rw [←hz]at hza;have hml:(k+1)%l.length<l.length:=Nat.mod_lt _ om;have hat:=w5 hkl;have hat2:=w5 hml;have m1:l.getD k (0,0)∈l:=List.mem_of_getElem? (i:=k) (by rw [List.getD,List.getElem?_eq_getElem hkl];rfl);have m2:l.getD ((k+1)%l.length) (0,0)∈l:=List.mem_of_getElem? (i:=(k+1)%l.length) (by rw [List.getD,List.getElem?_eq_getElem hml];rfl);have hne:(l.map rpx).flatten≠[]:=dZ bD om (fun e=>by rw [e]at hkl;simp at hkl);have htm:((k:Int)+1).tmod (l.length:Int)=(((k+1)%l.length:Nat):Int):=rfl;have htm1:0≤((k:Int)+1).tmod (l.length:Int):=by rw [htm];omega
  have htm2:((k:Int)+1).tmod (l.length:Int)<(l.length:Int):=by rw [htm];exact_mod_cast hml
  have hat2':(((l.map rpx).flatten).drop ((((k:Int)+1).tmod (l.length:Int)).toNat*6)).take 6=rpx (l.getD ((k+1)%l.length) (0,0)):=by rw [htm];exact hat2
  have v1:=hh _ m1;have v2:=hh _ m2;unfold iP at hgo;clear hK hh hz htm hat2 m1 m2;generalize l.getD ((k+1)%l.length) (0,0)=w at *;generalize l.getD k (0,0)=v at *;obtain⟨a1,a2⟩:=v1;obtain⟨a3,a4⟩:=v2;have c1:=jm v.2 p.2 om om;have c2:=jm w.2 p.2 om om;have c3:=zS v w p ⟨om,om⟩ ⟨om,om⟩ ⟨om,om⟩;generalize(v.2-p.2).num.sign=za at *;generalize(w.2-p.2).num.sign=zb at *;generalize oC v w p=zo at *;clear a1 a2 a3 a4 p1 p2;by_cases ha:za≤0
  ·rw [if_pos ha]at hgo;by_cases hb:zb≤0
   ·rw [if_pos hb]at hgo;repeat(first|(refine AS ⟨?_⟩;intros)|(refine O1 ⟨?_⟩;intros))
    refine WdL 14 1 ?_;repeat(refine A1 ⟨?_⟩;intros)
    refine Wdo (a7 (cs':=rpx v) rfl rfl om om hat hne) ?_;repeat(refine A1 ⟨?_⟩;intros)
    refine Wdo (a7 (cs':=rpx w) rfl rfl htm1 htm2 hat2' hne) ?_;repeat(refine A1 ⟨?_⟩;intros)
    refine dL2 fun b7 b8=>?_
    refine Gs (sv:=ag (rpx v)) (cs':=rpx v) rfl rfl rfl (by first|exact .here _|exact .there _ (.here _)) rfl rfl ?_ ?_
    ·((repeat(first|exact LOk.nil|refine Lsk ?_|refine Lcv ?_));refine Lcv ?_ (a7 (cs':=rpx w) rfl rfl htm1 htm2 hat2' hne);(repeat(first|exact LOk.nil|refine Lsk ?_|refine Lcv ?_)))
    refine Gn ?_ ?_
    ·((repeat(first|exact LOk.nil|refine Lsk ?_|refine Lcv ?_));refine Lcv ?_ (a7 (cs':=rpx w) rfl rfl htm1 htm2 hat2' hne);(repeat(first|exact LOk.nil|refine Lsk ?_|refine Lcv ?_)))
    repeat(first|(refine A1 ⟨?_⟩;intros)|refine W4 c1 ⟨?_⟩|refine W4 c2 ⟨?_⟩|refine W4 c3 ⟨?_⟩)
    exact hgo _ _ lfA (List.nil_sublist _)
   ·rw [if_neg hb]at hgo;by_cases ho:0<zo
    ·rw [if_pos ho]at hgo;repeat(first|(refine AS ⟨?_⟩;intros)|(refine O1 ⟨?_⟩;intros))
     refine WdL 14 1 ?_;repeat(refine A1 ⟨?_⟩;intros)
     refine Wdo (a7 (cs':=rpx v) rfl rfl om om hat hne) ?_;repeat(refine A1 ⟨?_⟩;intros)
     refine Wdo (a7 (cs':=rpx w) rfl rfl htm1 htm2 hat2' hne) ?_;repeat(refine A1 ⟨?_⟩;intros)
     refine dL2 fun b7 b8=>?_
     refine Gs (sv:=ag (rpx v)) (cs':=rpx v) rfl rfl rfl (by first|exact .here _|exact .there _ (.here _)) rfl rfl ?_ ?_
     ·((repeat(first|exact LOk.nil|refine Lsk ?_|refine Lcv ?_));refine Lcv ?_ (a7 (cs':=rpx w) rfl rfl htm1 htm2 hat2' hne);(repeat(first|exact LOk.nil|refine Lsk ?_|refine Lcv ?_)))
     refine Gn ?_ ?_
     ·((repeat(first|exact LOk.nil|refine Lsk ?_|refine Lcv ?_));refine Lcv ?_ (a7 (cs':=rpx w) rfl rfl htm1 htm2 hat2' hne);(repeat(first|exact LOk.nil|refine Lsk ?_|refine Lcv ?_)))
     repeat(first|(refine A1 ⟨?_⟩;intros)|refine W4 c1 ⟨?_⟩|refine W4 c2 ⟨?_⟩|refine W4 c3 ⟨?_⟩)
     exact hgo _ _ lfA (List.nil_sublist _)
    ·rw [if_neg ho]at hgo;repeat(first|(refine AS ⟨?_⟩;intros)|(refine O1 ⟨?_⟩;intros))
     refine WdL 14 1 ?_;repeat(refine A1 ⟨?_⟩;intros)
     refine Wdo (a7 (cs':=rpx v) rfl rfl om om hat hne) ?_;repeat(refine A1 ⟨?_⟩;intros)
     refine Wdo (a7 (cs':=rpx w) rfl rfl htm1 htm2 hat2' hne) ?_;repeat(refine A1 ⟨?_⟩;intros)
     refine dL2 fun b7 b8=>?_
     refine Gs (sv:=ag (rpx v)) (cs':=rpx v) rfl rfl rfl (by first|exact .here _|exact .there _ (.here _)) rfl rfl ?_ ?_
     ·((repeat(first|exact LOk.nil|refine Lsk ?_|refine Lcv ?_));refine Lcv ?_ (a7 (cs':=rpx w) rfl rfl htm1 htm2 hat2' hne);(repeat(first|exact LOk.nil|refine Lsk ?_|refine Lcv ?_)))
     refine Gn ?_ ?_
     ·((repeat(first|exact LOk.nil|refine Lsk ?_|refine Lcv ?_));refine Lcv ?_ (a7 (cs':=rpx w) rfl rfl htm1 htm2 hat2' hne);(repeat(first|exact LOk.nil|refine Lsk ?_|refine Lcv ?_)))
     repeat(first|(refine A1 ⟨?_⟩;intros)|refine W4 c1 ⟨?_⟩|refine W4 c2 ⟨?_⟩|refine W4 c3 ⟨?_⟩)
     exact hgo _ _ lfA (List.nil_sublist _)
  ·rw [if_neg ha]at hgo;by_cases hb:zb≤0
   ·rw [if_pos hb]at hgo;by_cases ho:zo<0
    ·rw [if_pos ho]at hgo;repeat(first|(refine AS ⟨?_⟩;intros)|(refine O1 ⟨?_⟩;intros))
     refine WdL 14 1 ?_;repeat(refine A1 ⟨?_⟩;intros)
     refine Wdo (a7 (cs':=rpx v) rfl rfl om om hat hne) ?_;repeat(refine A1 ⟨?_⟩;intros)
     refine Wdo (a7 (cs':=rpx w) rfl rfl htm1 htm2 hat2' hne) ?_;repeat(refine A1 ⟨?_⟩;intros)
     refine dL2 fun b7 b8=>?_
     refine Gs (sv:=ag (rpx v)) (cs':=rpx v) rfl rfl rfl (by first|exact .here _|exact .there _ (.here _)) rfl rfl ?_ ?_
     ·((repeat(first|exact LOk.nil|refine Lsk ?_|refine Lcv ?_));refine Lcv ?_ (a7 (cs':=rpx w) rfl rfl htm1 htm2 hat2' hne);(repeat(first|exact LOk.nil|refine Lsk ?_|refine Lcv ?_)))
     refine Gn ?_ ?_
     ·((repeat(first|exact LOk.nil|refine Lsk ?_|refine Lcv ?_));refine Lcv ?_ (a7 (cs':=rpx w) rfl rfl htm1 htm2 hat2' hne);(repeat(first|exact LOk.nil|refine Lsk ?_|refine Lcv ?_)))
     repeat(first|(refine A1 ⟨?_⟩;intros)|refine W4 c1 ⟨?_⟩|refine W4 c2 ⟨?_⟩|refine W4 c3 ⟨?_⟩)
     exact hgo _ _ lfA (List.nil_sublist _)
    ·rw [if_neg ho]at hgo;repeat(first|(refine AS ⟨?_⟩;intros)|(refine O1 ⟨?_⟩;intros))
     refine WdL 14 1 ?_;repeat(refine A1 ⟨?_⟩;intros)
     refine Wdo (a7 (cs':=rpx v) rfl rfl om om hat hne) ?_;repeat(refine A1 ⟨?_⟩;intros)
     refine Wdo (a7 (cs':=rpx w) rfl rfl htm1 htm2 hat2' hne) ?_;repeat(refine A1 ⟨?_⟩;intros)
     refine dL2 fun b7 b8=>?_
     refine Gs (sv:=ag (rpx v)) (cs':=rpx v) rfl rfl rfl (by first|exact .here _|exact .there _ (.here _)) rfl rfl ?_ ?_
     ·((repeat(first|exact LOk.nil|refine Lsk ?_|refine Lcv ?_));refine Lcv ?_ (a7 (cs':=rpx w) rfl rfl htm1 htm2 hat2' hne);(repeat(first|exact LOk.nil|refine Lsk ?_|refine Lcv ?_)))
     refine Gn ?_ ?_
     ·((repeat(first|exact LOk.nil|refine Lsk ?_|refine Lcv ?_));refine Lcv ?_ (a7 (cs':=rpx w) rfl rfl htm1 htm2 hat2' hne);(repeat(first|exact LOk.nil|refine Lsk ?_|refine Lcv ?_)))
     repeat(first|(refine A1 ⟨?_⟩;intros)|refine W4 c1 ⟨?_⟩|refine W4 c2 ⟨?_⟩|refine W4 c3 ⟨?_⟩)
     exact hgo _ _ lfA (List.nil_sublist _)
   ·rw [if_neg hb]at hgo;repeat(first|(refine AS ⟨?_⟩;intros)|(refine O1 ⟨?_⟩;intros))
    refine WdL 14 1 ?_;repeat(refine A1 ⟨?_⟩;intros)
    refine Wdo (a7 (cs':=rpx v) rfl rfl om om hat hne) ?_;repeat(refine A1 ⟨?_⟩;intros)
    refine Wdo (a7 (cs':=rpx w) rfl rfl htm1 htm2 hat2' hne) ?_;repeat(refine A1 ⟨?_⟩;intros)
    refine dL2 fun b7 b8=>?_
    refine Gs (sv:=ag (rpx v)) (cs':=rpx v) rfl rfl rfl (by first|exact .here _|exact .there _ (.here _)) rfl rfl ?_ ?_
    ·((repeat(first|exact LOk.nil|refine Lsk ?_|refine Lcv ?_));refine Lcv ?_ (a7 (cs':=rpx w) rfl rfl htm1 htm2 hat2' hne);(repeat(first|exact LOk.nil|refine Lsk ?_|refine Lcv ?_)))
    refine Gn ?_ ?_
    ·((repeat(first|exact LOk.nil|refine Lsk ?_|refine Lcv ?_));refine Lcv ?_ (a7 (cs':=rpx w) rfl rfl htm1 htm2 hat2' hne);(repeat(first|exact LOk.nil|refine Lsk ?_|refine Lcv ?_)))
    repeat(first|(refine A1 ⟨?_⟩;intros)|refine W4 c1 ⟨?_⟩|refine W4 c2 ⟨?_⟩|refine W4 c3 ⟨?_⟩)
    exact hgo _ _ lfA (List.nil_sublist _)
 ·have hke:k=l.length:=by omega
  subst hke;subst hz;clear hK;exact Z1
def Ln (fill n:Int):Bool:=if fill=1 then decide (n.tmod 2≠0)else decide (n≠0)
theorem xS (fill n:Int) (hf:fill=1∨fill=2) (hn:n.natAbs≤1000000000):Pu Tryz.prog 138 [lit (.int .i64 fill),lit (.int .i64 n)] (lit (.bool (Ln fill n))):=by
 unfold Ln;rcases hf with rfl|rfl
 ·rw [if_pos rfl];by_cases h:n.tmod 2=0
  ·rw [decide_eq_false (fun k=>k h)];refine Pi Tryz.func138 fun C=>?_
   exact Z1
  ·rw [decide_eq_true h];refine Pi Tryz.func138 fun C=>?_
   exact Z1
 ·rw [if_neg (by decide)];by_cases h:n=0
  ·rw [decide_eq_false (fun k=>k h)];refine Pi Tryz.func138 fun C=>?_
   exact Z1
  ·rw [decide_eq_true h];refine Pi Tryz.func138 fun C=>?_
   exact Z1
abbrev s8 (rs:List (List Pq)):SV:=sl (rs.map fun r=>[rps r]).flatten rs.length
abbrev zu (rs:List (List Pq)):SV:=sl (rs.map fun r=>[aps r]).flatten rs.length
abbrev rgR (rs:List (List Pq)) (fill:Int) (ls:List Li):SV:=ag [s8 rs,lit (.int .i64 fill),lqs ls]
def inR (rs:List (List Pq)) (fill:Int) (p:Pq):Bool:=Ln fill (rs.foldl (fun n r=>n+u5 r p) 0)
theorem wL (p:Pq):∀(rs:List (List Pq)) (n:Int),(∀r∈rs,r.length≤6)→(rs.foldl (fun n r=>n+u5 r p) n).natAbs≤n.natAbs+6*rs.length
 | [],n,_=>by simp
 |r::rs,n,h=>by
  have:=wL p rs (n+u5 r p) (fun r hr=>h r (Mc hr));have h1:=yf r p;have h2:=h r Ms;rw [List.foldl_cons,List.length_cons];omega
theorem Ib {rs:List (List Pq)}{fill:Int}{ls:List Li}{p:Pq}(hf:fill=1∨fill=2) (hl:rs.length≤1000) (hh:∀r∈rs,eL r) (hp':hp p 900):Pu Tryz.prog 94 [rgR rs fill ls,ag (rpx p)] (lit (.bool (inR rs fill p))):=by
 have h6:∀r∈rs,r.length≤6:=fun r hr=>(hh r hr).1
 have hb:=fun k=>wL p (rs.take k) 0 (fun r hr=>h6 r (List.mem_of_mem_take hr))
 have hbl:=wL p rs 0 h6;have ca:=xS fill (rs.foldl (fun n r=>n+u5 r p) 0) hf (by have e:(0:Int).natAbs=0:=rfl;omega);unfold inR;refine Pi Tryz.func94 fun C=>?_
 repeat(first|(refine Wo (aB (sv:=ag _) rfl) ?_)|(refine Wdo (aB (sv:=ag _) rfl) ?_)|(refine A1 ⟨?_⟩;intros))
 refine WP.loopS (ι:=Nat×Int) (fun y=>y.1≤rs.length∧y.2=(rs.take y.1).foldl (fun n r=>n+u5 r p) 0) (fun y=>rs.length-y.1)
  (fun y=>fm [(2,pt [s8 rs,lit (.int .i64 fill),lqs ls]),(3,pt (rpx p)),(5,lit (.int .i64 y.2)),(9,s8 rs),(10,lit (.int .i64 rs.length)),(11,lit (.int .i64 y.1))]) (fun _=>[]) (0,0)
  ⟨Nat.zero_le _,rfl⟩ lfA (List.nil_sublist _) ?_
 rintro ⟨k,z⟩ ⟨hk,hz⟩ K hK;simp only at hk hz⊢;by_cases hkl:k<rs.length
 ·obtain⟨r,hget,hmm,hat,hne⟩:=elt (f:=fun r=>[rps r]) (n:=1) (fun _=>rfl) om hkl;have hgo:=fun F' H'=>hK F' H' (k+1,z+u5 r p) ⟨by simp only;omega,by simp only;rw [kR hget,←hz]⟩ (by simp only;omega)
  have c:=zT (l:=r) (p:=p) (by have:=h6 r hmm;omega) (fun q hq=>⟨by have:=((hh r hmm).2.1 q hq).ht.1;omega,by have:=((hh r hmm).2.1 q hq).ht.2;omega⟩) hp';have hzb:=hb k;rw [←hz,List.length_take]at hzb;have hnb:=yf r p;have h6r:=h6 r hmm;have e0:(0:Int).natAbs=0:=rfl;clear hK hh hget hmm hz hb hbl ca h6;generalize u5 r p=z2 at *;repeat(refine A1 ⟨?_⟩;intros)
  refine Wo (a7 (cs':=[rps r]) rfl rfl om om hat hne) ?_;repeat(first|(refine A1 ⟨?_⟩;intros)|refine W4 c ⟨?_⟩)
  exact hgo _ _ lfA (List.nil_sublist _)
 ·have hke:k=rs.length:=by omega
  subst hke;rw [List.take_length]at hz;rw [←hz]at ca⊢;clear hK hb hbl;exact Y1 ca
def Cvx (I:Pq→Prop):Prop:=∀p q (s:Rat),I p→I q→0≤s→s≤1→I (q.1+s*(p.1-q.1),q.2+s*(p.2-q.2))
theorem Cvx.left {I:Pq→Prop}(h:Cvx I) (l:Li):Cvx fun q=>I q∧0<a6 l q:=fun p q s hp hq h0 h1=>by
 refine⟨h p q s hp.1 hq.1 h0 h1,?_⟩;rw [iI];have:=Rat.mul_nonneg h0 (Rat.le_of_lt hp.2);have:=Rat.mul_nonneg (show 0≤1-s by grind) (Rat.le_of_lt hq.2);have a:=hp.2;have b:=hq.2;by_cases e:s=0
 ·rw [e];grind
 ·have:=Rat.mul_pos (show 0<s by grind) a;grind
theorem Cvx.right {I:Pq→Prop}(h:Cvx I) (l:Li):Cvx fun q=>I q∧a6 l q<0:=fun p q s hp hq h0 h1=>by
 refine⟨h p q s hp.1 hq.1 h0 h1,?_⟩;rw [iI];have a:=hp.2;have b:=hq.2;have:=Rat.mul_nonneg (show 0≤1-s by grind) (show 0≤- a6 l q by grind);by_cases e:s=0
 ·rw [e];grind
 ·have:=Rat.mul_pos (show 0<s by grind) (show 0 < - a6 l p by grind);grind
theorem rv (c:List Li):Cvx (Inn c):=fun p q s hp hq h0 h1 l hl=>by
 rw [iI];have a:=hp l hl;have b:=hq l hl;have:=Rat.mul_nonneg (show 0≤1-s by grind) (Rat.le_of_lt b);by_cases e:s=0
 ·rw [e];grind
 ·have:=Rat.mul_pos (show 0<s by grind) a;grind
theorem xe {I:Pq→Prop}(h:Cvx I){m:Li}{p q:Pq}(hp:I p) (hq:I q) (h1:0<a6 m p) (h2:a6 m q<0):∃r,I r∧a6 m r=0∧∀l,a6 l p=0→a6 l q=0→a6 l r=0:=by
 have hd:a6 m p-a6 m q≠0:=by grind
 have hd':0<a6 m p-a6 m q:=by grind
 have e : -a6 m q/(a6 m p-a6 m q)*(a6 m p-a6 m q) = -a6 m q:=Rat.div_mul_cancel hd
 have s0:0≤-a6 m q/(a6 m p-a6 m q):=by
  rw [Rat.div_def];exact Rat.mul_nonneg (by grind) (Rat.le_of_lt (Rat.inv_pos.2 hd'))
 have s1 : -a6 m q/(a6 m p-a6 m q)≤1:=by
  by_cases c : -a6 m q/(a6 m p-a6 m q)≤1
  ·exact c
  ·exfalso;have:=Rat.mul_pos (show 0 < -a6 m q/(a6 m p-a6 m q)-1 by grind) hd';grind
 generalize -a6 m q/(a6 m p-a6 m q)=s at *;refine⟨_,h p q s hp hq s0 s1,?_,fun l a b=>?_⟩
 ·rw [iI,e];grind
 ·rw [iI,a,b];grind
theorem Dy {l m:Li}(hl:l.ok) (hs:slp l m=0){p q:Pq}(hp:a6 l p=0) (hq:a6 l q=0):a6 m p=a6 m q:=by
 unfold a6 slp at *
 have h:(l.a:Rat)≠0∨(l.b:Rat)≠0:=by
  rcases hl.2 with r|r
  ·exact .inl fun e=>r (Rat.intCast_eq_zero_iff.1 e)
  ·exact .inr fun e=>r (Rat.intCast_eq_zero_iff.1 e)
 generalize(l.a:Rat)=a at *;generalize(l.b:Rat)=b at *;generalize(m.a:Rat)=c at *;generalize(m.b:Rat)=d at *;have e1:a*(p.1-q.1)+b*(p.2-q.2)=0:=by grind
 have:c*(p.1-q.1)+d*(p.2-q.2)=0:=by
  rcases h with h|h
  ·have:a*(c*(p.1-q.1)+d*(p.2-q.2))=0:=by grind
   rcases Rat.mul_eq_zero.1 this with e|e
   ·exact absurd e h
   ·exact e
  ·have:b*(c*(p.1-q.1)+d*(p.2-q.2))=0:=by grind
   rcases Rat.mul_eq_zero.1 this with e|e
   ·exact absurd e h
   ·exact e
 grind
def DJ (I:Pq→Prop) (l k:Li):Prop:=∃q,I q∧a6 l q=0∧a6 k q=0∧slp l k≠0
def Jg (I:Pq→Prop) (l:Li):Prop:=∃q,I q∧a6 l q=0
open Classical in
noncomputable def zg (L:List Li) (I:Pq→Prop) (l:Li):Nat:=L.countP fun k=>decide (DJ I l k)
open Classical in
noncomputable def wI (L:List Li) (I:Pq→Prop) (l:Li):Nat:=if Jg I l then 1+zg L I l else 0
noncomputable def ov (L M:List Li) (I:Pq→Prop):Nat:=(M.map (wI L I)).sum
theorem nH {α:Type}{p r:α→Bool}:∀{L:List α},(∀x∈L,p x=true→r x=true)→L.countP p≤L.countP r
 | [],_=>by simp
 |x::L,h=>by
  have ih:=nH (L:=L) fun y hy=>h y (Mc hy)
  have:=h x Ms;rw [List.countP_cons,List.countP_cons];cases hp:p x <;> cases hr:r x <;> simp_all <;> omega
theorem qB {α:Type}{p q r:α→Bool}:∀{L:List α},(∀x∈L,p x=true→r x=true)→(∀x∈L,q x=true→r x=true)→(∀x∈L,p x=true→q x=true→False)→L.countP p+L.countP q≤L.countP r
 | [],_,_,_=>by simp
 |x::L,h1,h2,h3=>by
  have ih:=qB (L:=L) (fun y hy=>h1 y (Mc hy)) (fun y hy=>h2 y (Mc hy)) (fun y hy=>h3 y (Mc hy));have a1:=h1 x Ms;have a2:=h2 x Ms;have a3:=h3 x Ms;rw [List.countP_cons,List.countP_cons,List.countP_cons];cases hp:p x <;> cases hq:q x <;> cases hr:r x <;> simp_all <;> omega
theorem vG {α:Type}{p q r:α→Bool}{x0:α}:∀{L:List α},(∀x∈L,p x=true→r x=true)→(∀x∈L,q x=true→r x=true)→(∀x∈L,p x=true→q x=true→False)→x0∈L→r x0=true→p x0=false→q x0=false→L.countP p+L.countP q+1≤L.countP r
 | [],_,_,_,h,_,_,_=>by cases h
 |x::L,h1,h2,h3,h,e1,e2,e3=>by
  have g1:=fun y hy=>h1 y (Mc hy)
  have g2:=fun y hy=>h2 y (Mc hy)
  have g3:=fun y hy=>h3 y (Mc hy)
  have a1:=h1 x Ms;have a2:=h2 x Ms;have a3:=h3 x Ms;rw [List.countP_cons,List.countP_cons,List.countP_cons];rcases List.mem_cons.1 h with rfl|hm
  ·have:=qB g1 g2 g3;rw [e1,e2,e3];simp only [if_true,Bool.false_eq_true,if_false];omega
  ·have ih:=vG g1 g2 g3 hm e1 e2 e3;cases hp:p x <;> cases hq:q x <;> cases hr:r x <;> simp_all <;> omega
theorem tI {I J:Pq→Prop}(h:∀q,J q→I q){l k:Li}(c:DJ J l k):DJ I l k:=by
 obtain⟨q,h1,h2⟩:=c;exact⟨q,h q h1,h2⟩
open Classical in
theorem AV {I J:Pq→Prop}(L:List Li) (h:∀q,J q→I q) (l:Li):wI L J l≤wI L I l:=by
 unfold wI;split
 ·rename_i c;obtain⟨q,h1,h2⟩:=c;rw [if_pos ⟨q,h q h1,h2⟩];have:zg L J l≤zg L I l:=nH fun x _ hx=>decide_eq_true (tI h (of_decide_eq_true hx))
  omega
 ·omega
theorem JM {I:Pq→Prop}{l k m:Li}(hl:l.ok) (a:DJ (fun q=>I q∧0<a6 m q) l k) (b:DJ (fun q=>I q∧a6 m q<0) l k):False:=by
 obtain⟨p,⟨_,p1⟩,p2,p3,p4⟩:=a;obtain⟨q,⟨_,q1⟩,q2,q3,q4⟩:=b
 have e:p.1=q.1∧p.2=q.2:=by
  unfold a6 slp at *
  have h:(l.a:Rat)≠0∨(l.b:Rat)≠0:=by
   rcases hl.2 with r|r
   ·exact .inl fun e=>r (Rat.intCast_eq_zero_iff.1 e)
   ·exact .inr fun e=>r (Rat.intCast_eq_zero_iff.1 e)
  generalize(l.a:Rat)=a at *;generalize(l.b:Rat)=b at *;generalize(k.a:Rat)=c at *;generalize(k.b:Rat)=d at *;have e1:a*(p.1-q.1)+b*(p.2-q.2)=0:=by grind
  have e2:c*(p.1-q.1)+d*(p.2-q.2)=0:=by grind
  have f1:(c*b-d*a)*(p.1-q.1)=0:=by grind
  have f2:(c*b-d*a)*(p.2-q.2)=0:=by grind
  constructor
  ·rcases Rat.mul_eq_zero.1 f1 with e|e
   ·exact absurd e p4
   ·grind
  ·rcases Rat.mul_eq_zero.1 f2 with e|e
   ·exact absurd e p4
   ·grind
 have:p=q:=Prod.ext e.1 e.2;rw [this]at p1;grind
open Classical in
theorem xn {I:Pq→Prop}(hI:Cvx I){L:List Li}{l m:Li}(hl:l.ok) (hm:m∈L):wI L (fun q=>I q∧0<a6 m q) l+wI L (fun q=>I q∧a6 m q<0) l≤wI L I l:=by
 by_cases c1:Jg (fun q=>I q∧0<a6 m q) l
 ·by_cases c2:Jg (fun q=>I q∧a6 m q<0) l
  ·obtain⟨p,⟨p0,p1⟩,p2⟩:=id c1;obtain⟨q,⟨q0,q1⟩,q2⟩:=id c2;obtain⟨r,r1,r2,r3⟩:=xe hI p0 q0 p1 q1
   have hs:slp l m≠0:=fun e=>by
    have:=Dy hl e p2 q2;rw [this]at p1;grind
   have hx:DJ I l m:=⟨r,r1,r3 l p2 q2,r2,hs⟩
   unfold wI;rw [if_pos c1,if_pos c2,if_pos ⟨r,r1,r3 l p2 q2⟩]
   have:zg L (fun q=>I q∧0<a6 m q) l+zg L (fun q=>I q∧a6 m q<0) l+1≤zg L I l:=by
    refine vG (x0:=m) (fun x _ hx=>decide_eq_true (tI (fun q h=>h.1) (of_decide_eq_true hx))) (fun x _ hx=>decide_eq_true (tI (fun q h=>h.1) (of_decide_eq_true hx))) (fun x _ ha hb=>JM hl (of_decide_eq_true ha) (of_decide_eq_true hb)) hm (decide_eq_true hx) (decide_eq_false ?_) (decide_eq_false ?_)
    ·rintro ⟨q,⟨_,h1⟩,_,h2,_⟩;rw [h2]at h1;exact absurd h1 (Rat.lt_irrefl)
    ·rintro ⟨q,⟨_,h1⟩,_,h2,_⟩;rw [h2]at h1;exact absurd h1 (Rat.lt_irrefl)
   omega
  ·have:=AV (I:=I) (J:=fun q=>I q∧0<a6 m q) L (fun q h=>h.1) l;have e:wI L (fun q=>I q∧a6 m q<0) l=0:=if_neg c2;omega
 ·have:=AV (I:=I) (J:=fun q=>I q∧a6 m q<0) L (fun q h=>h.1) l;have e:wI L (fun q=>I q∧0<a6 m q) l=0:=if_neg c1;omega
open Classical in
theorem HM {I:Pq→Prop}(hI:Cvx I){L:List Li}{m:Li}(h1:Lft I m) (h2:Rgt I m):wI L (fun q=>I q∧0<a6 m q) m+wI L (fun q=>I q∧a6 m q<0) m+1≤wI L I m:=by
 obtain⟨p,p1,p2⟩:=h1;obtain⟨q,q1,q2⟩:=h2;obtain⟨r,r1,r2,_⟩:=xe hI p1 q1 p2 q2
 have e1:wI L (fun q=>I q∧0<a6 m q) m=0:=if_neg (by
  rintro ⟨q,⟨_,h1⟩,h2⟩;rw [h2]at h1;exact absurd h1 (Rat.lt_irrefl))
 have e2:wI L (fun q=>I q∧a6 m q<0) m=0:=if_neg (by
  rintro ⟨q,⟨_,h1⟩,h2⟩;rw [h2]at h1;exact absurd h1 (Rat.lt_irrefl))
 have e3:wI L I m=1+zg L I m:=if_pos ⟨r,r1,r2⟩;omega
theorem sE {I:Pq→Prop}(hI:Cvx I){L:List Li}{m:Li}(hm:m∈L):∀{M:List Li},(∀l∈M,l.ok)→ov L M (fun q=>I q∧0<a6 m q)+ov L M (fun q=>I q∧a6 m q<0)≤ov L M I
 | [],_=>by simp [ov]
 |l::M,hM=>by
  have ih:=sE hI hm (M:=M) fun x hx=>hM x (Mc hx)
  have:=xn hI (hM l Ms) hm;simp only [ov,List.map_cons,List.sum_cons]at *;omega
theorem uO {I:Pq→Prop}(hI:Cvx I){L:List Li}{m:Li}(hm:m∈L) (h1:Lft I m) (h2:Rgt I m):∀{M:List Li},(∀l∈M,l.ok)→m∈M→ov L M (fun q=>I q∧0<a6 m q)+ov L M (fun q=>I q∧a6 m q<0)+1≤ov L M I
 | [],_,h=>by cases h
 |l::M,hM,h=>by
  have g:=fun x hx=>hM x (Mc hx)
  rcases List.mem_cons.1 h with rfl|h
  ·have ih:=sE hI hm (M:=M) g;have:=HM (L:=L) hI h1 h2;simp only [ov,List.map_cons,List.sum_cons]at *;omega
  ·have ih:=uO hI hm h1 h2 g h;have:=xn hI (hM l Ms) hm;simp only [ov,List.map_cons,List.sum_cons]at *;omega
def Prp:Tr→(Pq→Prop)→Prop
 | .leaf _,_=>True
 | .node l a b,I=>Lft I l∧Rgt I l∧Prp a (fun q=>I q∧0<a6 l q)∧Prp b (fun q=>I q∧a6 l q<0)
theorem rQ {L:List Li}(hL:∀l∈L,l.ok):∀{t:Tr}{I:Pq→Prop},Cvx I→Prp t I→t.lin L→cK t≤ov L L I
 | .leaf _,_,_,_,_=>Nat.zero_le _
 | .node l a b,I,hI,⟨h1,h2,h3,h4⟩,⟨k1,k2,k3⟩=>by
  have a1:=rQ hL (hI.left l) h3 k2;have a2:=rQ hL (hI.right l) h4 k3;have:=uO hI k1 h1 h2 hL k1;simp only [cK];omega
theorem Ly (L:List Li) (I:Pq→Prop) (l:Li):wI L I l≤1+L.length:=by
 have:zg L I l≤L.length:=List.countP_le_length;unfold wI;split <;> omega
theorem Bo (L:List Li) (I:Pq→Prop):∀M:List Li,ov L M I≤M.length*(1+L.length)
 | []=>by simp [ov]
 |l::M=>by
  have:=Bo L I M;have:=Ly L I l;simp only [ov,List.map_cons,List.sum_cons,List.length_cons,Nat.add_mul]at *;omega
theorem rR {L:List Li}(hL:∀l∈L,l.ok){t:Tr}{I:Pq→Prop}(hI:Cvx I) (h:Prp t I) (k:t.lin L):cK t≤L.length*(1+L.length) :=
 Nat.le_trans (rQ hL hI h k) (Bo L I L)
theorem vc {l:Li}{a b:Tr}{I:Pq→Prop}(h1:Lft I l) (h2:Rgt I l) (ha:Prp a fun q=>I q∧0<a6 l q) (hb:Prp b fun q=>I q∧a6 l q<0):Prp (ez l a b) I:=by
 cases a with
 |leaf i =>
  cases b with
  |leaf j =>
   show Prp (if i=j then Tr.leaf i else Tr.node l (.leaf i) (.leaf j)) I
   split
   ·trivial
   ·exact⟨h1,h2,ha,hb⟩
  |node m x y=>exact⟨h1,h2,ha,hb⟩
 |node m x y=>exact⟨h1,h2,ha,hb⟩
theorem oE:∀{t:Tr}{I:Pq→Prop},Prp t I→Prp (aN t) I
 | .leaf _,_,_=>trivial
 | .node _ _ _,_,⟨h1,h2,h3,h4⟩=>⟨h1,h2,oE h3,oE h4⟩
theorem fM:∀{t:Tr}{I:Pq→Prop},Prp (bR t I) I
 | .leaf _,_=>trivial
 | .node l a b,I=>by
  unfold bR;split
  ·exact fM
  ·rename_i h1;split
   ·exact fM
   ·rename_i h2;exact vc (Classical.not_not.1 h2) (Classical.not_not.1 h1) fM fM
theorem gM {op:Int}:∀{t b:Tr}{I:Pq→Prop},Prp (eT op t b I) I
 | .leaf i,b,I=>by
  unfold eT p8;split
  ·trivial
  ·split
   ·trivial
   ·split
    ·exact oE fM
    ·exact fM
 | .node l x y,b,I=>by
  unfold eT;split
  ·exact gM
  ·rename_i h1;split
   ·exact gM
   ·rename_i h2;exact vc (Classical.not_not.1 h2) (Classical.not_not.1 h1) gM gM
theorem vd {L:List Li}{l:Li}(h:l∈L):∀{a b:Tr},a.lin L→b.lin L→(ez l a b).lin L
 | .leaf i, .leaf j,ha,hb=>by
  show(if i=j then Tr.leaf i else Tr.node l (.leaf i) (.leaf j)).lin L
  split
  ·trivial
  ·exact⟨h,ha,hb⟩
 | .leaf i, .node m x y,ha,hb=>⟨h,ha,hb⟩
 | .node m x y,b,ha,hb=>by cases b <;> exact⟨h,ha,hb⟩
theorem oF {L:List Li}:∀{t:Tr},t.lin L→(aN t).lin L
 | .leaf _,_=>trivial
 | .node _ _ _,⟨h,ha,hb⟩=>⟨h,oF ha,oF hb⟩
theorem fN {L:List Li}:∀{t:Tr}{I:Pq→Prop},t.lin L→(bR t I).lin L
 | .leaf _,_,_=>trivial
 | .node l a b,I,⟨h,ha,hb⟩=>by
  unfold bR;split
  ·exact fN ha
  ·split
   ·exact fN hb
   ·exact vd h (fN ha) (fN hb)
theorem j6 {op:Int}{L:List Li}:∀{t b:Tr}{I:Pq→Prop},t.lin L→b.lin L→(eT op t b I).lin L
 | .leaf i,b,I,_,hb=>by
  unfold eT p8;split
  ·trivial
  ·split
   ·trivial
   ·split
    ·exact oF (fN hb)
    ·exact fN hb
 | .node l x y,b,I,⟨h,hx,hy⟩,hb=>by
  unfold eT;split
  ·exact j6 hx hb
  ·split
   ·exact j6 hy hb
   ·exact vd h (j6 hx hb) (j6 hy hb)
end Go.Ab
namespace Go.Ab
open Go.Proofs
variable [Base]
def atT:Tr→Pq→Bool
 | .leaf i,_=>i
 | .node l a b,q=>if 0<a6 l q then atT a q else atT b q
def Off (L:List Li) (q:Pq):Prop:=∀l∈L,a6 l q≠0
theorem Gf (l:Li) (a b:Tr) (q:Pq):atT (ez l a b) q=if 0<a6 l q then atT a q else atT b q:=by
 cases a with
 |leaf i =>
  cases b with
  |leaf j =>
   show atT (if i=j then Tr.leaf i else Tr.node l (.leaf i) (.leaf j)) q=_
   by_cases e:i=j
   ·subst e;rw [if_pos rfl];simp [atT]
   ·rw [if_neg e];rfl
  |node m x y=>rfl
 |node m x y=>rfl
theorem qV:∀(t:Tr) (q:Pq),atT (aN t) q = !atT t q
 | .leaf _,_=>rfl
 | .node l a b,q=>by
  unfold aN atT;rw [qV a,qV b];split <;> rfl
theorem jT {L:List Li}:∀{t:Tr}{I:Pq→Prop}{q:Pq},t.lin L→Off L q→I q→atT (bR t I) q=atT t q
 | .leaf _,_,_,_,_,_=>rfl
 | .node l a b,I,q,⟨h,ha,hb⟩,ho,hq=>by
  have hv:=ho l h;unfold bR;by_cases h1:Rgt I l
  ·rw [if_neg (fun k=>k h1)];by_cases h2:Lft I l
   ·rw [if_neg (fun k=>k h2),Gf,show atT (.node l a b) q=if 0<a6 l q then atT a q else atT b q from rfl];by_cases c:0<a6 l q
    ·rw [if_pos c,if_pos c];exact jT ha ho ⟨hq,c⟩
    ·rw [if_neg c,if_neg c];exact jT hb ho ⟨hq,by grind⟩
   ·rw [if_pos h2,jT hb ho hq,show atT (.node l a b) q=if 0<a6 l q then atT a q else atT b q from rfl,if_neg (fun c=>h2 ⟨q,hq,c⟩)]
  ·have c:0<a6 l q:=by
    have:¬a6 l q<0:=fun c=>h1 ⟨q,hq,c⟩
    grind
   rw [if_pos h1,jT ha ho hq,show atT (.node l a b) q=if 0<a6 l q then atT a q else atT b q from rfl,if_pos c]
theorem Gp:∃q,Inn [] q:=⟨(0,0),(fun l h=>by cases h)⟩
theorem mw (q:Pq):Inn [] q:=fun l h=>by cases h
theorem FN:∀l∈([]:List Li),l.ok:=fun l h=>by cases h
theorem ly {t:Tr}(h:t.lok):a8 t []=bR t (Inn []):=j4 h FN Gp
theorem sZ {op:Int}{t b:Tr}(h:t.lok) (k:b.lok):cD op t b []=eT op t b (Inn []):=k9 h k FN Gp
theorem cM {L:List Li}(hL:∀l∈L,l.ok):∀{t:Tr},t.lin L→t.lok
 | .leaf _,_=>trivial
 | .node _ _ _,⟨h,a,b⟩=>⟨hL _ h,cM hL a,cM hL b⟩
theorem pE {L:List Li}(hL:∀l∈L,l.ok){t:Tr}(h:t.lin L){q:Pq}(hq:Off L q):atT (a8 t []) q=atT t q:=by
 rw [ly (cM hL h)];exact jT h hq (mw q)
theorem su {L:List Li}(hL:∀l∈L,l.ok){t:Tr}(h:t.lin L):(a8 t []).lin L:=by
 rw [ly (cM hL h)];exact fN h
theorem sY {op:Int}{L:List Li}(hL:∀l∈L,l.ok){t b:Tr}(h:t.lin L) (k:b.lin L):(cD op t b []).lin L:=by
 rw [sZ (cM hL h) (cM hL k)];exact j6 h k
theorem wA {op:Int}{L:List Li}(hL:∀l∈L,l.ok){t b:Tr}(h:t.lin L) (k:b.lin L):cK (cD op t b [])≤L.length*(1+L.length):=by
 refine rR hL (rv []) ?_ (sY hL h k);rw [sZ (cM hL h) (cM hL k)];exact gM
theorem Tr.lin.mono {L M:List Li}(hs:∀l∈L,l∈M):∀{t:Tr},t.lin L→t.lin M
 | .leaf _,_=>trivial
 | .node _ _ _,⟨h,a,b⟩=>⟨hs _ h,a.mono hs,b.mono hs⟩
theorem Tr.lin.all {L:List Li}{p:Li→Prop}(hp:∀l∈L,p l):∀{t:Tr},t.lin L→t.all p
 | .leaf _,_=>trivial
 | .node _ _ _,⟨h,a,b⟩=>⟨hp _ h,a.all hp,b.all hp⟩
theorem nI {α:Type}{p q:α→Bool}{x0:α}:∀{L:List α},(∀x∈L,p x=true→q x=true)→x0∈L→q x0=true→p x0=false→L.countP p+1≤L.countP q
 | [],_,h,_,_=>by cases h
 |x::L,h1,h,e1,e2=>by
  have g1:=fun y hy=>h1 y (Mc hy)
  rw [List.countP_cons,List.countP_cons];rcases List.mem_cons.1 h with rfl|hm
  ·have:=nH g1;rw [e1,e2];simp only [if_true,Bool.false_eq_true,if_false];omega
  ·have ih:=nI g1 hm e1 e2;have:=h1 x Ms;cases hp:p x <;> cases hq:q x <;> simp_all <;> omega
open Classical in
noncomputable def Jf (L:List Li) (I:Pq→Prop):Nat:=L.countP fun l=>decide (Jg I l)
open Classical in
theorem uZ {I J:Pq→Prop}(hI:Cvx I){L:List Li}{m:Li}(hm:m∈L) (h1:Lft I m) (h2:Rgt I m) (hJ:∀q,J q→I q∧a6 m q≠0):Jf L J+1≤Jf L I:=by
 refine nI (x0:=m) (fun l _ h=>?_) hm ?_ ?_
 ·obtain⟨q,q1,q2⟩:=of_decide_eq_true h;exact decide_eq_true ⟨q,(hJ q q1).1,q2⟩
 ·obtain⟨p,p1,p2⟩:=h1;obtain⟨q,q1,q2⟩:=h2;obtain⟨r,r1,r2,_⟩:=xe hI p1 q1 p2 q2;exact decide_eq_true ⟨r,r1,r2⟩
 ·refine decide_eq_false ?_;rintro ⟨q,q1,q2⟩;exact(hJ q q1).2 q2
theorem pZ {L:List Li}:∀{t:Tr}{I:Pq→Prop},Cvx I→Prp t I→t.lin L→aU t≤Jf L I
 | .leaf _,_,_,_,_=>Nat.zero_le _
 | .node l a b,I,hI,⟨h1,h2,h3,h4⟩,⟨k1,k2,k3⟩=>by
  have a1:=pZ (hI.left l) h3 k2;have a2:=pZ (hI.right l) h4 k3;have m1:=uZ (J:=fun q=>I q∧0<a6 l q) hI k1 h1 h2 fun q h=>⟨h.1,by have:=h.2;grind⟩
  have m2:=uZ (J:=fun q=>I q∧a6 l q<0) hI k1 h1 h2 fun q h=>⟨h.1,by have:=h.2;grind⟩
  simp only [aU];omega
def Gd (L:List Li) (t:Tr):Prop:=t.lin L∧Prp t (Inn [])
theorem Gd.dep {L:List Li}{t:Tr}(h:Gd L t):aU t≤L.length:=by
 refine Nat.le_trans (pZ (rv []) h.2 h.1) ?_;unfold Jf;exact List.countP_le_length
theorem Gd.size {L:List Li}(hL:∀l∈L,l.ok){t:Tr}(h:Gd L t):cK t≤L.length*(1+L.length):=rR hL (rv []) h.2 h.1
theorem Gd.not {L:List Li}{t:Tr}(h:Gd L t):Gd L (aN t):=⟨oF h.1,oE h.2⟩
theorem Gd.restr {L:List Li}(hL:∀l∈L,l.ok){t:Tr}(h:t.lin L):Gd L (a8 t []):=⟨su hL h,by rw [ly (cM hL h)];exact fM⟩
theorem Gd.merge {op:Int}{L:List Li}(hL:∀l∈L,l.ok){t b:Tr}(h:t.lin L) (k:b.lin L):Gd L (cD op t b []):=⟨sY hL h k,by rw [sZ (cM hL h) (cM hL k)];exact gM⟩
theorem G4 {l:Li}(h:l.ok):Lft (Inn []) l∧Rgt (Inn []) l:=by
 obtain⟨p,hp⟩:=vn h;have n0:=dA h;refine⟨⟨(p.1+1*l.a,p.2+1*l.b),mw _,?_⟩,⟨(p.1 + -1*l.a,p.2 + -1*l.b),mw _,?_⟩⟩
 ·rw [bU,hp];grind
 ·rw [bU,hp];grind
end Go.Ab
