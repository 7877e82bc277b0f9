/- Texts laid one behind the other: GwJ, GwK, TmC. -/
import Derived.Test.YtbcojehfealiaaaGreatDoorB33
set_option linter.all false
set_option maxHeartbeats 16000000
namespace Go.Ab
open Go.Proofs
variable [Base]
theorem vE {p q:Pq}(hp:Iq p) (hq:Iq q) (h:p≠q):Pu Tryz.prog 198 [ag (rpx p),ag (rpx q)] (Ab.tup [ag (fqx (vC p q)),lit (.bool true)]):=by
 have hl:=qk hp hq h;have b1:=hp.ht;have b2:=hq.ht
 have hne:q.1-p.1≠0∨q.2-p.2≠0:=by
  by_cases h1:q.1-p.1=0
  ·right;intro h2;exact h (Prod.ext (by grind) (by grind))
  ·exact .inl h1
 have c1:=q9 (x:=p.1) (y:=p.2) (u:=q.1) (v:=q.2) (L:=10) om om om om om hne;have c2:=kB (l:=thr p.1 p.2 q.1 q.2) (p:=p) hl ⟨om,om⟩;have c3:=kB (l:=thr p.1 p.2 q.1 q.2) (p:=q) hl ⟨om,om⟩;unfold vC;clear hl b1 b2 hne;generalize thr p.1 p.2 q.1 q.2=l at *;generalize bO l p=s at *;generalize bO l q=t at *;refine Pi Tryz.func198 fun C=>?_
 repeat(first|(refine A1 ⟨?_⟩;intros)|refine W4 c1 ⟨?_⟩|refine W4 c2 ⟨?_⟩|refine W4 c3 ⟨?_⟩)
 exact G3
theorem DQ {l:List Pq}{k:Nat}(h:k<l.length):(dY l)[k]? = some (vC (l.getD k (0,0)) (l.getD ((k+1)%l.length) (0,0))):=by
 unfold dY;rw [List.getElem?_map,List.getElem?_range h];rfl
theorem tN {l:List Pq}{k:Nat}(h:k<l.length):(((l.map rpx).flatten).drop (k*6)).take 6=rpx (l.getD k (0,0)):=cX (f:=rpx) (n:=6) bW (by rw [List.getD,List.getElem?_eq_getElem h];rfl)
theorem sA {l:List Pq}(h:i0 l):Pu Tryz.prog 140 [rps l] (fqs (dY l)):=by
 have hel:=ns l;have h6:=h.1;refine Pi Tryz.func140 fun C=>?_
 repeat(refine A1 ⟨?_⟩;intros)
 refine WP.loopS (ι:=yz) (fun y=>y.k≤l.length∧Own fT 14 y.k (((dY l).take y.k).map fqx).flatten y.s y.Hs) (fun y=>l.length-y.k)
  (fun y=>fm [(0,rps l),(3,y.s),(7,rps l),(8,lit (.int .i64 l.length)),(9,lit (.int .i64 y.k))]) (fun y=>y.Hs) ⟨0,lit (.slice none 0 0),[]⟩
  ⟨Nat.zero_le _,Own.nil _ _⟩ lfA (List.nil_sublist _) ?_
 rintro ⟨k,s,Hs⟩ ⟨hk,hown⟩ K hK;simp only at hk hown⊢;have hco:=hown.co;by_cases hkl:k<l.length
 ·obtain⟨g1,g2,g3⟩:=Cp h hkl;have c:=vE g1 g2 g3;have hget:=DQ hkl;have hml:(k+1)%l.length<l.length:=Nat.mod_lt _ om;have hat:=tN hkl;have hat2:=tN hml;have hne:(l.map rpx).flatten≠[]:=e7 bW om (fun e=>by rw [e]at hkl;simp at hkl);have htm:((k:Int)+1).tmod (l.length:Int)=(((k+1)%l.length:Nat):Int):=rfl;have htm1:0≤((k:Int)+1).tmod (l.length:Int):=by rw [htm];omega
  have htm2:((k:Int)+1).tmod (l.length:Int)<(l.length:Int):=by rw [htm];exact_mod_cast hml
  have hat2':(((l.map rpx).flatten).drop ((((k:Int)+1).tmod (l.length:Int)).toNat*6)).take 6=rpx (l.getD ((k+1)%l.length) (0,0)):=by rw [htm];exact hat2
  have hgo:=fun s' Hs' h F' H'=>hK F' H' ⟨k+1,s',Hs'⟩ ⟨by simp only;omega,h⟩ (by simp only;omega)
  simp only [dU hget]at hgo;clear hK h htm hat2 hget hel;generalize vC (l.getD k (0,0)) (l.getD ((k+1)%l.length) (0,0))=f at *;generalize l.getD ((k+1)%l.length) (0,0)=q at *;generalize l.getD k (0,0)=p at *;repeat(first|(refine AS ⟨?_⟩;intros)|(refine O1 ⟨?_⟩;intros))
  refine WdL 17 1 ?_;repeat(refine A1 ⟨?_⟩;intros)
  refine Wdo (a8 (cs':=rpx p) rfl rfl om om hat hne) ?_;repeat(refine A1 ⟨?_⟩;intros)
  refine Wdo (a8 (cs':=rpx q) rfl rfl htm1 htm2 hat2' hne) ?_;repeat(first|(refine A1 ⟨?_⟩;intros)|refine W4 c ⟨?_⟩)
  refine dL1 fun b5=>?_
  refine Gs (sv:=ag (fqx f)) (cs':=fqx f) rfl rfl rfl (.here _) rfl rfl ?_ ?_
  ·(repeat(first|exact LOk.nil|refine Lsk ?_|refine Lcv ?_))
  refine Gn ?_ ?_
  ·(repeat(first|exact LOk.nil|refine Lsk ?_|refine Lcv ?_))
  repeat(first|(refine Wo (az (fqx f) rfl) ?_)|(refine Wdo (az (fqx f) rfl) ?_)|(refine A1 ⟨?_⟩;intros))
  refine jL (ds:=fqx f) hown (Tk.skip _ (Tk.same _)) om (fun s' H1 hown'=>?_);have hco':=hown'.co;replace hgo:=hgo s' H1 hown';clear hown hown';repeat(refine A1 ⟨?_⟩;intros)
  exact hgo _ _ lfA (Sc Sr)
 ·have hke:k=l.length:=by omega
  subst hke;have hl2:l.length=(dY l).length:=hel.symm;rw [hl2,List.take_length]at hown;refine WP.rowS 3 hown rfl (by rw [List.append_nil]) ?_;clear hK hown;exact Z1
def gE (l:List Pq) (p:Pq) (n:Int) (i:Nat):Int :=
 if((l.getD i (0,0)).2-p.2).num.sign≤0 then
  (if((l.getD ((i+1)%l.length) (0,0)).2-p.2).num.sign≤0 then n else if 0<mQ (l.getD i (0,0)) (l.getD ((i+1)%l.length) (0,0)) p then n+1 else n)
 else(if((l.getD ((i+1)%l.length) (0,0)).2-p.2).num.sign≤0 then(if mQ (l.getD i (0,0)) (l.getD ((i+1)%l.length) (0,0)) p<0 then n-1 else n)else n)
def rO (l:List Pq) (p:Pq):Int:=(List.range l.length).foldl (gE l p) 0
theorem w7 (l:List Pq) (p:Pq) (n:Int) (i:Nat):(gE l p n i).natAbs≤n.natAbs+1:=by
 unfold gE;split <;> split <;> (try split) <;> omega
theorem qL (l:List Pq) (p:Pq):∀k:Nat,((List.range k).foldl (gE l p) 0).natAbs≤k
 |0=>Nat.le_refl _
 |k+1=>by
  have:=qL l p k;have:=w7 l p ((List.range k).foldl (gE l p) 0) k;rw [List.range_succ,List.foldl_append];show(gE l p _ k).natAbs≤k+1
  omega
theorem w8 (l:List Pq) (p:Pq):(rO l p).natAbs≤l.length:=qL l p l.length
theorem xB {l:List Pq}{p:Pq}(hl:l.length≤100000) (hh:∀q∈l,hp q 900) (hp':hp p 900):Pu Tryz.prog 237 [rps l,ag (rpx p)] (lit (.int .i64 (rO l p))):=by
 unfold rO;obtain⟨p1,p2⟩:=hp';refine Pi Tryz.func237 fun C=>?_
 repeat(first|(refine Wo (aF (sv:=ag _) rfl) ?_)|(refine Wdo (aF (sv:=ag _) rfl) ?_)|(refine A1 ⟨?_⟩;intros))
 refine WP.loopS (ι:=Nat×Int) (fun y=>y.1≤l.length∧y.2=(List.range y.1).foldl (gE l p) 0) (fun y=>l.length-y.1)
  (fun y=>fm [(0,rps l),(3,pt (rpx p)),(5,lit (.int .i64 y.2)),(11,rps l),(12,lit (.int .i64 l.length)),(13,lit (.int .i64 y.1))]) (fun _=>[]) (0,0)
  ⟨Nat.zero_le _,rfl⟩ lfA (List.nil_sublist _) ?_
 rintro ⟨k,z⟩ ⟨hk,hz⟩ K hK;simp only at hk hz⊢;by_cases hkl:k<l.length
 ·have hgo:=fun F' H'=>hK F' H' (k+1,gE l p z k) ⟨by simp only;omega,by rw [List.range_succ,List.foldl_append,←hz];rfl⟩ (by simp only;omega)
  have hza:=qL l p k;rw [←hz]at hza;have hml:(k+1)%l.length<l.length:=Nat.mod_lt _ om;have hat:=tN hkl;have hat2:=tN hml;have m1:l.getD k (0,0)∈l:=List.mem_of_getElem? (i:=k) (by rw [List.getD,List.getElem?_eq_getElem hkl];rfl);have m2:l.getD ((k+1)%l.length) (0,0)∈l:=List.mem_of_getElem? (i:=(k+1)%l.length) (by rw [List.getD,List.getElem?_eq_getElem hml];rfl);have hne:(l.map rpx).flatten≠[]:=e7 bW om (fun e=>by rw [e]at hkl;simp at hkl);have htm:((k:Int)+1).tmod (l.length:Int)=(((k+1)%l.length:Nat):Int):=rfl;have htm1:0≤((k:Int)+1).tmod (l.length:Int):=by rw [htm];omega
  have htm2:((k:Int)+1).tmod (l.length:Int)<(l.length:Int):=by rw [htm];exact_mod_cast hml
  have hat2':(((l.map rpx).flatten).drop ((((k:Int)+1).tmod (l.length:Int)).toNat*6)).take 6=rpx (l.getD ((k+1)%l.length) (0,0)):=by rw [htm];exact hat2
  have v1:=hh _ m1;have v2:=hh _ m2;unfold gE at hgo;clear hK hh hz htm hat2 m1 m2;generalize l.getD ((k+1)%l.length) (0,0)=w at *;generalize l.getD k (0,0)=v at *;obtain⟨a1,a2⟩:=v1;obtain⟨a3,a4⟩:=v2;have c1:=gN v.2 p.2 om om;have c2:=gN w.2 p.2 om om;have c3:=xA v w p ⟨om,om⟩ ⟨om,om⟩ ⟨om,om⟩;generalize(v.2-p.2).num.sign=za at *;generalize(w.2-p.2).num.sign=zb at *;generalize mQ v w p=zo at *;clear a1 a2 a3 a4 p1 p2;by_cases ha:za≤0
  ·rw [if_pos ha]at hgo;by_cases hb:zb≤0
   ·rw [if_pos hb]at hgo;repeat(first|(refine AS ⟨?_⟩;intros)|(refine O1 ⟨?_⟩;intros))
    refine WdL 14 1 ?_;repeat(refine A1 ⟨?_⟩;intros)
    refine Wdo (a8 (cs':=rpx v) rfl rfl om om hat hne) ?_;repeat(refine A1 ⟨?_⟩;intros)
    refine Wdo (a8 (cs':=rpx w) rfl rfl htm1 htm2 hat2' hne) ?_;repeat(refine A1 ⟨?_⟩;intros)
    refine dL2 fun b7 b8=>?_
    refine Gs (sv:=ag (rpx v)) (cs':=rpx v) rfl rfl rfl (by first|exact .here _|exact .there _ (.here _)) rfl rfl ?_ ?_
    ·((repeat(first|exact LOk.nil|refine Lsk ?_|refine Lcv ?_));refine Lcv ?_ (a8 (cs':=rpx w) rfl rfl htm1 htm2 hat2' hne);(repeat(first|exact LOk.nil|refine Lsk ?_|refine Lcv ?_)))
    refine Gn ?_ ?_
    ·((repeat(first|exact LOk.nil|refine Lsk ?_|refine Lcv ?_));refine Lcv ?_ (a8 (cs':=rpx w) rfl rfl htm1 htm2 hat2' hne);(repeat(first|exact LOk.nil|refine Lsk ?_|refine Lcv ?_)))
    repeat(first|(refine A1 ⟨?_⟩;intros)|refine W4 c1 ⟨?_⟩|refine W4 c2 ⟨?_⟩|refine W4 c3 ⟨?_⟩)
    exact hgo _ _ lfA (List.nil_sublist _)
   ·rw [if_neg hb]at hgo;by_cases ho:0<zo
    ·rw [if_pos ho]at hgo;repeat(first|(refine AS ⟨?_⟩;intros)|(refine O1 ⟨?_⟩;intros))
     refine WdL 14 1 ?_;repeat(refine A1 ⟨?_⟩;intros)
     refine Wdo (a8 (cs':=rpx v) rfl rfl om om hat hne) ?_;repeat(refine A1 ⟨?_⟩;intros)
     refine Wdo (a8 (cs':=rpx w) rfl rfl htm1 htm2 hat2' hne) ?_;repeat(refine A1 ⟨?_⟩;intros)
     refine dL2 fun b7 b8=>?_
     refine Gs (sv:=ag (rpx v)) (cs':=rpx v) rfl rfl rfl (by first|exact .here _|exact .there _ (.here _)) rfl rfl ?_ ?_
     ·((repeat(first|exact LOk.nil|refine Lsk ?_|refine Lcv ?_));refine Lcv ?_ (a8 (cs':=rpx w) rfl rfl htm1 htm2 hat2' hne);(repeat(first|exact LOk.nil|refine Lsk ?_|refine Lcv ?_)))
     refine Gn ?_ ?_
     ·((repeat(first|exact LOk.nil|refine Lsk ?_|refine Lcv ?_));refine Lcv ?_ (a8 (cs':=rpx w) rfl rfl htm1 htm2 hat2' hne);(repeat(first|exact LOk.nil|refine Lsk ?_|refine Lcv ?_)))
     repeat(first|(refine A1 ⟨?_⟩;intros)|refine W4 c1 ⟨?_⟩|refine W4 c2 ⟨?_⟩|refine W4 c3 ⟨?_⟩)
     exact hgo _ _ lfA (List.nil_sublist _)
    ·rw [if_neg ho]at hgo;repeat(first|(refine AS ⟨?_⟩;intros)|(refine O1 ⟨?_⟩;intros))
     refine WdL 14 1 ?_;repeat(refine A1 ⟨?_⟩;intros)
     refine Wdo (a8 (cs':=rpx v) rfl rfl om om hat hne) ?_;repeat(refine A1 ⟨?_⟩;intros)
     refine Wdo (a8 (cs':=rpx w) rfl rfl htm1 htm2 hat2' hne) ?_;repeat(refine A1 ⟨?_⟩;intros)
     refine dL2 fun b7 b8=>?_
     refine Gs (sv:=ag (rpx v)) (cs':=rpx v) rfl rfl rfl (by first|exact .here _|exact .there _ (.here _)) rfl rfl ?_ ?_
     ·((repeat(first|exact LOk.nil|refine Lsk ?_|refine Lcv ?_));refine Lcv ?_ (a8 (cs':=rpx w) rfl rfl htm1 htm2 hat2' hne);(repeat(first|exact LOk.nil|refine Lsk ?_|refine Lcv ?_)))
     refine Gn ?_ ?_
     ·((repeat(first|exact LOk.nil|refine Lsk ?_|refine Lcv ?_));refine Lcv ?_ (a8 (cs':=rpx w) rfl rfl htm1 htm2 hat2' hne);(repeat(first|exact LOk.nil|refine Lsk ?_|refine Lcv ?_)))
     repeat(first|(refine A1 ⟨?_⟩;intros)|refine W4 c1 ⟨?_⟩|refine W4 c2 ⟨?_⟩|refine W4 c3 ⟨?_⟩)
     exact hgo _ _ lfA (List.nil_sublist _)
  ·rw [if_neg ha]at hgo;by_cases hb:zb≤0
   ·rw [if_pos hb]at hgo;by_cases ho:zo<0
    ·rw [if_pos ho]at hgo;repeat(first|(refine AS ⟨?_⟩;intros)|(refine O1 ⟨?_⟩;intros))
     refine WdL 14 1 ?_;repeat(refine A1 ⟨?_⟩;intros)
     refine Wdo (a8 (cs':=rpx v) rfl rfl om om hat hne) ?_;repeat(refine A1 ⟨?_⟩;intros)
     refine Wdo (a8 (cs':=rpx w) rfl rfl htm1 htm2 hat2' hne) ?_;repeat(refine A1 ⟨?_⟩;intros)
     refine dL2 fun b7 b8=>?_
     refine Gs (sv:=ag (rpx v)) (cs':=rpx v) rfl rfl rfl (by first|exact .here _|exact .there _ (.here _)) rfl rfl ?_ ?_
     ·((repeat(first|exact LOk.nil|refine Lsk ?_|refine Lcv ?_));refine Lcv ?_ (a8 (cs':=rpx w) rfl rfl htm1 htm2 hat2' hne);(repeat(first|exact LOk.nil|refine Lsk ?_|refine Lcv ?_)))
     refine Gn ?_ ?_
     ·((repeat(first|exact LOk.nil|refine Lsk ?_|refine Lcv ?_));refine Lcv ?_ (a8 (cs':=rpx w) rfl rfl htm1 htm2 hat2' hne);(repeat(first|exact LOk.nil|refine Lsk ?_|refine Lcv ?_)))
     repeat(first|(refine A1 ⟨?_⟩;intros)|refine W4 c1 ⟨?_⟩|refine W4 c2 ⟨?_⟩|refine W4 c3 ⟨?_⟩)
     exact hgo _ _ lfA (List.nil_sublist _)
    ·rw [if_neg ho]at hgo;repeat(first|(refine AS ⟨?_⟩;intros)|(refine O1 ⟨?_⟩;intros))
     refine WdL 14 1 ?_;repeat(refine A1 ⟨?_⟩;intros)
     refine Wdo (a8 (cs':=rpx v) rfl rfl om om hat hne) ?_;repeat(refine A1 ⟨?_⟩;intros)
     refine Wdo (a8 (cs':=rpx w) rfl rfl htm1 htm2 hat2' hne) ?_;repeat(refine A1 ⟨?_⟩;intros)
     refine dL2 fun b7 b8=>?_
     refine Gs (sv:=ag (rpx v)) (cs':=rpx v) rfl rfl rfl (by first|exact .here _|exact .there _ (.here _)) rfl rfl ?_ ?_
     ·((repeat(first|exact LOk.nil|refine Lsk ?_|refine Lcv ?_));refine Lcv ?_ (a8 (cs':=rpx w) rfl rfl htm1 htm2 hat2' hne);(repeat(first|exact LOk.nil|refine Lsk ?_|refine Lcv ?_)))
     refine Gn ?_ ?_
     ·((repeat(first|exact LOk.nil|refine Lsk ?_|refine Lcv ?_));refine Lcv ?_ (a8 (cs':=rpx w) rfl rfl htm1 htm2 hat2' hne);(repeat(first|exact LOk.nil|refine Lsk ?_|refine Lcv ?_)))
     repeat(first|(refine A1 ⟨?_⟩;intros)|refine W4 c1 ⟨?_⟩|refine W4 c2 ⟨?_⟩|refine W4 c3 ⟨?_⟩)
     exact hgo _ _ lfA (List.nil_sublist _)
   ·rw [if_neg hb]at hgo;repeat(first|(refine AS ⟨?_⟩;intros)|(refine O1 ⟨?_⟩;intros))
    refine WdL 14 1 ?_;repeat(refine A1 ⟨?_⟩;intros)
    refine Wdo (a8 (cs':=rpx v) rfl rfl om om hat hne) ?_;repeat(refine A1 ⟨?_⟩;intros)
    refine Wdo (a8 (cs':=rpx w) rfl rfl htm1 htm2 hat2' hne) ?_;repeat(refine A1 ⟨?_⟩;intros)
    refine dL2 fun b7 b8=>?_
    refine Gs (sv:=ag (rpx v)) (cs':=rpx v) rfl rfl rfl (by first|exact .here _|exact .there _ (.here _)) rfl rfl ?_ ?_
    ·((repeat(first|exact LOk.nil|refine Lsk ?_|refine Lcv ?_));refine Lcv ?_ (a8 (cs':=rpx w) rfl rfl htm1 htm2 hat2' hne);(repeat(first|exact LOk.nil|refine Lsk ?_|refine Lcv ?_)))
    refine Gn ?_ ?_
    ·((repeat(first|exact LOk.nil|refine Lsk ?_|refine Lcv ?_));refine Lcv ?_ (a8 (cs':=rpx w) rfl rfl htm1 htm2 hat2' hne);(repeat(first|exact LOk.nil|refine Lsk ?_|refine Lcv ?_)))
    repeat(first|(refine A1 ⟨?_⟩;intros)|refine W4 c1 ⟨?_⟩|refine W4 c2 ⟨?_⟩|refine W4 c3 ⟨?_⟩)
    exact hgo _ _ lfA (List.nil_sublist _)
 ·have hke:k=l.length:=by omega
  subst hke;subst hz;clear hK;exact Z1
def In (fill n:Int):Bool:=if fill=1 then decide (n.tmod 2≠0)else decide (n≠0)
theorem vN (fill n:Int) (hf:fill=1∨fill=2) (hn:n.natAbs≤1000000000):Pu Tryz.prog 238 [lit (.int .i64 fill),lit (.int .i64 n)] (lit (.bool (In fill n))):=by
 unfold In;rcases hf with rfl|rfl
 ·rw [if_pos rfl];by_cases h:n.tmod 2=0
  ·rw [decide_eq_false (fun k=>k h)];refine Pi Tryz.func238 fun C=>?_
   exact Z1
  ·rw [decide_eq_true h];refine Pi Tryz.func238 fun C=>?_
   exact Z1
 ·rw [if_neg (by decide)];by_cases h:n=0
  ·rw [decide_eq_false (fun k=>k h)];refine Pi Tryz.func238 fun C=>?_
   exact Z1
  ·rw [decide_eq_true h];refine Pi Tryz.func238 fun C=>?_
   exact Z1
abbrev rL (rs:List (List Pq)):SV:=sl (rs.map fun r=>[rps r]).flatten rs.length
abbrev Bx (rs:List (List Pq)):SV:=sl (rs.map fun r=>[aps r]).flatten rs.length
abbrev rgR (rs:List (List Pq)) (fill:Int) (ls:List Li):SV:=ag [rL rs,lit (.int .i64 fill),lqs ls]
def inR (rs:List (List Pq)) (fill:Int) (p:Pq):Bool:=In fill (rs.foldl (fun n r=>n+rO r p) 0)
theorem uE (p:Pq):∀(rs:List (List Pq)) (n:Int),(∀r∈rs,r.length≤6)→(rs.foldl (fun n r=>n+rO r p) n).natAbs≤n.natAbs+6*rs.length
 | [],n,_=>by simp
 |r::rs,n,h=>by
  have:=uE p rs (n+rO r p) (fun r hr=>h r (Mc hr));have h1:=w8 r p;have h2:=h r Ms;rw [List.foldl_cons,List.length_cons];omega
theorem EW {rs:List (List Pq)}{fill:Int}{ls:List Li}{p:Pq}(hf:fill=1∨fill=2) (hl:rs.length≤1000) (hh:∀r∈rs,i0 r) (hp':hp p 900):Pu Tryz.prog 199 [rgR rs fill ls,ag (rpx p)] (lit (.bool (inR rs fill p))):=by
 have h6:∀r∈rs,r.length≤6:=fun r hr=>(hh r hr).1
 have hb:=fun k=>uE p (rs.take k) 0 (fun r hr=>h6 r (List.mem_of_mem_take hr))
 have hbl:=uE p rs 0 h6;have ca:=vN fill (rs.foldl (fun n r=>n+rO r p) 0) hf (by have e:(0:Int).natAbs=0:=rfl;omega);unfold inR;refine Pi Tryz.func199 fun C=>?_
 repeat(first|(refine Wo (aF (sv:=ag _) rfl) ?_)|(refine Wdo (aF (sv:=ag _) rfl) ?_)|(refine A1 ⟨?_⟩;intros))
 refine WP.loopS (ι:=Nat×Int) (fun y=>y.1≤rs.length∧y.2=(rs.take y.1).foldl (fun n r=>n+rO r p) 0) (fun y=>rs.length-y.1)
  (fun y=>fm [(2,pt [rL rs,lit (.int .i64 fill),lqs ls]),(3,pt (rpx p)),(5,lit (.int .i64 y.2)),(9,rL rs),(10,lit (.int .i64 rs.length)),(11,lit (.int .i64 y.1))]) (fun _=>[]) (0,0)
  ⟨Nat.zero_le _,rfl⟩ lfA (List.nil_sublist _) ?_
 rintro ⟨k,z⟩ ⟨hk,hz⟩ K hK;simp only at hk hz⊢;by_cases hkl:k<rs.length
 ·obtain⟨r,hget,hmm,hat,hne⟩:=elt (f:=fun r=>[rps r]) (n:=1) (fun _=>rfl) om hkl;have hgo:=fun F' H'=>hK F' H' (k+1,z+rO r p) ⟨by simp only;omega,by simp only;rw [jx hget,←hz]⟩ (by simp only;omega)
  have c:=xB (l:=r) (p:=p) (by have:=h6 r hmm;omega) (fun q hq=>⟨by have:=((hh r hmm).2.1 q hq).ht.1;omega,by have:=((hh r hmm).2.1 q hq).ht.2;omega⟩) hp';have hzb:=hb k;rw [←hz,List.length_take]at hzb;have hnb:=w8 r p;have h6r:=h6 r hmm;have e0:(0:Int).natAbs=0:=rfl;clear hK hh hget hmm hz hb hbl ca h6;generalize rO r p=z2 at *;repeat(refine A1 ⟨?_⟩;intros)
  refine Wo (a8 (cs':=[rps r]) rfl rfl om om hat hne) ?_;repeat(first|(refine A1 ⟨?_⟩;intros)|refine W4 c ⟨?_⟩)
  exact hgo _ _ lfA (List.nil_sublist _)
 ·have hke:k=rs.length:=by omega
  subst hke;rw [List.take_length]at hz;rw [←hz]at ca⊢;clear hK hb hbl;exact Y1 ca
theorem tR (rs:List (List Pq)) (hl:rs.length≤1000) (hh:∀r∈rs,i0 r):Pu Tryz.prog 87 [rL rs] (Bx rs):=by
 refine Pi Tryz.func87 fun C=>?_
 repeat(refine A1 ⟨?_⟩;intros)
 refine WP.loopS (ι:=yz) (fun y=>y.k≤rs.length∧Own 222 1 y.k ((rs.take y.k).map fun r=>[aps r]).flatten y.s y.Hs) (fun y=>rs.length-y.k)
  (fun y=>fm [(3,y.s),(6,rL rs),(7,lit (.int .i64 rs.length)),(8,lit (.int .i64 y.k))]) (fun y=>y.Hs) ⟨0,lit (.slice none 0 0),[]⟩
  ⟨Nat.zero_le _,Own.nil _ _⟩ lfA (List.nil_sublist _) ?_
 rintro ⟨k,s,Hs⟩ ⟨hk,hown⟩ K hK;simp only at hk hown⊢;have hco:=hown.co;by_cases hkl:k<rs.length
 ·obtain⟨r,hget,hmm,hat,hne⟩:=elt (f:=fun r=>[rps r]) (n:=1) (fun _=>rfl) om hkl;have hr:=hh r hmm;have c:=EB r (by have:=hr.1;omega) (fun p hp=>by have:=hr.ht p hp;omega);have hgo:=fun s' Hs' h F' H'=>hK F' H' ⟨k+1,s',Hs'⟩ ⟨by simp only;omega,h⟩ (by simp only;omega)
  simp only [dU hget]at hgo;clear hK hh hget hmm hr;repeat(refine A1 ⟨?_⟩;intros)
  refine Wo (a8 (cs':=[rps r]) rfl rfl om om hat hne) ?_;repeat(first|(refine Wo (jq (s:=aps r) (ds:=[aps r]) rfl inferInstance) ?_)|(refine Wdo (jq (s:=aps r) (ds:=[aps r]) rfl inferInstance) ?_)|(refine A1 ⟨?_⟩;intros)|refine W4 c ⟨?_⟩)
  refine jL (ds:=[aps r]) hown (Tk.same _) om (fun s' H1 hown'=>?_);have hco':=hown'.co;replace hgo:=hgo s' H1 hown';clear hown hown';repeat(refine A1 ⟨?_⟩;intros)
  exact hgo _ _ lfA Sr
 ·have hke:k=rs.length:=by omega
  subst hke;rw [List.take_length]at hown;refine WP.rowS 3 hown rfl (by rw [List.append_nil]) ?_;clear hK hown;exact Z1
theorem Eh (l:List Pq):aps l=HC (l.map fun p=>(RQ.of p.1,RQ.of p.2)):=by
 show sl _ _=sl ((l.map fun p=>(RQ.of p.1,RQ.of p.2)).map o7).flatten (l.map fun p=>(RQ.of p.1,RQ.of p.2)).length
 rw [List.map_map,List.length_map];rfl
theorem F5 {l:List Pq}(h:i0 l):Pu Tryz.prog 142 [aps l] (rps l):=by
 have c:=HI (l.map fun p=>(RQ.of p.1,RQ.of p.2)) (L:=1) (by have:=h.1;rw [List.length_map];omega) (fun q hq=>by
  obtain⟨p,hp,rfl⟩:=List.mem_map.1 hq;obtain⟨h1,h2⟩:=h.ht p hp;exact⟨RQ.of_ok h1,RQ.of_ok h2⟩) om
 rw [←Eh,List.map_map,show(rvl∘fun p:Pq=>(RQ.of p.1,RQ.of p.2))=id from funext fun p=>by simp [rvl,RQ.of_v],List.map_id]at c;exact c
theorem pn (x y:Nat×TypeId×List SV) (A B:LH):(x::y::(A++B)).Perm (A++(x::y::B)):=by
 have:=(List.perm_append_comm (l₁:=[x,y]) (l₂:=A)).append_right B;simpa using this
theorem zh (x y:Nat×TypeId×List SV) (A B:LH):(x::y::(A++B)).Perm (B++(x::y::A)):=List.perm_append_comm (l₁:=x::y::A) (l₂:=B)
structure Jb where
 k:Nat
 s1:SV
 H1:LH
 s2:SV
 H2:LH
def g8 (rs:List (List Pq)):List Li:=((rs.map dY).flatten).map Prod.fst
theorem B8 {rs:List (List Pq)}{k:Nat}{r:List Pq}(h:rs[k]? = some r):g8 (rs.take (k+1))=g8 (rs.take k)++(dY r).map Prod.fst:=by
 unfold g8;rw [cF h,List.map_append,List.flatten_append,List.map_append];simp
theorem gT:∀(rs:List (List Pq)),(∀r∈rs,i0 r)→(g8 rs).length≤6*rs.length
 | [],_=>by simp [g8]
 |r::rs,h=>by
  have h1:=gT rs (fun r hr=>h r (Mc hr));have h2:=(h r Ms).1;have h3:=ns r;unfold g8 at *;simp only [List.map_cons,List.flatten_cons,List.map_append,List.length_append,List.length_map,List.length_cons]at *;omega
theorem ur {rs:List (List Pq)}(h:∀r∈rs,i0 r):∀l∈g8 rs,l.sm:=fun l hl=>by
 obtain⟨f,hf,rfl⟩:=List.mem_map.1 hl;obtain⟨e,he,hfe⟩:=List.mem_flatten.1 hf;obtain⟨r,hr,rfl⟩:=List.mem_map.1 he;exact(uO (h r hr) f hfe).1
abbrev RT:TypeId:=156
abbrev psT:TypeId:=151
theorem EU {rs:List (List Pq)}(fill:Int) (h0:rs≠[]) (hl:rs.length≤1000) (hh:∀r∈rs,i0 r):Pu Tryz.prog 86 [Bx rs,lit (.int .i64 fill)] (rgR rs fill (jO (g8 rs))):=by
 have hpos:=List.length_pos_iff.2 h0;have hll:=gT rs hh;have hsm:=ur hh;have cd:=mF (g8 rs) om (fun m hm=>(hsm m hm).ile);refine Pi Tryz.func86 fun C=>?_
 repeat(refine A1 ⟨?_⟩;intros)
 rename_i b4 b5
 refine WP.loopS (ι:=Jb) (fun y=>y.k≤rs.length∧Own psT 1 y.k ((rs.take y.k).map fun r=>[rps r]).flatten y.s1 y.H1∧Own lT 6 (g8 (rs.take y.k)).length ((g8 (rs.take y.k)).map lqx).flatten y.s2 y.H2) (fun y=>rs.length-y.k)
  (fun y=>fm [(4,lit (.pointer (some ⟨b4,0,none⟩))),(5,lit (.pointer (some ⟨b5,0,none⟩))),(6,y.s2),(14,Bx rs),(15,lit (.int .i64 rs.length)),(16,lit (.int .i64 y.k))])
  (fun y=>(b5,RT,[y.s1,lit (.int .i64 fill),lit (.slice none 0 0)])::(b4,RT,[lit (.slice none 0 0),lit (.int .i64 0),lit (.slice none 0 0)])::(y.H1++y.H2)) ⟨0,lit (.slice none 0 0),[],lit (.slice none 0 0),[]⟩
  ⟨Nat.zero_le _,Own.nil _ _,Own.nil _ _⟩ lfA Sr ?_
 rintro ⟨k,s1,H1,s2,H2⟩ ⟨hk,hown1,hown2⟩ K hK;simp only at hk hown1 hown2⊢;have hco1:=hown1.co;have hco2:=hown2.co;by_cases hkl:k<rs.length
 ·obtain⟨r,hget,hmm,hat,hne⟩:=elt (f:=fun r=>[aps r]) (n:=1) (fun _=>rfl) om hkl;have hr:=hh r hmm;have c1:=F5 hr;have c2:=sA hr;have hel:=ns r;have h6:=hr.1
  have hlk:(g8 (rs.take k)).length≤6000:=by
   have:=gT (rs.take k) (fun r hr=>hh r (List.mem_of_mem_take hr));rw [List.length_take]at this;omega
  have hgo:=fun s1' H1' (h1:Own psT 1 (k+1) ((rs.take (k+1)).map fun r=>[rps r]).flatten s1' H1') s2' H2' (h2:Own lT 6 (g8 (rs.take (k+1))).length ((g8 (rs.take (k+1))).map lqx).flatten s2' H2') F' H'=>hK F' H' ⟨k+1,s1',H1',s2',H2'⟩ ⟨(by simp only;omega),h1,h2⟩ (by simp only;omega)
  simp only [dU hget,B8 hget]at hgo;generalize g8 (rs.take k)=ls at *;generalize dY r=es at *;clear hK hh hget hmm hr cd hsm hll;repeat(refine A1 ⟨?_⟩;intros)
  refine Wo (a8 (cs':=[aps r]) rfl rfl om om hat hne) ?_;repeat(first|(refine Wo (jq (s:=rps r) (ds:=[rps r]) rfl inferInstance) ?_)|(refine Wdo (jq (s:=rps r) (ds:=[rps r]) rfl inferInstance) ?_)|(refine A1 ⟨?_⟩;intros)|refine W4 c1 ⟨?_⟩)
  refine Em (ds:=[rps r]) hown1 (pn _ _ _ _) om (fun s1' H1' hown1'=>?_);have hco1':=hown1'.co;replace hgo:=hgo s1' H1' hown1';clear hown1 hown1';refine WPL.perm (pn _ _ _ _).symm ?_;repeat(refine A1 ⟨?_⟩;intros)
  refine WPL.store (b:=b5) (o:=0) (sv:=s1') (cs':=[s1',lit (.int .i64 fill),lit (.slice none 0 0)]) rfl rfl rfl (.here _) rfl rfl ?_;repeat(first|(refine A1 ⟨?_⟩;intros)|refine W4 c2 ⟨?_⟩)
  refine WP.loopS (ι:=yz) (fun y=>y.k≤es.length∧Own lT 6 (ls++(es.take y.k).map Prod.fst).length ((ls++(es.take y.k).map Prod.fst).map lqx).flatten y.s y.Hs) (fun y=>es.length-y.k)
   (fun y=>fm [(4,lit (.pointer (some ⟨b4,0,none⟩))),(5,lit (.pointer (some ⟨b5,0,none⟩))),(6,y.s),(14,Bx rs),(15,lit (.int .i64 rs.length)),(16,lit (.int .i64 k)),(29,fqs es),(30,lit (.int .i64 es.length)),(31,lit (.int .i64 y.k))])
   (fun y=>(b5,RT,[s1',lit (.int .i64 fill),lit (.slice none 0 0)])::(b4,RT,[lit (.slice none 0 0),lit (.int .i64 0),lit (.slice none 0 0)])::(H1'++y.Hs)) ⟨0,s2,H2⟩
   ⟨Nat.zero_le _,by simpa using hown2⟩ lfA Sr ?_
  rintro ⟨j,s3,H3⟩ ⟨hj,hown3⟩ K2 hK2;simp only at hj hown3⊢;have hco3:=hown3.co;clear hown2;by_cases hjl:j<es.length
  ·obtain⟨e,hget2,hmm2,hat2,hne2⟩:=elt jw om hjl
   have hlen:(ls++(es.take (j+1)).map Prod.fst).length=(ls++(es.take j).map Prod.fst).length+1:=by
    rw [cF hget2];simp;omega
   have hcel:((ls++(es.take (j+1)).map Prod.fst).map lqx).flatten=((ls++(es.take j).map Prod.fst).map lqx).flatten++lqx e.1:=by
    rw [cF hget2,List.map_append,List.map_append,List.flatten_append,List.map_append,List.flatten_append,List.map_append,List.flatten_append,List.append_assoc];simp
   have hlb:(ls++(es.take j).map Prod.fst).length≤7000:=by rw [List.length_append,List.length_map,List.length_take];omega
   have hgo2:=fun s' Hs' h F' H'=>hK2 F' H' ⟨j+1,s',Hs'⟩ ⟨by simp only;omega,h⟩ (by simp only;omega)
   simp only [hlen,hcel]at hgo2;clear hK2 hgo hlen hcel hget2 hmm2 c1 c2;generalize(ls++(es.take j).map Prod.fst).length=nn at *;generalize((ls++(es.take j).map Prod.fst).map lqx).flatten=cc at *;repeat(refine A1 ⟨?_⟩;intros)
   refine Wo (a8 (cs':=fqx e) rfl rfl om om hat2 hne2) ?_;repeat(refine A1 ⟨?_⟩;intros)
   rename_i b11;refine WPL.store (b:=b11) (o:=0) (sv:=ag (fqx e)) (cs':=fqx e) rfl rfl rfl (.here _) rfl rfl ?_;repeat(first|(refine Wo (az (lqx e.1) rfl) ?_)|(refine Wdo (az (lqx e.1) rfl) ?_)|(refine A1 ⟨?_⟩;intros))
   refine Em (ds:=lqx e.1) hown3 (List.perm_append_comm (l₁:=_::_::_::H1') (l₂:=H3)) om (fun s' H1 hown'=>?_);have hco':=hown'.co;replace hgo2:=hgo2 s' H1 hown';clear hown3 hown';refine WPL.perm List.perm_append_comm ?_;simp only [List.cons_append];repeat(refine A1 ⟨?_⟩;intros)
   exact hgo2 _ _ lfA (Sc Sr)
  ·have hje:j=es.length:=by omega
   subst hje;rw [List.take_length]at hown3;replace hgo:=hgo s3 H3 hown3;clear hK2 hown3;repeat(refine A1 ⟨?_⟩;intros)
   exact hgo _ _ lfA Sr
 ·have hke:k=rs.length:=by omega
  subst hke;rw [List.take_length]at hown1 hown2;obtain⟨b1,q1,hc1,hm1,rfl,rfl⟩:=hown1.blk hpos;refine WP.rowS 6 hown2 rfl (R:=(b5,RT,[lit (.slice (some ⟨b1,0,none⟩) rs.length q1),lit (.int .i64 fill),lit (.slice none 0 0)])::(b4,RT,[lit (.slice none 0 0),lit (.int .i64 0),lit (.slice none 0 0)])::[(b1,psT,(rs.map fun r=>[rps r]).flatten++List.replicate (q1*1-rs.length*1) top)]) (List.perm_append_comm (l₁:=_::_::[_]) (l₂:=H2)) ?_;clear hK hown1 hown2 hsm hh hll;repeat(refine A1 ⟨?_⟩;intros)
  refine WPL.pubC (c1:=[]) (c2:=[lit (.int .i64 fill),lit (.slice none 0 0)]) (s':=rL rs) (.there _ (.there _ (.here _))) (.here _) (fun m arr hm ha=>tS hm ha hc1 hm1) ?_;simp only [List.nil_append];exact X1 cd
theorem vt {l:List Fg}{k:Nat}{f:Fg}{m:Li}(h:l[k]? = some f):(aJ (l.take (k+1)) m).1=(aJ (l.take k) m).1++(bM f m).1∧(aJ (l.take (k+1)) m).2=(aJ (l.take k) m).2++(bM f m).2:=by
 unfold aJ;simp only;rw [cF h];simp [List.map_append,List.flatten_append]
theorem lg {L:List Li}{m:Li}:∀{l:List Fg},(∀f∈l,FgG L f)→(aJ l m).1.length≤l.length∧(aJ l m).2.length≤l.length
 | [],_=>⟨Nat.le_refl _,Nat.le_refl _⟩
 |f::l,h=>by
  obtain⟨h1,h2⟩:=lg (m:=m) fun g hg=>h g (Mc hg)
  obtain⟨h3,h4⟩:=nR (m:=m) (h f Ms);unfold aJ at *;simp only [List.map_cons,List.flatten_cons,List.length_append,List.length_cons]at *;omega
structure FgW (L:List Li) (f:Fg):Prop where
 g:FgG L f
 l:f.1.sm
 s:f.2.le 46
theorem C3 {L:List Li}{m:Li}(hm:m.sm){l:List Fg}(hl:∀f∈l,FgW L f):(∀g∈(aJ l m).1,FgW L g)∧∀g∈(aJ l m).2,FgW L g:=by
 have key:∀f∈l,(∀g∈(bM f m).1,FgW L g)∧∀g∈(bM f m).2,FgW L g:=fun f hf=>by
  obtain⟨h1,h2,h3⟩:=hl f hf;obtain⟨g1,g2⟩:=tH (m:=m) h1;obtain⟨k1,k2⟩:=Ao h1 h2 hm h3;exact⟨fun g hg=>⟨(g1 g hg).1,by rw [(g1 g hg).2];exact h2,k1 g hg⟩,fun g hg=>⟨(g2 g hg).1,by rw [(g2 g hg).2];exact h2,k2 g hg⟩⟩
 unfold aJ;constructor
 ·intro g hg;obtain⟨a,ha,hga⟩:=List.mem_flatten.1 hg;obtain⟨f,hf,rfl⟩:=List.mem_map.1 ha;exact(key f hf).1 g hga
 ·intro g hg;obtain⟨a,ha,hga⟩:=List.mem_flatten.1 hg;obtain⟨f,hf,rfl⟩:=List.mem_map.1 ha;exact(key f hf).2 g hga
theorem yj (a b:List Fg):((a++b).map fqx).flatten=(a.map fqx).flatten++(b.map fqx).flatten:=by rw [List.map_append,List.flatten_append]
theorem tM {rs:List (List Pq)}{fill:Int}{ls:List Li}(hf:fill=1∨fill=2) (hrl:rs.length≤1000) (hrs:∀r∈rs,i0 r){L:List Li}:∀(n:Nat) (l:List Fg) (c:List Li),(∀f∈l,FgW L f)→ft L l<n→(∀m∈c,m.sm)→c.length+n≤80000→l.length≤1000→
  Pu Tryz.prog 141 [rgR rs fill ls,fqs l,lqs c] (rt (jN (inR rs fill) n l c))
 |0,_,_,_,h,_,_,_=>by omega
 |n+1,[],c,_,_,hc,hd,_=>by
  have d1:=nZ hc om;have h9:=Bb hc;have d2:=EW (ls:=ls) (p:=(bX c).getD (0,0)) hf hrl hrs ⟨by have:=h9.1;omega,by have:=h9.2;omega⟩;have d3:=cB (inR rs fill ((bX c).getD (0,0)));unfold jN;clear hc h9 hrs hf;generalize inR rs fill ((bX c).getD (0,0))=bb at *;generalize(bX c).getD (0,0)=p at *;refine Pi Tryz.func141 fun C=>?_
  exact Y3 d1 d2 d3
 |n+1,f::l,c,hl,hphi,hc,hd,hlen=>by
  have hfw:=hl f Ms;have hsm:=hfw.l;have hphi2:=oM fun g hg=>(hl g hg).g
  obtain⟨w1,w2⟩:=C3 hsm hl;obtain⟨n1,n2⟩:=lg (m:=f.1) fun g hg=>(hl g hg).g
  have i1:=tM (ls:=ls) hf hrl hrs n (aJ (f::l) f.1).1 (c++[f.1]) w1 om (kv hc hsm) (by rw [List.length_append,List.length_singleton];omega) om;have i2:=tM (ls:=ls) hf hrl hrs n (aJ (f::l) f.1).2 (c++[f.1.neg]) w2 om (kv hc hsm.neg) (by rw [List.length_append,List.length_singleton];omega) om
  have hsl:∀m:Li,lqs (c++[m])=sl ((c.map lqx).flatten++lqx m) (c.length+1):=fun m=>by
   show sl ((c++[m]).map lqx).flatten (c++[m]).length=_
   rw [nS,List.length_append,List.length_singleton]
  rw [hsl]at i1 i2;have hfl:=oo c;have d3:=mB f.1 hsm.ile;have ds:∀g∈f::l,Pu Tryz.prog 200 [ag (fqx g),lq f.1] (Ab.tup [fqs (bM g f.1).1,fqs (bM g f.1).2])∧(bM g f.1).1.length≤1∧(bM g f.1).2.length≤1:=fun g hg=>⟨Ay (hl g hg).g (hl g hg).l hsm (hl g hg).s,nR (hl g hg).g⟩
  have hb1:∀k,(aJ ((f::l).take k) f.1).1.length≤1000∧(aJ ((f::l).take k) f.1).2.length≤1000:=fun k=>by
   obtain⟨q1,q2⟩:=lg (l:=(f::l).take k) (m:=f.1) fun g hg=>(hl g (List.mem_of_mem_take hg)).g
   rw [List.length_take]at q1 q2;omega
  show Pu _ _ _ (rt (.node f.1 (jN (inR rs fill) n (aJ (f::l) f.1).1 (c++[f.1])) (jN (inR rs fill) n (aJ (f::l) f.1).2 (c++[f.1.neg]))))
  generalize jN (inR rs fill) n (aJ (f::l) f.1).1 (c++[f.1])=tA at *;generalize jN (inR rs fill) n (aJ (f::l) f.1).2 (c++[f.1.neg])=tB at *;have hat0:=cX (f:=fqx) (n:=14) (l:=f::l) (k:=0) jw rfl;have hne0:((f::l).map fqx).flatten≠[]:=e7 jw om (by simp);have hgl:f∈f::l:=Ms;have hpl:0<(f::l).length:=by simp
  clear hl hphi hphi2 w1 w2 hsl hf hrs hfw;obtain⟨m,hm⟩:∃m,m=f.1:=⟨_,rfl⟩
  rw [←hm]at i1 i2 d3 ds hb1 n1 n2⊢;have hfq:fqx f=lqx m++spx f.2:=by rw [hm]
  rw [hfq]at hat0;generalize hxs:f::l=xs at *;clear hxs hm hfq hgl;refine Pi Tryz.func141 fun C=>?_
  repeat(first|(refine Wo (aF (sv:=ag _) rfl) ?_)|(refine Wdo (aF (sv:=ag _) rfl) ?_)|(refine A1 ⟨?_⟩;intros))
  refine Wo (a8 (cs':=lqx m++spx f.2) rfl rfl om om hat0 hne0) ?_;repeat(refine A1 ⟨?_⟩;intros)
  rename_i b9;refine WPL.store (b:=b9) (o:=0) (sv:=ag (lqx m)) (cs':=lqx m) rfl rfl rfl (.here _) rfl rfl ?_;repeat(refine A1 ⟨?_⟩;intros)
  refine WP.loopS (ι:=Jb) (fun y=>y.k≤xs.length∧Own fT 14 (aJ (xs.take y.k) m).1.length ((aJ (xs.take y.k) m).1.map fqx).flatten y.s1 y.H1∧Own fT 14 (aJ (xs.take y.k) m).2.length ((aJ (xs.take y.k) m).2.map fqx).flatten y.s2 y.H2) (fun y=>xs.length-y.k)
   (fun y=>fm [(2,lqs c),(3,pt [rL rs,lit (.int .i64 fill),lqs ls]),(9,lit (.pointer (some ⟨b9,0,none⟩))),(10,y.s1),(11,y.s2),(32,fqs xs),(33,lit (.int .i64 xs.length)),(34,lit (.int .i64 y.k))])
   (fun y=>(b9,lT,lqx m)::(y.H1++y.H2)) ⟨0,lit (.slice none 0 0),[],lit (.slice none 0 0),[]⟩
   ⟨Nat.zero_le _,Own.nil _ _,Own.nil _ _⟩ lfA Sr ?_
  rintro ⟨k,s1,H1,s2,H2⟩ ⟨hk,hown1,hown2⟩ K hK;simp only at hk hown1 hown2⊢;have hco1:=hown1.co;have hco2:=hown2.co;by_cases hkl:k<xs.length
  ·obtain⟨g,hget,hmm,hat,hne⟩:=elt jw om hkl;obtain⟨dg,g1,g2⟩:=ds g hmm;obtain⟨r1,r2⟩:=hb1 k;obtain⟨e1,e2⟩:=vt (m:=m) hget;have hgo:=fun s1' H1' (h1:Own fT 14 (aJ (xs.take (k+1)) m).1.length ((aJ (xs.take (k+1)) m).1.map fqx).flatten s1' H1') s2' H2' (h2:Own fT 14 (aJ (xs.take (k+1)) m).2.length ((aJ (xs.take (k+1)) m).2.map fqx).flatten s2' H2') F' H'=>hK F' H' ⟨k+1,s1',H1',s2',H2'⟩ ⟨(by simp only;omega),h1,h2⟩ (by simp only;omega)
   rw [e1,e2,yj,yj,List.length_append,List.length_append]at hgo;have f1:(((bM g m).1.map fqx).flatten).length=(bM g m).1.length*14:=bk jw _;have f2:(((bM g m).2.map fqx).flatten).length=(bM g m).2.length*14:=bk jw _;clear hK hget hmm i1 i2 d3 ds hb1 hfl hat0 hne0 e1 e2;generalize(bM g m).1=A at *;generalize(bM g m).2=B at *;generalize(aJ (xs.take k) m).1.length=m1 at *;generalize(aJ (xs.take k) m).2.length=m2 at *;generalize((aJ (xs.take k) m).1.map fqx).flatten=q1 at *;generalize((aJ (xs.take k) m).2.map fqx).flatten=q2 at *;repeat(refine A1 ⟨?_⟩;intros)
   refine Wo (a8 (cs':=fqx g) rfl rfl om om hat hne) ?_;repeat(refine A1 ⟨?_⟩;intros)
   rename_i b13;refine WPL.store (b:=b13) (o:=0) (sv:=ag (fqx g)) (cs':=fqx g) rfl rfl rfl (.here _) rfl rfl ?_;repeat(first|(refine A1 ⟨?_⟩;intros)|refine W4 dg ⟨?_⟩)
   refine v8 (k0:=A.length) (ds:=(A.map fqx).flatten) hown1 (pn _ _ _ _) om f1 (fun s1' H1' hown1'=>?_);have hco1':=hown1'.co;replace hgo:=hgo s1' H1' hown1';clear hown1 hown1';refine WPL.perm (pn _ _ _ _).symm ?_;repeat(refine A1 ⟨?_⟩;intros)
   refine v8 (k0:=B.length) (ds:=(B.map fqx).flatten) hown2 (zh _ _ _ _) om f2 (fun s2' H2' hown2'=>?_);have hco2':=hown2'.co;replace hgo:=hgo s2' H2' hown2';clear hown2 hown2';refine WPL.perm (zh _ _ _ _).symm ?_;repeat(refine A1 ⟨?_⟩;intros)
   exact hgo _ _ lfA (Sc Sr)
  ·have hke:k=xs.length:=by omega
   subst hke;rw [List.take_length]at hown1 hown2;refine WP.rowS 11 hown2 rfl (R:=(b9,lT,lqx m)::H1) (List.perm_append_comm (l₁:=_::H1) (l₂:=H2)) ?_;refine WP.rowS 10 hown1 rfl (R:=[(b9,lT,lqx m)]) (List.perm_append_comm (l₁:=[_]) (l₂:=H1)) ?_;clear hK hown1 hown2 ds hb1 hat0 hne0;generalize(aJ xs m).1=A at *;generalize(aJ xs m).2=B at *;rw [show rt (.node m tA tB)=pt (rc (.node m tA tB))from rfl,fq];by_cases h0:c=[]
   ·subst h0;clear hfl hc;repeat(first|(refine AS ⟨?_⟩;intros)|(refine O1 ⟨?_⟩;intros))
    repeat(first|(refine Wo (kI) ?_)|(refine Wdo (kI) ?_)|(refine Wo (iQ rfl rfl) ?_)|(refine Wdo (iQ rfl rfl) ?_)|(refine Wo (bs (r:=[(0,lqx m)]) (cs:=lqx m) (.cons (sv:=ag (lqx m)) rfl inferInstance .nil)) ?_)|(refine Wdo (bs (r:=[(0,lqx m)]) (cs:=lqx m) (.cons (sv:=ag (lqx m)) rfl inferInstance .nil)) ?_)|(refine Wo (bs (r:=[(0,lqx m.neg)]) (cs:=lqx m.neg) (.cons (sv:=ag (lqx m.neg)) rfl inferInstance .nil)) ?_)|(refine Wdo (bs (r:=[(0,lqx m.neg)]) (cs:=lqx m.neg) (.cons (sv:=ag (lqx m.neg)) rfl inferInstance .nil)) ?_)|(refine Wo (ay (k:=0) (k0:=1) (ds:=lqx m) rfl rfl rfl rfl om) ?_)|(refine Wdo (ay (k:=0) (k0:=1) (ds:=lqx m) rfl rfl rfl rfl om) ?_)|(refine Wo (ay (k:=0) (k0:=1) (ds:=lqx m.neg) rfl rfl rfl rfl om) ?_)|(refine Wdo (ay (k:=0) (k0:=1) (ds:=lqx m.neg) rfl rfl rfl rfl om) ?_)|(refine Wo (aF (sv:=ag _) rfl) ?_)|(refine Wdo (aF (sv:=ag _) rfl) ?_)|(refine A1 ⟨?_⟩;intros)|refine W4 i1 ⟨?_⟩|refine W4 i2 ⟨?_⟩|refine W4 d3 ⟨?_⟩)
    exact E1
   ·have hpos:=List.length_pos_iff.2 h0;clear hc h0;repeat(first|(refine AS ⟨?_⟩;intros)|(refine O1 ⟨?_⟩;intros))
    refine WdZ 22 [0,1,2,3,4,6,7,10,11,12,13,15,5,8,9,14,16,17,18,19,20,21] [5,8,14,18] [] [(b9,lT,lqx m)] ?_;refine ZkD 12 ?_;repeat(first|(refine Wo (ic) ?_)|(refine Wdo (ic) ?_)|(refine Wo (bs (r:=[(0,lqx m)]) (cs:=lqx m) (.cons (sv:=ag (lqx m)) rfl inferInstance .nil)) ?_)|(refine Wdo (bs (r:=[(0,lqx m)]) (cs:=lqx m) (.cons (sv:=ag (lqx m)) rfl inferInstance .nil)) ?_)|(refine A1 ⟨?_⟩;intros))
    refine rP ?_;refine ZkE rfl rfl hfl om om (fun s' H' hown=>?_) (hyx:=fun h=>by cases h);refine ZkP hown om ?_;refine ZkD 1 ?_;repeat(first|(refine A1 ⟨?_⟩;intros)|refine W4 i1 ⟨?_⟩)
    refine rP ?_;refine ZkE rfl rfl hfl om om (fun s' H' hown=>?_) (hyx:=fun h=>by cases h);refine ZkD 2 ?_;repeat(first|(refine Wo (bs (r:=[(0,lqx m.neg)]) (cs:=lqx m.neg) (.cons (sv:=ag (lqx m.neg)) rfl inferInstance .nil)) ?_)|(refine Wdo (bs (r:=[(0,lqx m.neg)]) (cs:=lqx m.neg) (.cons (sv:=ag (lqx m.neg)) rfl inferInstance .nil)) ?_)|(refine A1 ⟨?_⟩;intros)|refine W4 d3 ⟨?_⟩)
    refine rP ?_;refine ZkP hown om ?_;refine ZkD 3 ?_;repeat(first|(refine Wo (aF (sv:=ag _) rfl) ?_)|(refine Wdo (aF (sv:=ag _) rfl) ?_)|(refine A1 ⟨?_⟩;intros)|refine W4 i2 ⟨?_⟩)
    refine rP ?_;refine ZkN ?_;exact Z1
theorem AF {rs:List (List Pq)}{fill:Int}{ls:List Li}(hf:fill=1∨fill=2) (hrl:rs.length≤20) (hrs:∀r∈rs,i0 r) :
  Pu Tryz.prog 85 [rgR rs fill ls] (rt (bq (jN (inR rs fill) (20000) ((rs.map dY).flatten) []) [])):=by
 have hlen:((rs.map dY).flatten).length≤120:=by have:=gT rs hrs;unfold g8 at this;rw [List.length_map]at this;omega
 have hfw:∀f∈(rs.map dY).flatten,FgW (g8 rs) f:=fun f hf=>by
  obtain⟨e,he,hfe⟩:=List.mem_flatten.1 hf;obtain⟨r,hr,rfl⟩:=List.mem_map.1 he;obtain⟨q1,q2,q3⟩:=uO (hrs r hr) f hfe;exact⟨q3 _ (List.mem_map.2 ⟨f,hf,rfl⟩),q1,⟨by have:=q2.1;omega,by have:=q2.2;omega⟩⟩
 have hL:=ur hrs;have hLl:=gT rs hrs;have hphi:ft (g8 rs) (rs.map dY).flatten≤120*121:=Nat.le_trans (u4 _ _) (Nat.mul_le_mul hlen om);have ir:=tM (ls:=ls) hf om hrs 20000 ((rs.map dY).flatten) [] hfw om (fun m h=>by cases h) (by simp) om;have ir':=ir.arg (l':=[rgR rs fill ls,fqs (rs.map dY).flatten,lit (.slice none 0 0)]) ⟨Le.refl _,Le.refl _,ew,trivial⟩;obtain⟨z1,z2,z3⟩:=kD (inR rs fill) 20000 ((rs.map dY).flatten) [] (fun f hf=>(hfw f hf).g) (show ft (g8 rs) _<20000 by omega);have cr:=jg (jN (inR rs fill) 20000 (rs.map dY).flatten []) (z3.all hL) om;have de:∀r∈rs,Pu Tryz.prog 140 [rps r] (fqs (dY r))∧(dY r).length≤6:=fun r hr=>⟨sA (hrs r hr),by rw [ns];exact(hrs r hr).1⟩
 have hb:∀k,(((rs.take k).map dY).flatten).length≤120:=fun k=>by
  have:=gT (rs.take k) (fun r hr=>hrs r (List.mem_of_mem_take hr));unfold g8 at this;rw [List.length_map,List.length_take]at this;omega
 clear hfw hL hLl hphi ir z1 z2 z3 hlen;generalize jN (inR rs fill) 20000 (rs.map dY).flatten []=raw at *;generalize bq raw []=red at *;refine Pi Tryz.func85 fun C=>?_
 repeat(first|(refine Wo (aF (sv:=ag _) rfl) ?_)|(refine Wdo (aF (sv:=ag _) rfl) ?_)|(refine A1 ⟨?_⟩;intros))
 refine WP.loopS (ι:=yz) (fun y=>y.k≤rs.length∧Own fT 14 (((rs.take y.k).map dY).flatten).length ((((rs.take y.k).map dY).flatten).map fqx).flatten y.s y.Hs) (fun y=>rs.length-y.k)
  (fun y=>fm [(1,pt [rL rs,lit (.int .i64 fill),lqs ls]),(3,y.s),(7,rL rs),(8,lit (.int .i64 rs.length)),(9,lit (.int .i64 y.k))]) (fun y=>y.Hs) ⟨0,lit (.slice none 0 0),[]⟩
  ⟨Nat.zero_le _,Own.nil _ _⟩ lfA (List.nil_sublist _) ?_
 rintro ⟨k,s,Hs⟩ ⟨hk,hown⟩ K hK;simp only at hk hown⊢;have hco:=hown.co;by_cases hkl:k<rs.length
 ·obtain⟨r,hget,hmm,hat,hne⟩:=elt (f:=fun r=>[rps r]) (n:=1) (fun _=>rfl) om hkl;obtain⟨c,h6⟩:=de r hmm;have hbk:=hb k;have hgo:=fun s' Hs' h F' H'=>hK F' H' ⟨k+1,s',Hs'⟩ ⟨by simp only;omega,h⟩ (by simp only;omega)
  simp only [dU hget,yj,List.length_append]at hgo;have f1:(((dY r).map fqx).flatten).length=(dY r).length*14:=bk jw _;clear hK hget hmm de hb ir' cr;generalize dY r=A at *;generalize(((rs.take k).map dY).flatten).length=m1 at *;generalize((((rs.take k).map dY).flatten).map fqx).flatten=q1 at *;repeat(refine A1 ⟨?_⟩;intros)
  refine Wo (a8 (cs':=[rps r]) rfl rfl om om hat hne) ?_;repeat(first|(refine A1 ⟨?_⟩;intros)|refine W4 c ⟨?_⟩)
  refine En (k0:=A.length) (ds:=(A.map fqx).flatten) hown (Tk.same _) om f1 (fun s' H1 hown'=>?_);have hco':=hown'.co;replace hgo:=hgo s' H1 hown';clear hown hown';repeat(refine A1 ⟨?_⟩;intros)
  exact hgo _ _ lfA Sr
 ·have hke:k=rs.length:=by omega
  subst hke;rw [List.take_length]at hown;refine WP.rowS 3 hown rfl (by rw [List.append_nil]) ?_;clear hK hown de hb;exact Y2 ir' cr
abbrev lss (l:List (List Li)):SV:=sl (l.map fun c=>[lqs c]).flatten l.length
end Go.Ab
