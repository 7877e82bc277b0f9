/- Texts laid one behind the other: MsC, ScR, Num, NumB, NumC. -/
import Derived.Test.YtbcojehfealiaaaGreatDoorB37
set_option linter.all false
set_option maxHeartbeats 16000000
namespace Go.Ab
open Go.Proofs
variable [Base]
abbrev rT:TypeId:=92
theorem LS:frx 0=[lit (.int .i64 0),lit (.int .i64 0),lit (.pointer none)]:=by unfold frx;rw [e0r,e1r,e2r]
theorem LP:ppx (0,0)=[lit (.int .i64 0),lit (.int .i64 0),lit (.pointer none),lit (.int .i64 0),lit (.int .i64 0),lit (.pointer none)]:=by unfold ppx;simp only [e0r,e1r,e2r]
def fC (f:Pq×Pq→Rat) (E:List (Pq×Pq)) (i:Nat):Rat:=((E.take i).map f).foldl (· + ·) 0
theorem yY (f:Pq×Pq→Rat) (E:List (Pq×Pq)):fC f E 0=0:=by unfold fC;rw [List.take_zero];rfl
theorem yX {f:Pq×Pq→Rat}{E:List (Pq×Pq)}{i:Nat}{e:Pq×Pq}(h:E[i]? = some e):fC f E (i+1)=fC f E i+f e:=by
 unfold fC;rw [dM h,List.map_append,List.foldl_append];rfl
theorem i7 {f:Pq×Pq→Rat}{E:List (Pq×Pq)}{k:Nat}(h:∀e∈E,ht (f e)≤k) (i:Nat):ht (fC f E i)≤1+E.length*(k+1):=by
 have h0:=kR
 have h1:=B3 ((E.take i).map f) 0 (h:=k) (fun x hx=>by
  obtain⟨e,he,rfl⟩:=List.mem_map.1 hx;exact h e (List.mem_of_mem_take he))
 rw [List.length_map,List.length_take]at h1;unfold fC;have:=Nat.mul_le_mul_right (k+1) (Nat.min_le_right i E.length);omega
theorem pn {E:List (Pq×Pq)}{i:Nat}(h:i<E.length):E[i]? = some (E.getD i ((0,0),(0,0))):=by
 rw [List.getD_eq_getElem?_getD,List.getElem?_eq_getElem h];rfl
theorem IU {l:List PC}(hit:yf Tryz.prog 154 [pt [css l]] (zM l) (aj l).length) (hE:(aj l).length≤1884) (hh:∀e∈aj l,hp e.1 33∧hp e.2 33):Pu Tryz.prog 43 [css l] (fr (((aj l).map fun e=>a9 e.1 e.2).foldl (· + ·) 0/2)):=by
 have hc:∀e∈aj l,ht (a9 e.1 e.2)≤135:=fun e he=>by
  have:=kX (hh e he).1 (hh e he).2;omega
 have hS:=i7 (f:=fun e=>a9 e.1 e.2) hc;have hm:(aj l).length*(135+1)≤1884*136:=Nat.mul_le_mul_right _ hE;have hN:((aj l).map fun e=>a9 e.1 e.2).foldl (· + ·) 0=fC (fun e=>a9 e.1 e.2) (aj l) (aj l).length:=by unfold fC;rw [List.take_length]
 have h0:=yY (fun e=>a9 e.1 e.2) (aj l);have hs:∀i,i<(aj l).length→fC (fun e=>a9 e.1 e.2) (aj l) (i+1)=fC (fun e=>a9 e.1 e.2) (aj l) i+a9 ((aj l).getD i ((0,0),(0,0))).1 ((aj l).getD i ((0,0),(0,0))).2:=fun i hi=>yX (pn hi)
 have hcb:∀i,i<(aj l).length→ht (a9 ((aj l).getD i ((0,0),(0,0))).1 ((aj l).getD i ((0,0),(0,0))).2)≤135:=fun i hi=>hc _ (List.mem_of_getElem? (pn hi))
 rw [hN];clear hN hc hh;generalize fC (fun e=>a9 e.1 e.2) (aj l)=S at *;have ca:=xN (S (aj l).length) (by have:=hS (aj l).length;omega);refine PuH.toPu ?_;refine PuH.introE Tryz.func43 rfl kr fun C hpan hdf=>?_
 have E0:=@Jq _ Tryz.prog C 15 Tryz.f43 (fun r _=>r=fr (S (aj l).length/2)) hpan hdf;have E:=fun e a w (_:e≠Exit.normal) h=>E0 e a w h
 refine WPE.seq (Q:=mT Tryz.prog _ _) ?_ E;repeat(refine A1 ⟨?_⟩;intros)
 rename_i b2;refine WPE.seq (Q:=mT Tryz.prog _ _) ?_ E;repeat(refine A1 ⟨?_⟩;intros)
 rename_i b3;refine WPE.ahead ?_;refine WPE.seq (Q:=mT Tryz.prog Tryz.f43.results (fun r _=>r=fr (S (aj l).length/2))) ?_ (fun e a w hne h=>by cases e <;> first|exact absurd rfl hne|exact E _ a w hne h);repeat(first|(refine A1 ⟨?_⟩;intros)|refine W4 (tM l) ⟨?_⟩)
 refine WPE.rangeS (g := .tmp 7) (ps:=[8,9]) (Rs:=[(b2,rT,[lit (.int .i64 0),lit (.int .i64 0),lit (.pointer none)])]) (G:=fun i=>[(b3,rT,frx (S i))]) rfl hit (fun _=>rfl) (by rw [h0,LS];exact List.Perm.swap _ _ _) (fun _ _=>rfl) (by decide) ?_ ?_
 ·intro i y C1 hi _ _ hpan1;have hx:=hcb i hi;have hsi:=hS i;simp only [zM];rw [hs i hi];generalize(aj l).getD i ((0,0),(0,0))=e at *;have c:=iR (S i) (a9 e.1 e.2) om om;generalize a9 e.1 e.2=x at *;generalize S i+x=s2 at *;generalize S i=s1 at *;refine WPX.le (F':=fm [(3,lit (.pointer (some ⟨b3,0,none⟩))),(9,fr x)]) lfA ?_;refine WPX.reg ?_;repeat(refine A1 ⟨?_⟩;intros)
  refine fO.i ?_;intro C2 _ _ hpan2;refine WPX.block (WPX.reg ?_);repeat(first|(refine A1 ⟨?_⟩;intros)|refine W4 c ⟨?_⟩)
  repeat(first|exact Sr|refine Sc ?_)
 ·intro C1 D a w hrb hst;have E1:=@Jp _ Tryz.prog C 15 Tryz.f43 C1 D (fun r _=>r=fr (S (aj l).length/2)) hpan hdf hrb;suffices h:WPE Tryz.prog C1 15 _ _ (fm [(2,lit (.pointer (some ⟨b2,0,none⟩))),(3,lit (.pointer (some ⟨b3,0,none⟩)))]) [(b2,rT,[lit (.int .i64 0),lit (.int .i64 0),lit (.pointer none)]),(b3,rT,frx (S (aj l).length))]from h a w (hst.le lfA)
  refine WPE.fin (Q:=mT Tryz.prog Tryz.f43.results (fun r _=>r=fr (S (aj l).length/2))) ?_ E1;clear hst;generalize S (aj l).length=s at *;repeat(first|(refine A1 ⟨?_⟩;intros)|refine W4 ca ⟨?_⟩)
  exact eN _ _ (aJ (RV.cellA rfl mmA (by rfl) rfl) Lr) (List.nil_sublist _) rfl
theorem zI:Pu Tryz.prog 110 [lit (.int .i64 1),lit (.int .i64 6)] (fr ((1:Rat)/6)):=by
 have c1:=lP 1 om om;have c2:=lP 6 om om;have h1:ht ((1:Int):Rat)≤1:=eM 1 om;have h2:ht ((6:Int):Rat)≤1:=eM 6 om;have c3:=ov ((1:Int):Rat) ((6:Int):Rat) om om;rw [show(1:Rat)/6=((1:Int):Rat)/((6:Int):Rat)from rfl];generalize((1:Int):Rat)/((6:Int):Rat)=x at *;generalize((1:Int):Rat)=y at *;generalize((6:Int):Rat)=z at *;refine Pi Tryz.func110 fun C=>?_
 repeat(first|(refine A1 ⟨?_⟩;intros)|refine W4 c1 ⟨?_⟩|refine W4 c2 ⟨?_⟩|refine W4 c3 ⟨?_⟩)
 exact G1
theorem Kt:ht ((1:Rat)/6)≤1:=by
 have e:(1:Rat)/6=mkRat 1 6:=by rw [Rat.mkRat_eq_div];rfl
 rw [e];exact zB 1 6 (by decide) (by decide)
theorem zi {l:List PC}(hit:yf Tryz.prog 154 [pt [css l]] (zM l) (aj l).length) (hE:(aj l).length≤1884) (hh:∀e∈aj l,hp e.1 33∧hp e.2 33) :
  Pu Tryz.prog 52 [css l] (ppq (((aj l).map fun e=>(e.1.1+e.2.1)*a9 e.1 e.2).foldl (· + ·) 0*(1/6),((aj l).map fun e=>(e.1.2+e.2.2)*a9 e.1 e.2).foldl (· + ·) 0*(1/6))):=by
 have hg:∀e∈aj l,ht (a9 e.1 e.2)≤135∧ht ((e.1.1+e.2.1)*a9 e.1 e.2)≤203∧ht ((e.1.2+e.2.2)*a9 e.1 e.2)≤203:=fun e he=>by
  obtain⟨⟨a,b⟩,c,d⟩:=hh e he;have h1:=kX (hh e he).1 (hh e he).2;have h2:=aI e.1.1 e.2.1;have h3:=aI e.1.2 e.2.2;have h4:=ae (e.1.1+e.2.1) (a9 e.1 e.2);have h5:=ae (e.1.2+e.2.2) (a9 e.1 e.2);omega
 have hS:=i7 (f:=fun e=>(e.1.1+e.2.1)*a9 e.1 e.2) fun e he=>(hg e he).2.1
 have hT:=i7 (f:=fun e=>(e.1.2+e.2.2)*a9 e.1 e.2) fun e he=>(hg e he).2.2
 have hm:(aj l).length*(203+1)≤1884*204:=Nat.mul_le_mul_right _ hE;have hN:∀f:Pq×Pq→Rat,((aj l).map f).foldl (· + ·) 0=fC f (aj l) (aj l).length:=fun f=>by unfold fC;rw [List.take_length]
 have h0:=yY (fun e=>(e.1.1+e.2.1)*a9 e.1 e.2) (aj l);have h0':=yY (fun e=>(e.1.2+e.2.2)*a9 e.1 e.2) (aj l);have hs:=fun i (hi:i<(aj l).length)=>yX (f:=fun e=>(e.1.1+e.2.1)*a9 e.1 e.2) (pn hi)
 have ht':=fun i (hi:i<(aj l).length)=>yX (f:=fun e=>(e.1.2+e.2.2)*a9 e.1 e.2) (pn hi)
 have hcb:=fun i (hi:i<(aj l).length)=>hg _ (List.mem_of_getElem? (pn hi))
 have hpb:=fun i (hi:i<(aj l).length)=>hh _ (List.mem_of_getElem? (pn hi))
 rw [hN,hN];clear hN hh hg;generalize fC (fun e=>(e.1.1+e.2.1)*a9 e.1 e.2) (aj l)=S at *;generalize fC (fun e=>(e.1.2+e.2.2)*a9 e.1 e.2) (aj l)=T at *;have h6:=Kt;have ca:=eR (S (aj l).length) (T (aj l).length) (1/6) (by have:=hS (aj l).length;omega) (by have:=hT (aj l).length;omega) om;have cf:=zI;clear h6;generalize(1:Rat)/6=sx at *;refine PuH.toPu ?_;refine PuH.introE Tryz.func52 rfl kr fun C hpan hdf=>?_
 have E0:=@Jq _ Tryz.prog C 22 Tryz.f52 (fun r _=>r=ppq (S (aj l).length*sx,T (aj l).length*sx)) hpan hdf;have E:=fun e a w (_:e≠Exit.normal) h=>E0 e a w h
 refine WPE.seq (Q:=mT Tryz.prog _ _) ?_ E;repeat(refine A1 ⟨?_⟩;intros)
 rename_i b2;refine WPE.seq (Q:=mT Tryz.prog _ _) ?_ E;repeat(refine A1 ⟨?_⟩;intros)
 rename_i b3;refine WPE.ahead ?_;refine WPE.seq (Q:=mT Tryz.prog Tryz.f52.results (fun r _=>r=ppq (S (aj l).length*sx,T (aj l).length*sx))) ?_ (fun e a w hne h=>by cases e <;> first|exact absurd rfl hne|exact E _ a w hne h);repeat(first|(refine A1 ⟨?_⟩;intros)|refine W4 (tM l) ⟨?_⟩)
 refine WPE.rangeS (g := .tmp 7) (ps:=[8,9]) (Rs:=[(b2,gpT,[lit (.int .i64 0),lit (.int .i64 0),lit (.pointer none),lit (.int .i64 0),lit (.int .i64 0),lit (.pointer none)])]) (G:=fun i=>[(b3,gpT,ppx (S i,T i))]) rfl hit (fun _=>rfl) (by rw [h0,h0',LP];exact List.Perm.swap _ _ _) (fun _ _=>rfl) (by decide) ?_ ?_
 ·intro i y C1 hi _ _ hpan1;obtain⟨hx,hx2,hx3⟩:=hcb i hi;obtain⟨⟨g1,g2⟩,g3,g4⟩:=hpb i hi;have hsi:=hS i;have hti:=hT i;simp only [zM];rw [hs i hi,ht' i hi];generalize(aj l).getD i ((0,0),(0,0))=e at *;have k1:=aI e.1.1 e.2.1;have k2:=aI e.1.2 e.2.2;have c1:=nV e.1.1 e.1.2 e.2.1 e.2.2 om om om om;have c2:=eR (e.1.1+e.2.1) (e.1.2+e.2.2) (a9 e.1 e.2) om om om;have c3:=nV (S i) (T i) ((e.1.1+e.2.1)*a9 e.1 e.2) ((e.1.2+e.2.2)*a9 e.1 e.2) om om om om;generalize hS2:S i+(e.1.1+e.2.1)*a9 e.1 e.2=s2 at *;generalize hT2:T i+(e.1.2+e.2.2)*a9 e.1 e.2=t2 at *;generalize(e.1.1+e.2.1)*a9 e.1 e.2=u1 at *;generalize(e.1.2+e.2.2)*a9 e.1 e.2=u2 at *;generalize e.1.1+e.2.1=v1 at *;generalize e.1.2+e.2.2=v2 at *;generalize a9 e.1 e.2=x at *;generalize S i=s1 at *;generalize T i=t1 at *;generalize e.1=p at *;generalize e.2=q at *;clear hcb hpb hx hx2 hx3 g1 g2 g3 g4 hsi hti k1 k2 hs ht' hS hT hS2 hT2;refine WPX.le (F':=fm [(3,lit (.pointer (some ⟨b3,0,none⟩))),(8,ag (ppe p q)),(9,fr x)]) lfA ?_;refine WPX.seq (WPX.reg ?_);repeat(refine A1 ⟨?_⟩;intros)
  refine WPX.reg ?_;repeat(refine A1 ⟨?_⟩;intros)
  refine fO.i ?_;intro C2 _ _ hpan2;refine WPX.block (WPX.late 9 1 ?_);repeat(refine A1 ⟨?_⟩;intros)
  refine Wdo (dh (len:=2) (k:=6) (i:=0) Tryz.underlying177 rfl rfl (by decide) (by decide)) ?_;repeat(refine A1 ⟨?_⟩;intros)
  refine Wdo (dh (len:=2) (k:=6) (i:=1) Tryz.underlying177 rfl rfl (by decide) (by decide)) ?_;repeat(first|(refine A1 ⟨?_⟩;intros)|refine W4 c1 ⟨?_⟩|refine W4 c2 ⟨?_⟩|refine W4 c3 ⟨?_⟩)
  refine dL0 ?_;refine Gs (sv:=ag (ppx (s2,t2))) (cs':=ppx (s2,t2)) rfl rfl rfl (by first|exact .here _|exact .there _ (.here _)|exact .there _ (.there _ (.here _))) rfl rfl ?_ ?_
  ·(repeat(first|exact LOk.nil|refine Lsk ?_|refine Lcv ?_))
  refine Gn ?_ ?_
  ·(repeat(first|exact LOk.nil|refine Lsk ?_|refine Lcv ?_))
  repeat(refine A1 ⟨?_⟩;intros)
  repeat(first|exact Sr|refine Sc ?_)
 ·intro C1 D a w hrb hst;have E1:=@Jp _ Tryz.prog C 22 Tryz.f52 C1 D (fun r _=>r=ppq (S (aj l).length*sx,T (aj l).length*sx)) hpan hdf hrb;suffices h:WPE Tryz.prog C1 22 _ _ (fm [(2,lit (.pointer (some ⟨b2,0,none⟩))),(3,lit (.pointer (some ⟨b3,0,none⟩)))]) [(b2,gpT,[lit (.int .i64 0),lit (.int .i64 0),lit (.pointer none),lit (.int .i64 0),lit (.int .i64 0),lit (.pointer none)]),(b3,gpT,ppx (S (aj l).length,T (aj l).length))]from h a w (hst.le lfA)
  refine WPE.fin (Q:=mT Tryz.prog Tryz.f52.results (fun r _=>r=ppq (S (aj l).length*sx,T (aj l).length*sx))) ?_ E1;clear hst;generalize S (aj l).length=s at *;generalize T (aj l).length=t at *;generalize s*sx=s' at *;generalize t*sx=t' at *;repeat(first|(refine AS ⟨?_⟩;intros)|(refine O1 ⟨?_⟩;intros))
  refine WdL 3 1 ?_;repeat(first|(refine A1 ⟨?_⟩;intros)|refine W4 cf ⟨?_⟩|refine W4 ca ⟨?_⟩)
  refine dL0 ?_;refine Gs (sv:=ag (ppx (s',t'))) (cs':=ppx (s',t')) rfl rfl rfl (by first|exact .here _|exact .there _ (.here _)) rfl rfl ?_ ?_
  ·(repeat(first|exact LOk.nil|refine Lsk ?_|refine Lcv ?_))
  refine Gn ?_ ?_
  ·(repeat(first|exact LOk.nil|refine Lsk ?_|refine Lcv ?_))
  repeat(refine A1 ⟨?_⟩;intros)
  exact eN _ _ (aJ (RV.cellA rfl mmA (by rfl) rfl) Lr) (List.nil_sublist _) rfl
abbrev bw (t:Tr):Rat:=cw ar2 (inC t)/2
abbrev gI (t:Tr):Pq:=(cw mx6 (inC t)*(1/6),cw my6 (inC t)*(1/6))
theorem ArT.it {t:Tr}(h:ArT t):yf Tryz.prog 154 [pt [css (inC t)]] (zM (inC t)) (aj (inC t)).length :=
 zk (L:=16) (inC t) (fun c hc s hs=>((h.inC_le c hc).1 s hs).1) om om (fun c hc=>by have:=(h.inC_le c hc).2;omega) (by have:=h.inC_len;omega)
theorem ArT.area_p {t:Tr}(h:ArT t):Pu Tryz.prog 43 [css (inC t)] (fr (bw t)):=by
 obtain⟨h1,h2⟩:=h.edges;have c:=IU h.it h1 h2;rw [h.area]at c;exact c
theorem ArT.mom_p {t:Tr}(h:ArT t):Pu Tryz.prog 52 [css (inC t)] (ppq (gI t)):=by
 obtain⟨h1,h2⟩:=h.edges;have c:=zi h.it h1 h2;rw [vj (jq h.lok) h.bnd,vi (jq h.lok) h.bnd]at c;exact c
theorem ArT.area_ht {t:Tr}(h:ArT t):ht (bw t)≤260000:=by
 obtain⟨h1,h2⟩:=h.edges
 have hc:∀e∈aj (inC t),ht (a9 e.1 e.2)≤135:=fun e he=>by
  have:=kX (h2 e he).1 (h2 e he).2;omega
 have hS:=i7 (f:=fun e=>a9 e.1 e.2) hc (aj (inC t)).length;have hm:(aj (inC t)).length*(135+1)≤1884*136:=Nat.mul_le_mul_right _ h1;have e:fC (fun e=>a9 e.1 e.2) (aj (inC t)) (aj (inC t)).length=cw ar2 (inC t):=by unfold fC;rw [List.take_length];exact h.area
 rw [e]at hS;have h3:=iJ (cw ar2 (inC t)) 2;have h4:ht (2:Rat)≤1:=eM 2 om;show ht (cw ar2 (inC t)/2)≤_
 omega
theorem ArT.mom_ht {t:Tr}(h:ArT t):ht (gI t).1≤400000∧ht (gI t).2≤400000:=by
 obtain⟨h1,h2⟩:=h.edges
 have hg:∀e∈aj (inC t),ht ((e.1.1+e.2.1)*a9 e.1 e.2)≤203∧ht ((e.1.2+e.2.2)*a9 e.1 e.2)≤203:=fun e he=>by
  obtain⟨⟨a,b⟩,c,d⟩:=h2 e he;have h1:=kX (h2 e he).1 (h2 e he).2;have h2:=aI e.1.1 e.2.1;have h3:=aI e.1.2 e.2.2;have h4:=ae (e.1.1+e.2.1) (a9 e.1 e.2);have h5:=ae (e.1.2+e.2.2) (a9 e.1 e.2);omega
 have hS:=i7 (f:=fun e=>(e.1.1+e.2.1)*a9 e.1 e.2) (fun e he=>(hg e he).1) (aj (inC t)).length;have hT:=i7 (f:=fun e=>(e.1.2+e.2.2)*a9 e.1 e.2) (fun e he=>(hg e he).2) (aj (inC t)).length;have hm:(aj (inC t)).length*(203+1)≤1884*204:=Nat.mul_le_mul_right _ h1;have e1:fC (fun e=>(e.1.1+e.2.1)*a9 e.1 e.2) (aj (inC t)) (aj (inC t)).length=cw mx6 (inC t):=by unfold fC;rw [List.take_length];exact vj (jq h.lok) h.bnd
 have e2:fC (fun e=>(e.1.2+e.2.2)*a9 e.1 e.2) (aj (inC t)) (aj (inC t)).length=cw my6 (inC t):=by unfold fC;rw [List.take_length];exact vi (jq h.lok) h.bnd
 rw [e1]at hS;rw [e2]at hT;have h6:=Kt;have h3:=ae (cw mx6 (inC t)) (1/6);have h4:=ae (cw my6 (inC t)) (1/6);show ht (cw mx6 (inC t)*(1/6))≤_∧ht (cw my6 (inC t)*(1/6))≤_
 omega
theorem xx {t:Tr}(h:ArT t) (c1:Pu Tryz.prog 38 [tq t] (Ab.tup [bt t,lit (.bool true)])):Pu Tryz.prog 14 [tq t] (Ab.tup [q (bw t),lit .nilIface]):=by
 have c2:=rH h c1;have c3:=h.area_p;have c4:=jr (bw t) (by have:=h.area_ht;omega);clear h c1;generalize bw t=a at *;generalize inC t=r at *;refine Pi Tryz.func14 fun C=>?_
 repeat(first|(refine Wo (bh (sv:=ag _) rfl) ?_)|(refine Wdo (bh (sv:=ag _) rfl) ?_)|(refine A1 ⟨?_⟩;intros)|refine W4 c2 ⟨?_⟩|refine W4 c3 ⟨?_⟩|refine W4 c4 ⟨?_⟩)
 exact G3
abbrev eW (t:Tr):Pq:=((gI t).1*(bw t)⁻¹,(gI t).2*(bw t)⁻¹)
theorem AT {t:Tr}(h:ArT t) (hn:inC t≠[]) (c1:Pu Tryz.prog 38 [tq t] (Ab.tup [bt t,lit (.bool true)])):Pu Tryz.prog 19 [tq t] (Ab.tup [pq (eW t).1 (eW t).2,lit .nilIface]):=by
 have c2:=rH h c1;have c3:=h.area_p;have c4:=h.mom_p;have k1:=h.area_ht;obtain⟨k2,k3⟩:=h.mom_ht;have k4:=kh (bw t);have c5:=vE (bw t) om;have c6:=eR (gI t).1 (gI t).2 (bw t)⁻¹ om om om;have k5:=ae (gI t).1 (bw t)⁻¹;have k6:=ae (gI t).2 (bw t)⁻¹;have c7:=uY (eW t).1 (eW t).2 (by show ht ((gI t).1*(bw t)⁻¹)≤_;omega) (by show ht ((gI t).2*(bw t)⁻¹)≤_;omega);show Pu _ _ _ (Ab.tup [pq ((gI t).1*(bw t)⁻¹) ((gI t).2*(bw t)⁻¹),_])
 have c7:Pu Tryz.prog 55 [pp ((gI t).1*(bw t)⁻¹) ((gI t).2*(bw t)⁻¹)] (pq ((gI t).1*(bw t)⁻¹) ((gI t).2*(bw t)⁻¹)):=c7;have hl:=List.length_pos_iff.2 hn;have hl2:=h.inC_len;clear k1 k2 k3 k4 k5 k6 hn h c1;generalize(gI t).1*(bw t)⁻¹=x at *;generalize(gI t).2*(bw t)⁻¹=y at *;generalize(bw t)⁻¹=ai at *;generalize bw t=a at *;generalize gI t=mm at *;generalize inC t=r at *;refine Pi Tryz.func19 fun C=>?_
 repeat(first|(refine Wo (bh (sv:=ag _) rfl) ?_)|(refine Wdo (bh (sv:=ag _) rfl) ?_)|(refine A1 ⟨?_⟩;intros)|refine W4 c2 ⟨?_⟩|refine W4 c3 ⟨?_⟩|refine W4 c4 ⟨?_⟩|refine W4 c5 ⟨?_⟩|refine W4 c6 ⟨?_⟩|refine W4 c7 ⟨?_⟩)
 exact G3
theorem F7 {t:Tr}(h:ArT t) (hn:inC t=[]) (c1:Pu Tryz.prog 38 [tq t] (Ab.tup [bt t,lit (.bool true)])) [J6 1]:Pu Tryz.prog 19 [tq t] (Ab.tup [ag [lit (.bool false),lit (.slice none 0 0),lit (.slice none 0 0),lit (.bool false),lit (.slice none 0 0),lit (.slice none 0 0)],lit (JH 1)]):=by
 have c2:=rH h c1;rw [hn]at c2;clear h c1;refine Pi Tryz.func19 fun C=>?_
 repeat(first|(refine Wo (bh (sv:=ag _) rfl) ?_)|(refine Wdo (bh (sv:=ag _) rfl) ?_)|(refine A1 ⟨?_⟩;intros)|refine W4 c2 ⟨?_⟩)
 repeat' (first|(refine A1 ⟨?_⟩;intros)|exact WPI.nil|refine And.intro ?_ ?_)
 all_goals exact G3
theorem yt {L:List Li}(h:∀l∈L,l.sm):∀l∈L,l.ok:=fun l hl=>(h l hl).1
abbrev vtx (l:List Pq) (i:Nat):Pq:=l.getD i (0,0)
abbrev nxt (l:List Pq) (i:Nat):Pq:=l.getD ((i+1)%l.length) (0,0)
open Classical in
noncomputable def hR (v q:Pq):Rat:=if v.2≤q.2 then 1 else 0
def wst (v w q:Pq):Rat:=a9 (w.1-v.1,w.2-v.2) (q.1-v.1,q.2-v.2)*(w.2-v.2)
open Classical in
noncomputable def wR (v w q:Pq):Rat:=if 0<wst v w q then 1 else 0
noncomputable def trm (v w q:Pq):Rat:=(hR v q + -1*hR w q)*wR v w q
theorem JG (x:Rat):x.num.sign≤0↔x≤0:=by
 have:=bp (x:=x);constructor
 ·intro h;have:¬0<x:=fun k=>by have:=this.2 k;omega
  grind
 ·intro h;have:¬0<x.num.sign:=fun k=>by have:=this.1 k;grind
  omega
theorem DJ (l:List Pq) (p:Pq) (n:Int) (i:Nat):((fp l p n i:Int):Rat)=(n:Rat)+trm (vtx l i) (nxt l i) p:=by
 unfold fp trm hR wR wst vtx nxt lM;generalize l.getD i (0,0)=v;generalize l.getD ((i+1)%l.length) (0,0)=w;simp only [bp,dO,JG];have a1:v.2-p.2≤0↔v.2≤p.2:=by constructor <;> intro h <;> grind
 have a2:w.2-p.2≤0↔w.2≤p.2:=by constructor <;> intro h <;> grind
 by_cases h1:v.2-p.2≤0
 ·by_cases h2:w.2-p.2≤0
  ·simp only [h1,h2,if_true];rw [if_pos (a1.1 h1),if_pos (a2.1 h2)];grind
  ·simp only [h1,h2,if_true,if_false];rw [if_pos (a1.1 h1),if_neg (fun k=>h2 (a2.2 k))];have pos:0<w.2-v.2:=by grind
   have:0<a9 (w.1-v.1,w.2-v.2) (p.1-v.1,p.2-v.2)*(w.2-v.2)↔0<a9 (w.1-v.1,w.2-v.2) (p.1-v.1,p.2-v.2):=by
    rw [Rat.mul_comm];exact eE pos
   by_cases c:0<a9 (w.1-v.1,w.2-v.2) (p.1-v.1,p.2-v.2)
   ·rw [if_pos c,if_pos (this.2 c),Rat.intCast_add];grind
   ·rw [if_neg c,if_neg fun k=>c (this.1 k)];grind
 ·by_cases h2:w.2-p.2≤0
  ·simp only [h1,h2,if_true,if_false];rw [if_neg (fun k=>h1 (a1.2 k)),if_pos (a2.1 h2)];have pos:0<v.2-w.2:=by grind
   have:0<a9 (w.1-v.1,w.2-v.2) (p.1-v.1,p.2-v.2)*(w.2-v.2)↔a9 (w.1-v.1,w.2-v.2) (p.1-v.1,p.2-v.2)<0:=by
    have k:=eE (v := -a9 (w.1-v.1,w.2-v.2) (p.1-v.1,p.2-v.2)) pos;constructor
    ·intro x;have:=k.1 (by grind);grind
    ·intro x;have:=k.2 (by grind);grind
   by_cases c:a9 (w.1-v.1,w.2-v.2) (p.1-v.1,p.2-v.2)<0
   ·rw [if_pos c,if_pos (this.2 c),Rat.intCast_sub];grind
   ·rw [if_neg c,if_neg fun k=>c (this.1 k)];grind
  ·simp only [h1,h2,if_false];rw [if_neg (fun k=>h1 (a1.2 k)),if_neg (fun k=>h2 (a2.2 k))];grind
theorem xJ (l:List Pq) (p:Pq):∀(ks:List Nat) (n:Int),((ks.foldl (fp l p) n:Int):Rat)=(n:Rat)+bF (ks.map fun i=>trm (vtx l i) (nxt l i) p)
 | [],n=>by show(n:Rat)=n+0;grind
 |k::ks,n=>by
  rw [List.foldl_cons,xJ l p ks,DJ,List.map_cons];show _=(n:Rat)+(_+bF _)
  grind
theorem nY (l:List Pq) (p:Pq):((gj l p:Int):Rat)=bF ((List.range l.length).map fun i=>trm (vtx l i) (nxt l i) p):=by
 have:=xJ l p (List.range l.length) 0;unfold gj;rw [this];show(0:Rat)+_=_
 grind
theorem uj (l:List Pq) (g:Pq→Rat):bF ((List.range l.length).map fun i=>g (vtx l i) + -1*g (nxt l i))=0:=by
 rw [cV (fun i=>g (vtx l i)) (fun i => -1*g (nxt l i)),bK,qL (0,0) g l,oZ (0,0) g l];grind
theorem jv {α:Type}(f:α→Rat):∀(l:List α),(∀x∈l,f x=0)→bF (l.map f)=0
 | [],_=>rfl
 |x::l,h=>by
  show f x+bF (l.map f)=0
  rw [h x Ms,jv f l fun y hy=>h y (Mc hy)];grind
theorem mF {α:Type}{f g:α→Rat}{l:List α}(h:∀x∈l,f x=g x):bF (l.map f)=bF (l.map g):=by rw [List.map_congr_left h]
theorem IE {A B:Rat}(hB:0<B):∃N:Nat,∀n:Nat,N≤n→0<A+(n:Rat)*B:=by
 obtain⟨N,hN⟩:=rF (-A/B);refine⟨N+1,fun n hn=>?_⟩;have e : -A/B*B = -A:=Rat.div_mul_cancel (by grind);have h3:((N+1:Nat):Rat)≤(n:Rat):=Rat.natCast_le_natCast.2 hn;rw [Rat.natCast_add]at h3
 have h4:0<(n:Rat) - -A/B:=by
  have:((1:Nat):Rat)=1:=rfl;grind
 have:=Rat.mul_pos h4 hB;grind
theorem ow {α:Type}(A B:α→Rat):∀(l:List α),(∀x∈l,0<B x)→∃N:Nat,∀n:Nat,N≤n→∀x∈l,0<A x+(n:Rat)*B x
 | [],_=>⟨0,fun _ _ _ h=>by cases h⟩
 |x::l,h=>by
  obtain⟨N,hN⟩:=ow A B l fun y hy=>h y (Mc hy)
  obtain⟨M,hM⟩:=IE (A:=A x) (h x Ms);refine⟨max N M,fun n hn y hy=>?_⟩;rcases List.mem_cons.1 hy with rfl|hy
  ·exact hM n om
  ·exact hN n om y hy
theorem IF (l:List Pq) (q d:Pq) (hd:nz d):∃N:Nat,∀n:Nat,N≤n→gj l (bO q (n:Rat) d)=0:=by
 have fin:∀p,bF ((List.range l.length).map fun i=>trm (vtx l i) (nxt l i) p)=0→gj l p=0:=fun p h=>by
  rw [←nY]at h;exact Rat.intCast_eq_zero_iff.1 h
 have vm:∀i∈List.range l.length,vtx l i∈l∧nxt l i∈l:=fun i hi=>by
  have hi:=List.mem_range.1 hi;have hj:(i+1)%l.length<l.length:=Nat.mod_lt _ om;unfold vtx nxt;rw [List.getD,List.getElem?_eq_getElem hi,List.getD,List.getElem?_eq_getElem hj];exact⟨List.getElem_mem _,List.getElem_mem _⟩
 rcases(by grind:0<d.2∨d.2<0∨d.2=0)with c|c|c
 ·obtain⟨N,hN⟩:=ow (fun v:Pq=>q.2-v.2) (fun _=>d.2) l fun _ _=>c
  refine⟨N,fun n hn=>fin _ (jv _ _ fun i hi=>?_)⟩;obtain⟨h1,h2⟩:=vm i hi;have k1:=hN n hn _ h1;have k2:=hN n hn _ h2;unfold trm hR bO;rw [if_pos (by simp only;grind),if_pos (by simp only;grind)];grind
 ·obtain⟨N,hN⟩:=ow (fun v:Pq=>v.2-q.2) (fun _ => -d.2) l fun _ _=>by grind
  refine⟨N,fun n hn=>fin _ (jv _ _ fun i hi=>?_)⟩;obtain⟨h1,h2⟩:=vm i hi;have k1:=hN n hn _ h1;have k2:=hN n hn _ h2;unfold trm hR bO;rw [if_neg (by simp only;grind),if_neg (by simp only;grind)];grind
 ·have d1:d.1≠0:=by
   rcases hd with h|h
   ·exact h
   ·exact absurd c h
  have lin:∀(v w:Pq) (t:Rat),wst v w (bO q t d)=wst v w q+t * -((w.2-v.2)*(w.2-v.2)*d.1):=fun v w t=>by
   unfold wst bO a9;rw [c];simp only;grind
  have flat:∀(v w p:Pq),w.2=v.2→trm v w p=0:=fun v w p e=>by
   unfold trm hR;rw [e];grind
  rcases(by grind:0<d.1∨d.1<0)with c1|c1
  ·obtain⟨N,hN⟩:=ow (fun i:Nat => -wst (vtx l i) (nxt l i) q) (fun i=>((nxt l i).2-(vtx l i).2)*((nxt l i).2-(vtx l i).2)*d.1) ((List.range l.length).filter fun i=>decide ((nxt l i).2≠(vtx l i).2)) fun i hi=>by
    have hne:=of_decide_eq_true (List.mem_filter.1 hi).2;have s:=lj (a:=(nxt l i).2-(vtx l i).2) (b:=0) (.inl (by grind));exact Rat.mul_pos (by grind) c1
   refine⟨N,fun n hn=>fin _ (jv _ _ fun i hi=>?_)⟩;by_cases e:(nxt l i).2=(vtx l i).2
   ·exact flat _ _ _ e
   ·have k:=hN n hn i (List.mem_filter.2 ⟨hi,decide_eq_true e⟩);unfold trm wR;rw [lin,if_neg (by grind)];grind
  ·obtain⟨N,hN⟩:=ow (fun i:Nat=>wst (vtx l i) (nxt l i) q) (fun i => -(((nxt l i).2-(vtx l i).2)*((nxt l i).2-(vtx l i).2)*d.1)) ((List.range l.length).filter fun i=>decide ((nxt l i).2≠(vtx l i).2)) fun i hi=>by
    have hne:=of_decide_eq_true (List.mem_filter.1 hi).2;have s:=lj (a:=(nxt l i).2-(vtx l i).2) (b:=0) (.inl (by grind));have:=Rat.mul_pos (show 0<((nxt l i).2-(vtx l i).2)*((nxt l i).2-(vtx l i).2) by grind) (show 0 < -d.1 by grind);grind
   refine⟨N,fun n hn=>fin _ ?_⟩;rw [←uj l fun v=>hR v (bO q (n:Rat) d)];refine mF fun i hi=>?_
   by_cases e:(nxt l i).2=(vtx l i).2
   ·rw [flat _ _ _ e];unfold hR;rw [e];grind
   ·have k:=hN n hn i (List.mem_filter.2 ⟨hi,decide_eq_true e⟩);unfold trm wR;rw [lin,if_pos (by grind)];grind
end Go.Ab
namespace Go.Ab
open Go.Proofs
variable [Base]
def cR (v w:Pq):Li:=thr v.1 v.2 w.1 w.2
def lnH (y:Rat):Li:=dV 0 1 (-y)
theorem iF {v w:Pq}(h:v≠w):(cR v w).ok∧∃k:Rat,0<k∧∀q,a8 (cR v w) q=k*a9 (w.1-v.1,w.2-v.2) (q.1-v.1,q.2-v.2):=by
 have hne : -(w.2-v.2)≠0∨w.1-v.1≠0:=by
  apply Classical.byContradiction;intro c;have h1 : -(w.2-v.2)=0:=Classical.byContradiction fun e=>c (.inl e)
  have h2:w.1-v.1=0:=Classical.byContradiction fun e=>c (.inr e)
  exact h (Prod.ext (by grind) (by grind))
 obtain⟨e1,e2,e3⟩:=iS (c := -(-(w.2-v.2)*v.1+(w.1-v.1)*v.2)) hne;have hg:=kT (c := -(-(w.2-v.2)*v.1+(w.1-v.1)*v.2)) hne;refine⟨qg hne,_,Rat.inv_pos.2 hg,fun q=>?_⟩;unfold cR thr a8;rw [←e1,←e2,←e3];generalize(g3 _ _ _)⁻¹=g;unfold a9;simp only;grind
theorem qj (y:Rat):(lnH y).ok∧∃k:Rat,0<k∧∀q,a8 (lnH y) q=k*(q.2-y):=by
 have hne:(0:Rat)≠0∨(1:Rat)≠0 := .inr (by decide +kernel);obtain⟨e1,e2,e3⟩:=iS (c := -y) hne;have hg:=kT (c := -y) hne;refine⟨qg hne,_,Rat.inv_pos.2 hg,fun q=>?_⟩;unfold lnH a8;rw [←e1,←e2,←e3];generalize(g3 _ _ _)⁻¹=g;grind
def o6 (l:List Pq):List Li:=(List.range l.length).map (fun i=>cR (vtx l i) (nxt l i))++(List.range l.length).map fun i=>lnH (vtx l i).2
def sQ (l:List Pq):Prop:=∀i,i<l.length→vtx l i≠nxt l i
theorem AV {l:List Pq}(h:sQ l):∀m∈o6 l,m.ok:=fun m hm=>by
 rcases List.mem_append.1 hm with hm|hm
 ·obtain⟨i,hi,rfl⟩:=List.mem_map.1 hm;exact(iF (h i (List.mem_range.1 hi))).1
 ·obtain⟨i,hi,rfl⟩:=List.mem_map.1 hm;exact(qj _).1
def pH (l:List Pq) (c:List Li):Prop:=∀i,i<l.length→∀t:Rat,0≤t→t≤1→¬Inn c (lrp (vtx l i) (nxt l i) t)
theorem rY {v q r:Pq}(h:v.2≤q.2↔v.2≤r.2):hR v q=hR v r:=by
 unfold hR;by_cases c:v.2≤q.2
 ·rw [if_pos c,if_pos (h.1 c)]
 ·rw [if_neg c,if_neg fun k=>c (h.2 k)]
theorem wd {v w q r:Pq}(h:0<wst v w q↔0<wst v w r):wR v w q=wR v w r:=by
 unfold wR;by_cases c:0<wst v w q
 ·rw [if_pos c,if_pos (h.1 c)]
 ·rw [if_neg c,if_neg fun k=>c (h.2 k)]
theorem yx {m:Li}{q r:Pq}(h:sd m q=sd m r):(0<a8 m q↔0<a8 m r):=by
 unfold sd at h;rwa [decide_eq_decide]at h
theorem nt {v w q r:Pq}(hvw:v≠w) (oq:a8 (cR v w) q≠0) (or:a8 (cR v w) r≠0) (h:0<a8 (cR v w) q↔0<a8 (cR v w) r):0<wst v w q↔0<wst v w r:=by
 obtain⟨_,k,hk,e⟩:=iF hvw;rw [e]at oq or;rw [e,e,eE hk,eE hk]at h;unfold wst;have a:a9 (w.1-v.1,w.2-v.2) (q.1-v.1,q.2-v.2)≠0:=fun z=>oq (by rw [z];grind)
 have b:a9 (w.1-v.1,w.2-v.2) (r.1-v.1,r.2-v.2)≠0:=fun z=>or (by rw [z];grind)
 generalize a9 (w.1-v.1,w.2-v.2) (q.1-v.1,q.2-v.2)=x at *;generalize a9 (w.1-v.1,w.2-v.2) (r.1-v.1,r.2-v.2)=y at *;generalize w.2-v.2=s at *
 have key:∀x y:Rat,x≠0→y≠0→(0<x↔0<y)→0<x*s→0<y*s:=fun x y hx hy hxy k=>by
  by_cases c:0<x
  ·have hy:=hxy.1 c;have:=fP k (by grind);exact Rat.mul_pos hy this
  ·have hy2:y<0:=by
    have:¬0<y:=fun z=>c (hxy.2 z)
    grind
   have s2:0 < -s:=fP (a := -x) (by grind) (by grind);have:=Rat.mul_pos (show 0 < -y by grind) s2;grind
 exact⟨key x y a b h,key y x b a h.symm⟩
theorem vf {v w x:Pq}(h0:a9 (w.1-v.1,w.2-v.2) (x.1-v.1,x.2-v.2)=0) (hne:v.2≠w.2) (hb:(v.2≤x.2∧¬w.2≤x.2)∨(¬v.2≤x.2∧w.2≤x.2)):∃t:Rat,0≤t∧t≤1∧lrp v w t=x:=by
 have e:(x.2-v.2)/(w.2-v.2)*(w.2-v.2)=x.2-v.2:=Rat.div_mul_cancel (by grind);generalize(x.2-v.2)/(w.2-v.2)=t at e;unfold a9 at h0;simp only at h0;have h1:(w.2-v.2)*(x.1-v.1-t*(w.1-v.1))=0:=by grind
 have h2:=(Rat.mul_eq_zero.1 h1).resolve_left (by grind);refine⟨t,?_,?_,Prod.ext (by simp only;grind) (by simp only;grind)⟩
 ·apply Classical.byContradiction;intro k;rcases hb with⟨a,b⟩|⟨a,b⟩
  ·have:=Rat.mul_pos (show 0 < -t by grind) (show 0<w.2-v.2 by grind);grind
  ·have:=Rat.mul_pos (show 0 < -t by grind) (show 0 < -(w.2-v.2) by grind);grind
 ·apply Classical.byContradiction;intro k;rcases hb with⟨a,b⟩|⟨a,b⟩
  ·have:=Rat.mul_pos (show 0<t-1 by grind) (show 0<w.2-v.2 by grind);grind
  ·have:=Rat.mul_pos (show 0<t-1 by grind) (show 0 < -(w.2-v.2) by grind);grind
theorem xV {m:Li}{q r:Pq}(h:¬(0<a8 m q↔0<a8 m r)) (oq:a8 m q≠0) (or:a8 m r≠0):∃s:Rat,0≤s∧s≤1∧a8 m (lrp q r s)=0:=by
 have hd:a8 m q-a8 m r≠0:=fun e=>h (by constructor <;> intro k <;> grind)
 have e:a8 m q/(a8 m q-a8 m r)*(a8 m q-a8 m r)=a8 m q:=Rat.div_mul_cancel hd;generalize a8 m q/(a8 m q-a8 m r)=s at e;refine⟨s,?_,?_,by rw [nB];grind⟩
 ·apply Classical.byContradiction;intro k;by_cases c:0<a8 m q
  ·have:¬0<a8 m r:=fun z=>h ⟨fun _=>z,fun _=>c⟩
   have:=Rat.mul_pos (show 0 < -s by grind) (show 0<a8 m q-a8 m r by grind);grind
  ·have:0<a8 m r:=Classical.byContradiction fun z=>h ⟨fun k=>absurd k c,fun k=>absurd k z⟩
   have:=Rat.mul_pos (show 0 < -s by grind) (show 0 < -(a8 m q-a8 m r) by grind);grind
 ·apply Classical.byContradiction;intro k;by_cases c:0<a8 m q
  ·have:¬0<a8 m r:=fun z=>h ⟨fun _=>z,fun _=>c⟩
   have:=Rat.mul_pos (show 0<s-1 by grind) (show 0<a8 m q-a8 m r by grind);grind
  ·have:0<a8 m r:=Classical.byContradiction fun z=>h ⟨fun k=>absurd k c,fun k=>absurd k z⟩
   have:=Rat.mul_pos (show 0<s-1 by grind) (show 0 < -(a8 m q-a8 m r) by grind);grind
theorem nG {v w q:Pq}(h:v.2=w.2):trm v w q=0:=by
 unfold trm hR;rw [h];grind
theorem qH {v w q r:Pq}(hv:hR v q=hR v r) (hw:hR w q=hR w r) (hs:v.2≠w.2→wR v w q=wR v w r):trm v w q=trm v w r:=by
 by_cases e:v.2=w.2
 ·rw [nG e,nG e]
 ·unfold trm;rw [hv,hw,hs e]
theorem EN {l:List Pq}(hl:sQ l){c:List Li}(hno:pH l c){q r:Pq}(st:LB (o6 l) (Inn c) q r):gj l q=gj l r:=by
 have mE:∀i,i<l.length→cR (vtx l i) (nxt l i)∈o6 l:=fun i hi=>List.mem_append_left _ (List.mem_map.2 ⟨i,List.mem_range.2 hi,rfl⟩)
 have mH:∀i,i<l.length→lnH (vtx l i).2∈o6 l:=fun i hi=>List.mem_append_right _ (List.mem_map.2 ⟨i,List.mem_range.2 hi,rfl⟩)
 have mN:∀i,i<l.length→lnH (nxt l i).2∈o6 l:=fun i hi=>mH ((i+1)%l.length) (Nat.mod_lt _ om)
 have nE:∀i,i<l.length→(∀x,Inn c x→∀t:Rat,0≤t→t≤1→lrp (vtx l i) (nxt l i) t≠x):=fun i hi x hx t t0 t1 e=>hno i hi t t0 t1 (by rw [e];exact hx)
 have hh:∀(y:Rat) (p:Pq),lnH y∈o6 l→Off (o6 l) p→(y≤p.2↔0<a8 (lnH y) p):=fun y p hy ho=>by
  obtain⟨_,k,hk,e⟩:=qj y;have n0:=ho _ hy;rw [e]at n0⊢;rw [eE hk];have:p.2-y≠0:=fun z=>n0 (by rw [z];grind)
  constructor <;> intro g <;> grind
 have inx:∀s:Rat,0≤s→s≤1→Inn c (lrp q r s):=fun s s0 s1=>qv c r q s st.pr st.pq s0 s1
 suffices h:bF ((List.range l.length).map fun i=>trm (vtx l i) (nxt l i) r + -1*trm (vtx l i) (nxt l i) q)=0 by
  rw [cV (fun i=>trm (vtx l i) (nxt l i) r) (fun i => -1*trm (vtx l i) (nxt l i) q),bK,←nY,←nY]at h;exact Rat.intCast_inj.1 (by grind)
 obtain⟨l0,h0⟩:=st.one;by_cases hex:∃j,j<l.length∧sd (lnH (vtx l j).2) q≠sd (lnH (vtx l j).2) r
 ·obtain⟨j,hj,hjs⟩:=hex;obtain⟨_,kY,hkY,eY⟩:=qj (vtx l j).2;have eY0:=eY;generalize hY:(vtx l j).2=Y at *;have hjm:lnH Y∈o6 l:=by rw [←hY];exact mH j hj
  have one:∀m∈o6 l,sd m q≠sd m r→∀p,a8 m p=0→p.2=Y:=fun m hm hs p hp=>by
   have zY:a8 (lnH Y) p=0:=by
    rcases h0 m hm hs with e1|e1 <;> rcases h0 _ hjm hjs with e2|e2
    ·rw [e2,←e1];exact hp
    ·rw [e2,cA,←e1,hp];grind
    ·rw [e2,←EU l0,cA,←e1,hp];grind
    ·rw [e2,←e1];exact hp
   rw [eY]at zY;have:=(Rat.mul_eq_zero.1 zY).resolve_left (by grind);grind
  obtain⟨s,s0,s1,sx⟩:=xV (fun k=>hjs (by unfold sd;rw [decide_eq_decide];exact k)) (st.oq _ hjm) (st.or _ hjm);have hin:=inx s s0 s1;have xv:=fun m=>nB m q r s
  have x2:(lrp q r s).2=Y:=by
   rw [eY]at sx;have:=(Rat.mul_eq_zero.1 sx).resolve_left (by grind);grind
  generalize lrp q r s=x at *
  have hsame:∀y,lnH y∈o6 l→y≠Y→∀v:Pq,v.2=y→hR v q=hR v r:=fun y hy hne v hv=>rY (by
   rw [hv,hh y q hy st.oq,hh y r hy st.or];apply Classical.byContradiction;intro k;have hs:sd (lnH y) q≠sd (lnH y) r:=fun z=>k (yx z)
   have:=one _ hy hs (0,y) (by
    obtain⟨_,k2,_,e2⟩:=qj y;rw [e2];simp only;grind)
   exact hne this)
  have hdif:∀v:Pq,v.2=Y→hR v r + -1*hR v q=hR (0,Y) r + -1*hR (0,Y) q:=fun v hv=>by
   unfold hR;rw [hv]
  generalize hδ:hR (0,Y) r + -1*hR (0,Y) q=δ at hdif
  have wsame:∀i,i<l.length→(vtx l i).2≠Y∨(nxt l i).2≠Y→(0<wst (vtx l i) (nxt l i) q↔0<wst (vtx l i) (nxt l i) r)∧(0<wst (vtx l i) (nxt l i) q↔0<wst (vtx l i) (nxt l i) x):=fun i hi hne=>by
   have hvw:=hl i hi;have hm:=mE i hi
   have ns:sd (cR (vtx l i) (nxt l i)) q=sd (cR (vtx l i) (nxt l i)) r:=by
    apply Classical.byContradiction;intro k;obtain⟨_,k2,_,e2⟩:=iF hvw;have a1:=one _ hm k (vtx l i) (by rw [e2];unfold a9;simp only;grind);have a2:=one _ hm k (nxt l i) (by rw [e2];unfold a9;simp only;grind);rcases hne with g|g
    ·exact g a1
    ·exact g a2
   have iq:=yx ns;have oq:=st.oq _ hm;have or:=st.or _ hm;have ex:=xv (cR (vtx l i) (nxt l i));obtain⟨m1,m2⟩:=vn (x:=a8 (cR (vtx l i) (nxt l i)) q) (y:=a8 (cR (vtx l i) (nxt l i)) r) s0 s1;rw [←ex]at m1 m2
   have hx:a8 (cR (vtx l i) (nxt l i)) x≠0∧(0<a8 (cR (vtx l i) (nxt l i)) q↔0<a8 (cR (vtx l i) (nxt l i)) x):=by
    by_cases c:0<a8 (cR (vtx l i) (nxt l i)) q
    ·have:=m1 c (iq.1 c);grind
    ·have:=m2 (by grind) (by grind);grind
   exact⟨nt hvw oq or iq,nt hvw oq hx.1 hx.2⟩
  let g:Pq→Rat:=fun v=>open Classical in(if v.2=Y then 1 else 0)*(if x.1<v.1 then 1 else 0)
  have key:∀i∈List.range l.length,trm (vtx l i) (nxt l i) r + -1*trm (vtx l i) (nxt l i) q=δ*(g (vtx l i) + -1*g (nxt l i)):=fun i hi=>by
   have hi:=List.mem_range.1 hi;have hmv:=mH i hi;have hmw:=mN i hi;have ws:=wsame i hi;have ne:=nE i hi x hin;generalize vtx l i=v at *;generalize nxt l i=w at *;by_cases hv:v.2=Y
   ·by_cases hw:w.2=Y
    ·rw [nG (by rw [hv,hw]),nG (by rw [hv,hw])]
     have same:x.1<v.1↔x.1<w.1:=by
      have sq:∀a b:Rat,x.1<a→¬x.1<b→∃t:Rat,0≤t∧t≤1∧a+t*(b-a)=x.1:=fun a b h1 h2=>by
       have e:(x.1-a)/(b-a)*(b-a)=x.1-a:=Rat.div_mul_cancel (by grind);generalize(x.1-a)/(b-a)=t at e;refine⟨t,?_,?_,by grind⟩
       ·apply Classical.byContradiction;intro k;have:=Rat.mul_pos (show 0 < -t by grind) (show 0<a-b by grind);grind
       ·apply Classical.byContradiction;intro k;have:=Rat.mul_pos (show 0<t-1 by grind) (show 0<a-b by grind);grind
      constructor
      ·intro h1;apply Classical.byContradiction;intro h2;obtain⟨t,t0,t1,e⟩:=sq v.1 w.1 h1 h2;exact ne t t0 t1 (Prod.ext e (by simp only;rw [hv,hw,x2];grind))
      ·intro h1;apply Classical.byContradiction;intro h2;obtain⟨t,t0,t1,e⟩:=sq w.1 v.1 h1 h2;exact ne (1-t) (by grind) (by grind) (Prod.ext (by simp only;grind) (by simp only;rw [hv,hw,x2];grind))
     show _=δ*(_*_ + -1*(_*_))
     rw [if_pos hv,if_pos hw];by_cases k:x.1<v.1
     ·rw [if_pos k,if_pos (same.1 k)];grind
     ·rw [if_neg k,if_neg fun z=>k (same.2 z)];grind
    ·obtain⟨w1,w2⟩:=ws (.inr hw);have hwq:=hsame _ hmw hw w rfl;have hd:=hdif v hv
     have wx:wR v w q=if x.1<v.1 then 1 else 0:=by
      have sq:=lj (a:=w.2-v.2) (b:=0) (.inl (by grind))
      have e:wst v w x=((w.2-v.2)*(w.2-v.2)+0*0)*(v.1-x.1):=by
       unfold wst a9;simp only;rw [x2,←hv];grind
      have:0<wst v w q↔x.1<v.1:=by
       rw [w2,e,eE sq];constructor <;> intro k <;> grind
      unfold wR;by_cases k:x.1<v.1
      ·rw [if_pos (this.2 k),if_pos k]
      ·rw [if_neg fun z=>k (this.1 z),if_neg k]
     have hwr:=wd w1;show trm v w r + -1*trm v w q=δ*(_*_ + -1*(_*_))
     rw [if_pos hv,if_neg hw];unfold trm;rw [←hwr,←hwq,wx,←hd];grind
   ·have hvq:=hsame _ hmv hv v rfl;by_cases hw:w.2=Y
    ·obtain⟨w1,w2⟩:=ws (.inl hv);have hd:=hdif w hw
     have wx:wR v w q=if x.1<w.1 then 1 else 0:=by
      have sq:=lj (a:=w.2-v.2) (b:=0) (.inl (by grind))
      have e:wst v w x=((w.2-v.2)*(w.2-v.2)+0*0)*(w.1-x.1):=by
       unfold wst a9;simp only;rw [x2,←hw];grind
      have:0<wst v w q↔x.1<w.1:=by
       rw [w2,e,eE sq];constructor <;> intro k <;> grind
      unfold wR;by_cases k:x.1<w.1
      ·rw [if_pos (this.2 k),if_pos k]
      ·rw [if_neg fun z=>k (this.1 z),if_neg k]
     have hwr:=wd w1;show trm v w r + -1*trm v w q=δ*(_*_ + -1*(_*_))
     rw [if_neg hv,if_pos hw];unfold trm;rw [←hwr,←hvq,wx,←hd];grind
    ·have hwq:=hsame _ hmw hw w rfl;rw [qH hvq hwq fun _=>wd (ws (.inl hv)).1];show _=δ*(_*_ + -1*(_*_))
     rw [if_neg hv,if_neg hw];grind
  rw [mF key,bK,uj l g];grind
 ·have hsame:∀v:Pq,lnH v.2∈o6 l→(sd (lnH v.2) q=sd (lnH v.2) r)→(v.2≤q.2↔v.2≤r.2):=fun v hm hs=>by
   rw [hh _ q hm st.oq,hh _ r hm st.or];exact yx hs
  have hns:∀j,j<l.length→sd (lnH (vtx l j).2) q=sd (lnH (vtx l j).2) r:=fun j hj=>Classical.byContradiction fun k=>hex ⟨j,hj,k⟩
  refine jv _ _ fun i hi=>?_
  have hi:=List.mem_range.1 hi;have hv:=hsame (vtx l i) (mH i hi) (hns i hi);have hw:=hsame (nxt l i) (mN i hi) (hns ((i+1)%l.length) (Nat.mod_lt _ om));have hvw:=hl i hi;have hm:=mE i hi;have oq:=st.oq _ hm;have or:=st.or _ hm;have ne:=nE i hi;generalize vtx l i=v at *;generalize nxt l i=w at *;suffices h:trm v w q=trm v w r by rw [h];grind
  by_cases hb:(v.2≤q.2∧¬w.2≤q.2)∨(¬v.2≤q.2∧w.2≤q.2)
  ·refine qH (rY hv) (rY hw) fun hne=>wd (nt hvw oq or ?_)
   apply Classical.byContradiction;intro k;obtain⟨s,s0,s1,sx⟩:=xV k oq or;obtain⟨_,k2,hk2,e2⟩:=iF hvw;rw [e2]at sx;have c0:=(Rat.mul_eq_zero.1 sx).resolve_left (by grind);have hx2:(lrp q r s).2=q.2+s*(r.2-q.2):=rfl;have m1:=Rat.mul_nonneg s0 (show 0≤s by exact s0)
   have bt:∀y:Rat,(y≤q.2↔y≤r.2)→(y≤(lrp q r s).2↔y≤q.2):=fun y hy=>by
    rw [hx2];by_cases c:y≤q.2
    ·have c2:=hy.1 c;have a1:=Rat.mul_nonneg s0 (show 0≤r.2-y by grind);have a2:=Rat.mul_nonneg (show 0≤1-s by grind) (show 0≤q.2-y by grind);exact⟨fun _=>c,fun _=>by grind⟩
    ·have c2:¬y≤r.2:=fun z=>c (hy.2 z)
     obtain⟨m1,_⟩:=vn (x:=y-q.2) (y:=y-r.2) s0 s1;have:=m1 (by grind) (by grind);exact⟨fun z=>by grind,fun z=>absurd z c⟩
   obtain⟨t,t0,t1,et⟩:=vf c0 hne (by rw [bt _ hv,bt _ hw];exact hb);exact ne _ (inx s s0 s1) t t0 t1 et
  ·have:hR v q + -1*hR w q=0:=by
    unfold hR;by_cases a:v.2≤q.2
    ·by_cases b:w.2≤q.2
     ·rw [if_pos a,if_pos b];grind
     ·exact absurd (.inl ⟨a,b⟩) hb
    ·by_cases b:w.2≤q.2
     ·exact absurd (.inr ⟨a,b⟩) hb
     ·rw [if_neg a,if_neg b];grind
   unfold trm;rw [←rY hv,←rY hw,this];grind
theorem I0 {l:List Pq}(hl:sQ l){c:List Li}(hno:pH l c){q r:Pq}(w:Way (o6 l) (Inn c) q r):gj l q=gj l r:=by
 induction w with
 |refl=>rfl
 |step s _ ih=>exact(EN hl hno s).trans ih
theorem Lf (e:Rat) (q:Pq):bO q e (0,1)=(q.1,q.2+e):=by unfold bO;ext <;> simp only <;> grind
theorem xh {l:List Pq}(hl:sQ l){c:List Li}(hno:pH l c){q:Pq}(hq:Inn c q):∃r,Inn c r∧Off (o6 l) r∧gj l r=gj l q:=by
 have hok:=AV hl
 let A:List Af:=c.map Li.af++(((List.range l.length).filter fun i=>decide (q.2<(vtx l i).2)).map (fun i=>((0:Rat),(-1:Rat),(vtx l i).2))
  ++ ((List.range l.length).filter fun i=>decide (a8 (cR (vtx l i) (nxt l i)) q≠0)).map fun i=>if 0<a8 (cR (vtx l i) (nxt l i)) q then(cR (vtx l i) (nxt l i)).af else(cR (vtx l i) (nxt l i)).neg.af)
 have hA:aIn A q:=fun f hf=>by
  rcases List.mem_append.1 hf with hf|hf
  ·obtain⟨m,hm,rfl⟩:=List.mem_map.1 hf;exact hq m hm
  ·rcases List.mem_append.1 hf with hf|hf
   ·obtain⟨i,hi,rfl⟩:=List.mem_map.1 hf;have:=of_decide_eq_true (List.mem_filter.1 hi).2;unfold aEv;simp only;grind
   ·obtain⟨i,hi,rfl⟩:=List.mem_map.1 hf;have h0:=of_decide_eq_true (List.mem_filter.1 hi).2;split
    ·rw [pV];assumption
    ·rw [pV,cA];grind
 obtain⟨e,e0,he⟩:=Jv hA (0,1);have h1:=he e e0 Rat.le_refl;rw [Lf]at h1
 obtain⟨r,r1,r2⟩:=KJ ((o6 l).map Li.af) (((0:Rat),(1:Rat),-q.2)::A) (q:=(q.1,q.2+e)) (fun g hg=>by
  obtain⟨m,hm,rfl⟩:=List.mem_map.1 hg;rcases(hok m hm).2 with k|k
  ·exact .inl fun z=>k (Rat.intCast_eq_zero_iff.1 z)
  ·exact .inr fun z=>k (Rat.intCast_eq_zero_iff.1 z)) fun f hf=>by
  rcases List.mem_cons.1 hf with rfl|hf
  ·unfold aEv;simp only;grind
  ·exact h1 f hf
 have hup:q.2<r.2:=by
  have:=r1 _ Ms;unfold aEv at this;simp only at this;grind
 have hin:Inn c r:=fun m hm=>r1 m.af (Mc (List.mem_append_left _ (List.mem_map.2 ⟨m,hm,rfl⟩)))
 refine⟨r,hin,fun m hm=>r2 _ (List.mem_map.2 ⟨m,hm,rfl⟩),?_⟩
 have hv:∀i,i<l.length→((vtx l i).2≤q.2↔(vtx l i).2≤r.2):=fun i hi=>by
  by_cases c:q.2<(vtx l i).2
  ·have:=r1 ((0:Rat),(-1:Rat),(vtx l i).2) (Mc (List.mem_append_right _ (List.mem_append_left _ (List.mem_map.2 ⟨i,List.mem_filter.2 ⟨List.mem_range.2 hi,decide_eq_true c⟩,rfl⟩))));unfold aEv at this;simp only at this;constructor <;> intro k <;> grind
  ·constructor <;> intro k <;> grind
 have hw:∀i,i<l.length→((nxt l i).2≤q.2↔(nxt l i).2≤r.2):=fun i hi=>hv ((i+1)%l.length) (Nat.mod_lt _ om)
 have hs:∀i,i<l.length→a8 (cR (vtx l i) (nxt l i)) q≠0→a8 (cR (vtx l i) (nxt l i)) r≠0∧(0<a8 (cR (vtx l i) (nxt l i)) q↔0<a8 (cR (vtx l i) (nxt l i)) r):=fun i hi h0=>by
  have:=r1 _ (Mc (List.mem_append_right _ (List.mem_append_right _ (List.mem_map.2 ⟨i,List.mem_filter.2 ⟨List.mem_range.2 hi,decide_eq_true h0⟩,rfl⟩))));split at this
  ·rw [pV]at this;grind
  ·rw [pV,cA]at this;grind
 suffices h:((gj l r:Int):Rat)=((gj l q:Int):Rat)from Rat.intCast_inj.1 h
 rw [nY,nY];refine mF fun i hi=>?_
 have hi:=List.mem_range.1 hi;have a:=rY (hv i hi);have b:=rY (hw i hi);by_cases h0:a8 (cR (vtx l i) (nxt l i)) q=0
 ·obtain⟨_,k2,hk2,e2⟩:=iF (hl i hi);rw [e2]at h0;have c0:=(Rat.mul_eq_zero.1 h0).resolve_left (by grind)
  have:hR (vtx l i) q + -1*hR (nxt l i) q=0:=by
   unfold hR;by_cases x:(vtx l i).2≤q.2
   ·by_cases y:(nxt l i).2≤q.2
    ·rw [if_pos x,if_pos y];grind
    ·obtain⟨t,t0,t1,et⟩:=vf c0 (fun z=>y (by rw [←z];exact x)) (.inl ⟨x,y⟩);exact absurd (by rw [et];exact hq) (hno i hi t t0 t1)
   ·by_cases y:(nxt l i).2≤q.2
    ·obtain⟨t,t0,t1,et⟩:=vf c0 (fun z=>x (by rw [z];exact y)) (.inr ⟨x,y⟩);exact absurd (by rw [et];exact hq) (hno i hi t t0 t1)
    ·rw [if_neg x,if_neg y];grind
  unfold trm;rw [←a,←b,this];grind
 ·obtain⟨o,s⟩:=hs i hi h0;exact(qH a b fun _=>wd (nt (hl i hi) h0 o s)).symm
theorem Cq {l:List Pq}(hl:sQ l){c:List Li}(hno:pH l c){q r:Pq}(hq:Inn c q) (hr:Inn c r):gj l q=gj l r:=by
 obtain⟨a,a1,a2,a3⟩:=xh hl hno hq;obtain⟨b,b1,b2,b3⟩:=xh hl hno hr;rw [←a3,←b3];exact I0 hl hno (G6 (AV hl) a2 b2 a1 b1 fun s _ hs=>hs)
theorem EO {l:List Pq}(hl:sQ l){c:List Li}(hno:pH l c){d:Pq}(hd:nz d) (ho:ye c d){q:Pq}(hq:Inn c q):gj l q=0:=by
 obtain⟨N,hN⟩:=IF l q d hd;rw [Cq hl hno hq (xg hq ho (t:=(N:Rat)) (by exact_mod_cast Nat.zero_le _))];exact hN N (Nat.le_refl _)
end Go.Ab
