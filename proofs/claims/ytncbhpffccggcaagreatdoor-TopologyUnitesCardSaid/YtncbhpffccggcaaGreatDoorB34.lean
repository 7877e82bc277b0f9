/- Texts laid one behind the other: GwI, GwJ. -/
import Derived.Test.YtncbhpffccggcaaGreatDoorB33
set_option linter.all false
set_option maxHeartbeats 16000000
namespace Go.Ab
open Go.Proofs
variable [Base]
theorem ze {α:Type}{f:α→Bool}{l:List α}{k:Nat}{t:α}(h:l[k]? = some t):((((l.take (k+1)).map f)).map fun b=>[(lit (.bool b):SV)]).flatten=(((l.take k).map f).map fun b=>[lit (.bool b)]).flatten++[lit (.bool (f t))]:=by
 rw [dQ h,List.map_append,List.map_append,List.flatten_append];rfl
theorem pa (op : Int) (hop : op = 1 ∨ op = 2) (a b : List Spn) (hla : a.length ≤ 10000) (hlb : b.length ≤ 10000) (ha : ∀ s ∈ a, s.le 10000) (hb : ∀ s ∈ b, s.le 10000) :
    Pu Tryz.prog 120 [lit (.int .i64 op),sps a,sps b] (sps (kF op a b)):=by
  have hl:(a++b).length≤20000:=by rw [List.length_append];omega
  have hab:∀s∈a++b,s.le 10000:=fun s hs=>(List.mem_append.1 hs).elim (ha s) (hb s)
  have c1:=DK (a++b) om (fun s hs=>⟨by have:=(hab s hs).1;omega,by have:=(hab s hs).2;omega⟩);have hel:=xK (a++b);have heh:=AY hab;have hpl:=jW (cK (a++b));have hph:=BK heh;have c2:=yB (cK (a++b)) om (fun y hy=>by have:=heh y hy;omega);have c3:=DJ (cK (a++b)) ((dS (cK (a++b))).map fun t=>opB op (inL a t) (inL b t)) om (by rw [List.length_map];exact hpl);have hfa:((a.map spx).flatten).length=a.length*8:=cG iJ a;have hfb:((b.map spx).flatten).length=b.length*8:=cG iJ b;have hfab:(a.map spx).flatten++(b.map spx).flatten=((a++b).map spx).flatten:=by rw [List.map_append,List.flatten_append]
  have e1:∀s H',Own sT 8 (a.length+b.length) ((a.map spx).flatten++(b.map spx).flatten) s H'→Own sT 8 (a++b).length ((a++b).map spx).flatten s H':=fun s H' h=>by rw [List.length_append,←hfab];exact h
  clear hfab hab;unfold kF;generalize cK (a++b)=cuts at *;generalize hM:(dS cuts).map (fun t=>opB op (inL a t) (inL b t))=M at *;generalize hP:dS cuts=ps at *;have hMl:M.length=ps.length:=by rw [←hM,List.length_map]
  have di:∀t∈ps,Pu Tryz.prog 165 [sps a,rq t] (lit (.bool (inL a t)))∧Pu Tryz.prog 165 [sps b,rq t] (lit (.bool (inL b t))):=fun t ht=>⟨DG a t om (fun s hs=>⟨by have:=(ha s hs).1;omega,by have:=(ha s hs).2;omega⟩) (by have:=hph t ht;omega),DG b t om (fun s hs=>⟨by have:=(hb s hs).1;omega,by have:=(hb s hs).2;omega⟩) (by have:=hph t ht;omega)⟩
  clear heh hph ha hb;refine Pi Tryz.func120 fun C=>?_
  repeat(refine A1 ⟨?_⟩;intros)
  rename_i b14;refine FX (k0:=a.length) (n0:=0) (cs:=[]) (ds:=(a.map spx).flatten) (Hs:=[(b14,sT,[])]) ⟨rfl, .inr ⟨b14,0,Nat.le_refl _,by decide,rfl,rfl⟩⟩ (Tk.cons (.here _) (Tk.nil _)) om hfa (fun s1 H1 hown1=>?_);rw [Nat.zero_add,List.nil_append]at hown1;have hco1:=hown1.co;repeat(refine A1 ⟨?_⟩;intros)
  refine FX (k0:=b.length) hown1 (Tk.same _) om hfb (fun s2 H2 hown2=>?_);replace hown2:=e1 _ _ hown2;have hco2:=hown2.co;refine WPL.rowS 18 hown2 rfl (R:=[]) (by simp) ?_;clear hown1 hown2 e1 hfa hfb;repeat(first|(refine A1 ⟨?_⟩;intros)|refine W4 c1 ⟨?_⟩|refine W4 c2 ⟨?_⟩)
  refine WP.loopS (ι:=vV) (fun y=>y.k≤ps.length∧Own bT 1 y.k (((ps.take y.k).map fun t=>opB op (inL a t) (inL b t)).map fun b=>[lit (.bool b)]).flatten y.s y.Hs) (fun y=>ps.length-y.k)
    (fun y=>fm [(0,lit (.int .i64 op)),(1,sps a),(2,sps b),(7,rqs cuts),(8,y.s),(21,rqs ps),(22,lit (.int .i64 ps.length)),(23,lit (.int .i64 y.k))]) (fun y=>y.Hs) ⟨0,lit (.slice none 0 0),[]⟩
    ⟨Nat.zero_le _,Own.nil _ _⟩ lfA (List.nil_sublist _) ?_
  rintro ⟨k,s,Hs⟩ ⟨hk,hown⟩ K hK;simp only at hk hown⊢;have hco:=hown.co;by_cases hkl:k<ps.length
  · obtain⟨t,hget,hmm,hat,hne⟩:=elt gW om hkl
    obtain⟨d1,d2⟩:=di t hmm;have hgo:=fun s' Hs' (h:Own bT 1 (k+1) ((((ps.take k).map fun t=>opB op (inL a t) (inL b t)).map fun b=>[lit (.bool b)]).flatten++[lit (.bool (opB op (inL a t) (inL b t)))]) s' Hs') F' H'=>hK F' H' ⟨k+1,s',Hs'⟩ ⟨by simp only;omega,by simp only;rw [ze hget];exact h⟩ (by simp only;omega)
    clear hK di c1 c2 c3 hget hmm hM hP;generalize inL a t=x at *;generalize inL b t=y at *;generalize(((ps.take k).map fun t=>opB op (inL a t) (inL b t)).map fun b=>[(lit (.bool b):SV)]).flatten=cs at *;rcases hop with rfl|rfl <;> cases x <;> cases y
    all_goals
      simp only [opB,Int.reduceEq,if_true,if_false,Bool.or_true,Bool.or_false,Bool.and_true,Bool.and_false,Bool.or_self,Bool.and_self,Bool.false_eq_true]at hgo;repeat(refine A1 ⟨?_⟩;intros)
      refine Wo (a7 (cs':=rqx t) rfl rfl om om hat hne) ?_;repeat(first|(refine Wo (iy (s:=lit (.bool true)) (ds:=[lit (.bool true)]) rfl inferInstance) ?_)|(refine Wdo (iy (s:=lit (.bool true)) (ds:=[lit (.bool true)]) rfl inferInstance) ?_)|(refine Wo (iy (s:=lit (.bool false)) (ds:=[lit (.bool false)]) rfl inferInstance) ?_)|(refine Wdo (iy (s:=lit (.bool false)) (ds:=[lit (.bool false)]) rfl inferInstance) ?_)|(refine A1 ⟨?_⟩;intros)|refine W4 d1 ⟨?_⟩|refine W4 d2 ⟨?_⟩)
    all_goals first
      | (refine jL (ds := [lit (.bool true)]) hown (Tk.skip _ (Tk.same _)) om (fun s' H1 hown' => ?_)
         have hco':=hown'.co;replace hgo:=hgo s' H1 hown';clear hown hown';repeat(refine A1 ⟨?_⟩;intros)
         exact hgo _ _ lfA (Sc Sr))
      | (refine jL (ds := [lit (.bool false)]) hown (Tk.skip _ (Tk.same _)) om (fun s' H1 hown' => ?_)
         have hco':=hown'.co;replace hgo:=hgo s' H1 hown';clear hown hown';repeat(refine A1 ⟨?_⟩;intros)
         exact hgo _ _ lfA (Sc Sr))
  · have hke:k=ps.length:=by omega
    subst hke;rw [List.take_length,hM]at hown;have hl2:ps.length=M.length:=hMl.symm;rw [hl2]at hown;refine WP.rowS 8 hown rfl (by rw [List.append_nil]) ?_;clear hK hown di;exact Y1 c3
theorem t8 {l m:Li}(hl:l.sm) (hm:m.sm) (side:Int) (hs:side=1∨side = -1):Pu Tryz.prog 119 [lq l,lq m,lit (.int .i64 side)] (Ab.tup [sps (eT l m side).1,lit (.bool (eT l m side).2)]):=by
 have d1:=wv hl hm;have hmt:=kU hl hm;have hpt:=jX hl hmt;have h1:=gb;unfold eT;by_cases h0:dt l m=0
 ·rw [if_pos h0];unfold rE at d1;rw [if_pos h0]at d1;obtain⟨q1,q2⟩:=nY hl;have d3:=r8 hl.1 hl.2;have d4:=mU (l:=m) (p:=ay l) hm ⟨om,om⟩;simp only [Option.getD_none,Option.isSome_none]at d1;have e4:ag (rpx (ay l))=rp (l.bf*l.a) (l.bf*l.b):=rfl;rw [e4]at d4;clear hmt hpt q1 q2 e4 h0;generalize cX m (ay l)=z at *;by_cases hz:z=side
  ·rw [if_pos hz];subst hz;by_cases z0:z=0
   ·omega
   ·rw [decide_eq_false z0];refine Pi Tryz.func119 fun C=>?_
    repeat(first|(refine Wo (aD (spx Spn.full) rfl) ?_)|(refine Wdo (aD (spx Spn.full) rfl) ?_)|(refine A1 ⟨?_⟩;intros)|refine W4 d1 ⟨?_⟩|refine W4 d3 ⟨?_⟩|refine W4 d4 ⟨?_⟩|refine W4 wC ⟨?_⟩)
    exact G2
  ·rw [if_neg hz];by_cases z0:z=0
   ·rw [decide_eq_true z0];refine Pi Tryz.func119 fun C=>?_
    repeat(first|(refine A1 ⟨?_⟩;intros)|refine W4 d1 ⟨?_⟩|refine W4 d3 ⟨?_⟩|refine W4 d4 ⟨?_⟩)
    ((first|refine aS ?_|refine eI ?_);exact fw (RV.tmp rfl) (RV.tmp rfl) (Le.tup2 dM Lr))
   ·rw [decide_eq_false z0];refine Pi Tryz.func119 fun C=>?_
    repeat(first|(refine A1 ⟨?_⟩;intros)|refine W4 d1 ⟨?_⟩|refine W4 d3 ⟨?_⟩|refine W4 d4 ⟨?_⟩)
    ((first|refine aS ?_|refine eI ?_);exact fw (RV.tmp rfl) (RV.tmp rfl) (Le.tup2 dM Lr))
 ·rw [if_neg h0];unfold rE at d1;rw [if_neg h0]at d1;simp only [Option.getD_some,Option.isSome_some]at d1;have d3:=ly (l:=l) (p:=bh l m) hl ⟨by have:=hmt.1;omega,by have:=hmt.2;omega⟩;have ha:=cU (bZ l (bh l m)) 1;have d4:=eE (bZ l (bh l m)) 1 om om;have d5:=DM (l:=l) (t:=bZ l (bh l m)+1) hl om;have hat:=FR (t:=bZ l (bh l m)+1) (n:=100) hl om;have d6:=mU (l:=m) (p:=atL l (bZ l (bh l m)+1)) hm ⟨by have:=hat.1;omega,by have:=hat.2;omega⟩;clear hmt hpt ha hat h0;generalize cX m (atL l (bZ l (bh l m)+1))=z at *;generalize atL l (bZ l (bh l m)+1)=q at *;generalize bZ l (bh l m)+1=t1 at *;generalize bZ l (bh l m)=t at *;generalize bh l m=mp at *;by_cases hz:z=side
  ·rw [if_pos hz];refine Pi Tryz.func119 fun C=>?_
   repeat(first|(refine Wo (aD (rqx t++[lit (.bool false),lit (.slice none 0 0),lit (.slice none 0 0),lit (.bool false),lit (.bool true)]) rfl) ?_)|(refine Wdo (aD (rqx t++[lit (.bool false),lit (.slice none 0 0),lit (.slice none 0 0),lit (.bool false),lit (.bool true)]) rfl) ?_)|(refine A1 ⟨?_⟩;intros)|refine W4 d1 ⟨?_⟩|refine W4 d3 ⟨?_⟩|refine W4 d4 ⟨?_⟩|refine W4 d5 ⟨?_⟩|refine W4 d6 ⟨?_⟩|refine W4 n6 ⟨?_⟩)
   ((first|refine aS ?_|refine eI ?_);exact fw (RV.tmp rfl) (RV.tmp rfl) (Le.tup2 (zh (b:=spx ⟨t,0,false,true⟩) ⟨Le.refl _,Le.refl _,Le.refl _,Le.refl _,pG,pH,Le.refl _,Le.refl _,trivial⟩) Lr))
  ·rw [if_neg hz];refine Pi Tryz.func119 fun C=>?_
   repeat(first|(refine Wo (aD ([lit (.bool false),lit (.slice none 0 0),lit (.slice none 0 0)]++rqx t++[lit (.bool true),lit (.bool false)]) rfl) ?_)|(refine Wdo (aD ([lit (.bool false),lit (.slice none 0 0),lit (.slice none 0 0)]++rqx t++[lit (.bool true),lit (.bool false)]) rfl) ?_)|(refine A1 ⟨?_⟩;intros)|refine W4 d1 ⟨?_⟩|refine W4 d3 ⟨?_⟩|refine W4 d4 ⟨?_⟩|refine W4 d5 ⟨?_⟩|refine W4 d6 ⟨?_⟩|refine W4 n6 ⟨?_⟩)
   ((first|refine aS ?_|refine eI ?_);exact fw (RV.tmp rfl) (RV.tmp rfl) (Le.tup2 (zh (b:=spx ⟨0,t,true,false⟩) ⟨Le.refl _,pG,pH,Le.refl _,Le.refl _,Le.refl _,Le.refl _,Le.refl _,trivial⟩) Lr))
abbrev fqx (f:Fg):List SV:=lqx f.1++spx f.2
theorem kh (f:Fg):(fqx f).length=14:=rfl
abbrev fqs (l:List Fg):SV:=sl (l.map fqx).flatten l.length
theorem rH {α:Type}{l:List α}(h:l.length≤1):l=[]∨∃x,l=[x]:=by
 match l,h with
 | [],_=>exact .inl rfl
 | [x],_=>exact .inr ⟨x,rfl⟩
theorem iQ:Le (lit (.slice none 0 0)) (xsl [] 0):=fun m v h=>by
 rw [ae]at h;subst h;unfold xsl;exact⟨none,rfl,by simp only [maxLen];omega,fun _=>rfl, .inl rfl⟩
theorem AH:Le (lit (.slice none 0 0)) (fqs []):=dM
theorem BB {L:List Li}{f:Fg}{m:Li}(hf:FgG L f) (hl:f.1.sm) (hm:m.sm) (hv:f.2.le 46):Pu Tryz.prog 80 [ag (fqx f),lq m] (Ab.tup [fqs (bX f m).1,fqs (bX f m).2]):=by
 have d1:=t8 hl hm 1 (.inl rfl);have d2:=t8 hl hm (-1) (.inr rfl);have hsl:=ol (m:=m) hf;have hd:(eT f.1 m (-1)).2=(eT f.1 m 1).2:=by unfold eT;split <;> (try rfl);split <;> split <;> rfl
 have hh:∀side,(eT f.1 m side).1.length≤1∧∀s∈(eT f.1 m side).1,s.le 10000:=fun side=>by
  have h0:=gt;have hmt:=kU hl hm;have hpt:=jX hl hmt;unfold eT;split
  ·split
   ·exact⟨Nat.le_refl _,fun s hs=>by rw [List.mem_singleton.1 hs];exact⟨by show ht 0≤_;omega,by show ht 0≤_;omega⟩⟩
   ·exact⟨by simp,fun s hs=>by cases hs⟩
  ·split
   ·exact⟨Nat.le_refl _,fun s hs=>by rw [List.mem_singleton.1 hs];exact⟨by simp only;omega,by show ht 0≤_;omega⟩⟩
   ·exact⟨Nat.le_refl _,fun s hs=>by rw [List.mem_singleton.1 hs];exact⟨by show ht 0≤_;omega,by simp only;omega⟩⟩
 have e1:=pa 2 (.inr rfl) [f.2] (eT f.1 m 1).1 (by simp) (by have:=(hh 1).1;omega) (fun s hs=>by rw [List.mem_singleton.1 hs];exact⟨by have:=hv.1;omega,by have:=hv.2;omega⟩) (hh 1).2;have e2:=pa 2 (.inr rfl) [f.2] (eT f.1 m (-1)).1 (by simp) (by have:=(hh (-1)).1;omega) (fun s hs=>by rw [List.mem_singleton.1 hs];exact⟨by have:=hv.1;omega,by have:=hv.2;omega⟩) (hh (-1)).2;rw [hd]at d2;unfold bX at hsl⊢;clear hh hd;generalize(eT f.1 m 1).2=on at *;generalize kF 2 [f.2] (eT f.1 m 1).1=A at *;generalize kF 2 [f.2] (eT f.1 m (-1)).1=B at *;generalize(eT f.1 m 1).1=hA at *;generalize(eT f.1 m (-1)).1=hB at *;obtain⟨l,s⟩:=f;simp only at *;cases on with
 |true =>
  rw [if_pos rfl];clear hsl e1 e2 hf hv d2;refine Pi Tryz.func80 fun C=>?_
  repeat(first|(refine Wo (aG (sv:=ag _) rfl) ?_)|(refine Wdo (aG (sv:=ag _) rfl) ?_)|(refine Wo (bA (r:=[(0,[lit (.int .i64 1)]),(1,[lit (.int .i64 (-1))])]) (cs:=[lit (.int .i64 1),lit (.int .i64 (-1))]) (.cons (sv:=lit (.int .i64 1)) rfl inferInstance (.cons (sv:=lit (.int .i64 (-1))) rfl inferInstance .nil))) ?_)|(refine Wdo (bA (r:=[(0,[lit (.int .i64 1)]),(1,[lit (.int .i64 (-1))])]) (cs:=[lit (.int .i64 1),lit (.int .i64 (-1))]) (.cons (sv:=lit (.int .i64 1)) rfl inferInstance (.cons (sv:=lit (.int .i64 (-1))) rfl inferInstance .nil))) ?_)|(refine A1 ⟨?_⟩;intros))
  refine WP.unroll 1 (WPR.succ ?_);repeat(refine A1 ⟨?_⟩;intros)
  refine Wo (a7 (cs':=[lit (.int .i64 1)]) rfl rfl (by decide) (by decide) rfl (fun h=>by cases h)) ?_;repeat(first|(refine A1 ⟨?_⟩;intros)|refine W4 d1 ⟨?_⟩)
  ((first|refine aS ?_|refine eI ?_);exact fw (RV.tmp rfl) (RV.tmp rfl) (Le.tup2 AH AH))
 |false =>
  rw [if_neg (by decide)]at hsl⊢;simp only at hsl;rw [List.length_map,List.length_map]at hsl;obtain⟨h1,h2⟩:=hsl;refine Pi Tryz.func80 fun C=>?_
  repeat(first|(refine Wo (aG (sv:=ag _) rfl) ?_)|(refine Wdo (aG (sv:=ag _) rfl) ?_)|(refine Wo (bA (r:=[(0,[lit (.int .i64 1)]),(1,[lit (.int .i64 (-1))])]) (cs:=[lit (.int .i64 1),lit (.int .i64 (-1))]) (.cons (sv:=lit (.int .i64 1)) rfl inferInstance (.cons (sv:=lit (.int .i64 (-1))) rfl inferInstance .nil))) ?_)|(refine Wdo (bA (r:=[(0,[lit (.int .i64 1)]),(1,[lit (.int .i64 (-1))])]) (cs:=[lit (.int .i64 1),lit (.int .i64 (-1))]) (.cons (sv:=lit (.int .i64 1)) rfl inferInstance (.cons (sv:=lit (.int .i64 (-1))) rfl inferInstance .nil))) ?_)|(refine A1 ⟨?_⟩;intros))
  replace e1:Pu Tryz.prog 120 [lit (.int .i64 2),sl (spx s) 1,sps hA] (sps A):=e1;replace e2:Pu Tryz.prog 120 [lit (.int .i64 2),sl (spx s) 1,sps hB] (sps B):=e2;have l0:([]:List Spn).length=0:=rfl;have l1:∀w:Spn,[w].length=1:=fun _=>rfl
  clear hf hv hl hm;obtain rfl|⟨w,rfl⟩:=rH h1
  ·obtain rfl|⟨u,rfl⟩:=rH h2
   ·refine WP.unroll 3 (WPR.succ ?_);repeat(refine A1 ⟨?_⟩;intros)
    refine WPL.lowB (cs':=[xsl [] 0,xsl [] 0]) (.here _) ⟨iQ,iQ,trivial⟩ ?_;refine Wo (a7 (cs':=[lit (.int .i64 1)]) rfl rfl (by decide) (by decide) rfl (fun h=>by cases h)) ?_;repeat(first|(refine Wo (aD (spx s) rfl) ?_)|(refine Wdo (aD (spx s) rfl) ?_)|(refine A1 ⟨?_⟩;intros)|refine W4 d1 ⟨?_⟩|refine W4 e1 ⟨?_⟩)
    refine WP.unroll 1 (WPR.succ ?_);repeat(refine A1 ⟨?_⟩;intros)
    refine Wo (a7 (cs':=[lit (.int .i64 (-1))]) rfl rfl (by decide) (by decide) rfl (fun h=>by cases h)) ?_;repeat(first|(refine Wo (aD (spx s) rfl) ?_)|(refine Wdo (aD (spx s) rfl) ?_)|(refine A1 ⟨?_⟩;intros)|refine W4 d2 ⟨?_⟩|refine W4 e2 ⟨?_⟩)
    refine WP.unroll 1 (WPR.succ ?_);repeat(refine A1 ⟨?_⟩;intros)
    refine Wdo (dJ (e:=108) (len:=2) kr rfl rfl om om) ?_;repeat(refine A1 ⟨?_⟩;intros)
    refine Wdo (dJ (e:=108) (len:=2) kr rfl rfl om om) ?_;repeat(refine A1 ⟨?_⟩;intros)
    exact aS (fw (RV.tmp rfl) (RV.tmp rfl) (Le.tup2 mh mh))
   ·refine WP.unroll 3 (WPR.succ ?_);have lw:=l1 u;repeat(refine A1 ⟨?_⟩;intros)
    refine WPL.lowB (cs':=[xsl [] 0,xsl [] 0]) (.here _) ⟨iQ,iQ,trivial⟩ ?_;refine Wo (a7 (cs':=[lit (.int .i64 1)]) rfl rfl (by decide) (by decide) rfl (fun h=>by cases h)) ?_;repeat(first|(refine Wo (aD (spx s) rfl) ?_)|(refine Wdo (aD (spx s) rfl) ?_)|(refine A1 ⟨?_⟩;intros)|refine W4 d1 ⟨?_⟩|refine W4 e1 ⟨?_⟩)
    refine WP.unroll 1 (WPR.succ ?_);repeat(refine A1 ⟨?_⟩;intros)
    refine Wo (a7 (cs':=[lit (.int .i64 (-1))]) rfl rfl (by decide) (by decide) rfl (fun h=>by cases h)) ?_;repeat(first|(refine Wo (aD (spx s) rfl) ?_)|(refine Wdo (aD (spx s) rfl) ?_)|(refine A1 ⟨?_⟩;intros)|refine W4 d2 ⟨?_⟩|refine W4 e2 ⟨?_⟩)
    refine WP.unroll 2 (WPR.succ ?_);repeat(refine A1 ⟨?_⟩;intros)
    refine Wo (a7 (cs':=spx u) rfl rfl om om rfl (fun h=>by cases h)) ?_;repeat(first|(refine AS ⟨?_⟩;intros)|(refine O1 ⟨?_⟩;intros))
    refine WdN 10 ?_;repeat(refine A1 ⟨?_⟩;intros)
    refine Wdo (dJ (e:=108) (len:=2) kr rfl rfl om om) ?_;repeat(first|(refine Wo (aD (fqx (l,u)) rfl) ?_)|(refine Wdo (aD (fqx (l,u)) rfl) ?_)|(refine Wo (az (k:=0) (k0:=1) (ds:=fqx (l,u)) rfl rfl rfl rfl om) ?_)|(refine Wdo (az (k:=0) (k0:=1) (ds:=fqx (l,u)) rfl rfl rfl rfl om) ?_)|(refine A1 ⟨?_⟩;intros))
    refine Wo (dJ (e:=108) (len:=2) kr rfl rfl om om) ?_;repeat(refine A1 ⟨?_⟩;intros)
    refine Wdo (dJ (e:=108) (len:=2) kr rfl rfl om om) ?_;repeat(refine A1 ⟨?_⟩;intros)
    refine Wdo (dJ (e:=108) (len:=2) kr rfl rfl om om) ?_;repeat(refine A1 ⟨?_⟩;intros)
    exact aS (fw (RV.tmp rfl) (RV.tmp rfl) (Le.tup2 mh Lr))
  ·obtain rfl|⟨u,rfl⟩:=rH h2
   ·refine WP.unroll 3 (WPR.succ ?_);have lw:=l1 w;repeat(refine A1 ⟨?_⟩;intros)
    refine WPL.lowB (cs':=[xsl [] 0,xsl [] 0]) (.here _) ⟨iQ,iQ,trivial⟩ ?_;refine Wo (a7 (cs':=[lit (.int .i64 1)]) rfl rfl (by decide) (by decide) rfl (fun h=>by cases h)) ?_;repeat(first|(refine Wo (aD (spx s) rfl) ?_)|(refine Wdo (aD (spx s) rfl) ?_)|(refine A1 ⟨?_⟩;intros)|refine W4 d1 ⟨?_⟩|refine W4 e1 ⟨?_⟩)
    refine WP.unroll 2 (WPR.succ ?_);repeat(refine A1 ⟨?_⟩;intros)
    refine Wo (a7 (cs':=spx w) rfl rfl om om rfl (fun h=>by cases h)) ?_;repeat(first|(refine AS ⟨?_⟩;intros)|(refine O1 ⟨?_⟩;intros))
    refine WdN 10 ?_;repeat(refine A1 ⟨?_⟩;intros)
    refine Wdo (dJ (e:=108) (len:=2) kr rfl rfl om om) ?_;repeat(first|(refine Wo (aD (fqx (l,w)) rfl) ?_)|(refine Wdo (aD (fqx (l,w)) rfl) ?_)|(refine Wo (az (k:=0) (k0:=1) (ds:=fqx (l,w)) rfl rfl rfl rfl om) ?_)|(refine Wdo (az (k:=0) (k0:=1) (ds:=fqx (l,w)) rfl rfl rfl rfl om) ?_)|(refine A1 ⟨?_⟩;intros))
    refine Wo (dJ (e:=108) (len:=2) kr rfl rfl om om) ?_;repeat(refine A1 ⟨?_⟩;intros)
    refine Wo (a7 (cs':=[lit (.int .i64 (-1))]) rfl rfl (by decide) (by decide) rfl (fun h=>by cases h)) ?_;repeat(first|(refine Wo (aD (spx s) rfl) ?_)|(refine Wdo (aD (spx s) rfl) ?_)|(refine A1 ⟨?_⟩;intros)|refine W4 d2 ⟨?_⟩|refine W4 e2 ⟨?_⟩)
    refine WP.unroll 1 (WPR.succ ?_);repeat(refine A1 ⟨?_⟩;intros)
    refine Wdo (dJ (e:=108) (len:=2) kr rfl rfl om om) ?_;repeat(refine A1 ⟨?_⟩;intros)
    refine Wdo (dJ (e:=108) (len:=2) kr rfl rfl om om) ?_;repeat(refine A1 ⟨?_⟩;intros)
    exact aS (fw (RV.tmp rfl) (RV.tmp rfl) (Le.tup2 Lr mh))
   ·refine WP.unroll 3 (WPR.succ ?_);have lw:=l1 w;have lw:=l1 u;repeat(refine A1 ⟨?_⟩;intros)
    refine WPL.lowB (cs':=[xsl [] 0,xsl [] 0]) (.here _) ⟨iQ,iQ,trivial⟩ ?_;refine Wo (a7 (cs':=[lit (.int .i64 1)]) rfl rfl (by decide) (by decide) rfl (fun h=>by cases h)) ?_;repeat(first|(refine Wo (aD (spx s) rfl) ?_)|(refine Wdo (aD (spx s) rfl) ?_)|(refine A1 ⟨?_⟩;intros)|refine W4 d1 ⟨?_⟩|refine W4 e1 ⟨?_⟩)
    refine WP.unroll 2 (WPR.succ ?_);repeat(refine A1 ⟨?_⟩;intros)
    refine Wo (a7 (cs':=spx w) rfl rfl om om rfl (fun h=>by cases h)) ?_;repeat(first|(refine AS ⟨?_⟩;intros)|(refine O1 ⟨?_⟩;intros))
    refine WdN 10 ?_;repeat(refine A1 ⟨?_⟩;intros)
    refine Wdo (dJ (e:=108) (len:=2) kr rfl rfl om om) ?_;repeat(first|(refine Wo (aD (fqx (l,w)) rfl) ?_)|(refine Wdo (aD (fqx (l,w)) rfl) ?_)|(refine Wo (az (k:=0) (k0:=1) (ds:=fqx (l,w)) rfl rfl rfl rfl om) ?_)|(refine Wdo (az (k:=0) (k0:=1) (ds:=fqx (l,w)) rfl rfl rfl rfl om) ?_)|(refine A1 ⟨?_⟩;intros))
    refine Wo (dJ (e:=108) (len:=2) kr rfl rfl om om) ?_;repeat(refine A1 ⟨?_⟩;intros)
    refine Wo (a7 (cs':=[lit (.int .i64 (-1))]) rfl rfl (by decide) (by decide) rfl (fun h=>by cases h)) ?_;repeat(first|(refine Wo (aD (spx s) rfl) ?_)|(refine Wdo (aD (spx s) rfl) ?_)|(refine A1 ⟨?_⟩;intros)|refine W4 d2 ⟨?_⟩|refine W4 e2 ⟨?_⟩)
    refine WP.unroll 2 (WPR.succ ?_);repeat(refine A1 ⟨?_⟩;intros)
    refine Wo (a7 (cs':=spx u) rfl rfl om om rfl (fun h=>by cases h)) ?_;repeat(first|(refine AS ⟨?_⟩;intros)|(refine O1 ⟨?_⟩;intros))
    refine WdN 10 ?_;repeat(refine A1 ⟨?_⟩;intros)
    refine Wdo (dJ (e:=108) (len:=2) kr rfl rfl om om) ?_;repeat(first|(refine Wo (aD (fqx (l,u)) rfl) ?_)|(refine Wdo (aD (fqx (l,u)) rfl) ?_)|(refine Wo (az (k:=0) (k0:=1) (ds:=fqx (l,u)) rfl rfl rfl rfl om) ?_)|(refine Wdo (az (k:=0) (k0:=1) (ds:=fqx (l,u)) rfl rfl rfl rfl om) ?_)|(refine A1 ⟨?_⟩;intros))
    refine Wo (dJ (e:=108) (len:=2) kr rfl rfl om om) ?_;repeat(refine A1 ⟨?_⟩;intros)
    refine Wdo (dJ (e:=108) (len:=2) kr rfl rfl om om) ?_;repeat(refine A1 ⟨?_⟩;intros)
    refine Wdo (dJ (e:=108) (len:=2) kr rfl rfl om om) ?_;repeat(refine A1 ⟨?_⟩;intros)
    exact aS (fw (RV.tmp rfl) (RV.tmp rfl) (Le.tup2 Lr Lr))
theorem wt {p q:Pq}(hp:Iq p) (hq:Iq q) (h:p≠q):Pu Tryz.prog 77 [ag (rpx p),ag (rpx q)] (Ab.tup [ag (fqx (wo p q)),lit (.bool true)]):=by
 have hl:=qM hp hq h;have b1:=hp.ht;have b2:=hq.ht
 have hne:q.1-p.1≠0∨q.2-p.2≠0:=by
  by_cases h1:q.1-p.1=0
  ·right;intro h2;exact h (Prod.ext (by grind) (by grind))
  ·exact .inl h1
 have c1:=qB (x:=p.1) (y:=p.2) (u:=q.1) (v:=q.2) (L:=10) om om om om om hne;have c2:=ly (l:=thr p.1 p.2 q.1 q.2) (p:=p) hl ⟨om,om⟩;have c3:=ly (l:=thr p.1 p.2 q.1 q.2) (p:=q) hl ⟨om,om⟩;unfold wo;clear hl b1 b2 hne;generalize thr p.1 p.2 q.1 q.2=l at *;generalize bZ l p=s at *;generalize bZ l q=t at *;refine Pi Tryz.func77 fun C=>?_
 repeat(first|(refine A1 ⟨?_⟩;intros)|refine W4 c1 ⟨?_⟩|refine W4 c2 ⟨?_⟩|refine W4 c3 ⟨?_⟩)
 exact G3
theorem Ft {l:List Pq}{k:Nat}(h:k<l.length):(dG l)[k]? = some (wo (l.getD k (0,0)) (l.getD ((k+1)%l.length) (0,0))):=by
 unfold dG;rw [List.getElem?_map,List.getElem?_range h];rfl
theorem uF {l:List Pq}{k:Nat}(h:k<l.length):(((l.map rpx).flatten).drop (k*6)).take 6=rpx (l.getD k (0,0)):=eA (f:=rpx) (n:=6) bW (by rw [List.getD,List.getElem?_eq_getElem h];rfl)
theorem tc {l:List Pq}(h:eM l):Pu Tryz.prog 45 [rps l] (fqs (dG l)):=by
 have hel:=nQ l;have h6:=h.1;refine Pi Tryz.func45 fun C=>?_
 repeat(refine A1 ⟨?_⟩;intros)
 refine WP.loopS (ι:=vV) (fun y=>y.k≤l.length∧Own fT 14 y.k (((dG l).take y.k).map fqx).flatten y.s y.Hs) (fun y=>l.length-y.k)
  (fun y=>fm [(0,rps l),(3,y.s),(7,rps l),(8,lit (.int .i64 l.length)),(9,lit (.int .i64 y.k))]) (fun y=>y.Hs) ⟨0,lit (.slice none 0 0),[]⟩
  ⟨Nat.zero_le _,Own.nil _ _⟩ lfA (List.nil_sublist _) ?_
 rintro ⟨k,s,Hs⟩ ⟨hk,hown⟩ K hK;simp only at hk hown⊢;have hco:=hown.co;by_cases hkl:k<l.length
 ·obtain⟨g1,g2,g3⟩:=DH h hkl;have c:=wt g1 g2 g3;have hget:=Ft hkl;have hml:(k+1)%l.length<l.length:=Nat.mod_lt _ om;have hat:=uF hkl;have hat2:=uF hml;have hne:(l.map rpx).flatten≠[]:=eN bW om (fun e=>by rw [e]at hkl;simp at hkl);have htm:((k:Int)+1).tmod (l.length:Int)=(((k+1)%l.length:Nat):Int):=rfl;have htm1:0≤((k:Int)+1).tmod (l.length:Int):=by rw [htm];omega
  have htm2:((k:Int)+1).tmod (l.length:Int)<(l.length:Int):=by rw [htm];exact_mod_cast hml
  have hat2':(((l.map rpx).flatten).drop ((((k:Int)+1).tmod (l.length:Int)).toNat*6)).take 6=rpx (l.getD ((k+1)%l.length) (0,0)):=by rw [htm];exact hat2
  have hgo:=fun s' Hs' h F' H'=>hK F' H' ⟨k+1,s',Hs'⟩ ⟨by simp only;omega,h⟩ (by simp only;omega)
  simp only [ee hget]at hgo;clear hK h htm hat2 hget hel;generalize wo (l.getD k (0,0)) (l.getD ((k+1)%l.length) (0,0))=f at *;generalize l.getD ((k+1)%l.length) (0,0)=q at *;generalize l.getD k (0,0)=p at *;repeat(first|(refine AS ⟨?_⟩;intros)|(refine O1 ⟨?_⟩;intros))
  refine WdL 17 1 ?_;repeat(refine A1 ⟨?_⟩;intros)
  refine Wdo (a7 (cs':=rpx p) rfl rfl om om hat hne) ?_;repeat(refine A1 ⟨?_⟩;intros)
  refine Wdo (a7 (cs':=rpx q) rfl rfl htm1 htm2 hat2' hne) ?_;repeat(first|(refine A1 ⟨?_⟩;intros)|refine W4 c ⟨?_⟩)
  refine dL1 fun b5=>?_
  refine Gs (sv:=ag (fqx f)) (cs':=fqx f) rfl rfl rfl (.here _) rfl rfl ?_ ?_
  ·(repeat(first|exact LOk.nil|refine Lsk ?_|refine Lcv ?_))
  refine Gn ?_ ?_
  ·(repeat(first|exact LOk.nil|refine Lsk ?_|refine Lcv ?_))
  repeat(first|(refine Wo (aD (fqx f) rfl) ?_)|(refine Wdo (aD (fqx f) rfl) ?_)|(refine A1 ⟨?_⟩;intros))
  refine jL (ds:=fqx f) hown (Tk.skip _ (Tk.same _)) om (fun s' H1 hown'=>?_);have hco':=hown'.co;replace hgo:=hgo s' H1 hown';clear hown hown';repeat(refine A1 ⟨?_⟩;intros)
  exact hgo _ _ lfA (Sc Sr)
 ·have hke:k=l.length:=by omega
  subst hke;have hl2:l.length=(dG l).length:=hel.symm;rw [hl2,List.take_length]at hown;refine WP.rowS 3 hown rfl (by rw [List.append_nil]) ?_;clear hK hown;exact Z1
def gZ (l:List Pq) (p:Pq) (n:Int) (i:Nat):Int :=
 if((l.getD i (0,0)).2-p.2).num.sign≤0 then
  (if((l.getD ((i+1)%l.length) (0,0)).2-p.2).num.sign≤0 then n else if 0<nt (l.getD i (0,0)) (l.getD ((i+1)%l.length) (0,0)) p then n+1 else n)
 else(if((l.getD ((i+1)%l.length) (0,0)).2-p.2).num.sign≤0 then(if nt (l.getD i (0,0)) (l.getD ((i+1)%l.length) (0,0)) p<0 then n-1 else n)else n)
def sG (l:List Pq) (p:Pq):Int:=(List.range l.length).foldl (gZ l p) 0
theorem wW (l:List Pq) (p:Pq) (n:Int) (i:Nat):(gZ l p n i).natAbs≤n.natAbs+1:=by
 unfold gZ;split <;> split <;> (try split) <;> omega
theorem rx (l:List Pq) (p:Pq):∀k:Nat,((List.range k).foldl (gZ l p) 0).natAbs≤k
 |0=>Nat.le_refl _
 |k+1=>by
  have:=rx l p k;have:=wW l p ((List.range k).foldl (gZ l p) 0) k;rw [List.range_succ,List.foldl_append];show(gZ l p _ k).natAbs≤k+1
  omega
theorem wX (l:List Pq) (p:Pq):(sG l p).natAbs≤l.length:=rx l p l.length
theorem yE {l:List Pq}{p:Pq}(hl:l.length≤100000) (hh:∀q∈l,hp q 900) (hp':hp p 900):Pu Tryz.prog 117 [rps l,ag (rpx p)] (lit (.int .i64 (sG l p))):=by
 unfold sG;obtain⟨p1,p2⟩:=hp';refine Pi Tryz.func117 fun C=>?_
 repeat(first|(refine Wo (aG (sv:=ag _) rfl) ?_)|(refine Wdo (aG (sv:=ag _) rfl) ?_)|(refine A1 ⟨?_⟩;intros))
 refine WP.loopS (ι:=Nat×Int) (fun y=>y.1≤l.length∧y.2=(List.range y.1).foldl (gZ l p) 0) (fun y=>l.length-y.1)
  (fun y=>fm [(0,rps l),(3,pt (rpx p)),(5,lit (.int .i64 y.2)),(11,rps l),(12,lit (.int .i64 l.length)),(13,lit (.int .i64 y.1))]) (fun _=>[]) (0,0)
  ⟨Nat.zero_le _,rfl⟩ lfA (List.nil_sublist _) ?_
 rintro ⟨k,z⟩ ⟨hk,hz⟩ K hK;simp only at hk hz⊢;by_cases hkl:k<l.length
 ·have hgo:=fun F' H'=>hK F' H' (k+1,gZ l p z k) ⟨by simp only;omega,by rw [List.range_succ,List.foldl_append,←hz];rfl⟩ (by simp only;omega)
  have hza:=rx l p k;rw [←hz]at hza;have hml:(k+1)%l.length<l.length:=Nat.mod_lt _ om;have hat:=uF hkl;have hat2:=uF hml;have m1:l.getD k (0,0)∈l:=List.mem_of_getElem? (i:=k) (by rw [List.getD,List.getElem?_eq_getElem hkl];rfl);have m2:l.getD ((k+1)%l.length) (0,0)∈l:=List.mem_of_getElem? (i:=(k+1)%l.length) (by rw [List.getD,List.getElem?_eq_getElem hml];rfl);have hne:(l.map rpx).flatten≠[]:=eN bW om (fun e=>by rw [e]at hkl;simp at hkl);have htm:((k:Int)+1).tmod (l.length:Int)=(((k+1)%l.length:Nat):Int):=rfl;have htm1:0≤((k:Int)+1).tmod (l.length:Int):=by rw [htm];omega
  have htm2:((k:Int)+1).tmod (l.length:Int)<(l.length:Int):=by rw [htm];exact_mod_cast hml
  have hat2':(((l.map rpx).flatten).drop ((((k:Int)+1).tmod (l.length:Int)).toNat*6)).take 6=rpx (l.getD ((k+1)%l.length) (0,0)):=by rw [htm];exact hat2
  have v1:=hh _ m1;have v2:=hh _ m2;unfold gZ at hgo;clear hK hh hz htm hat2 m1 m2;generalize l.getD ((k+1)%l.length) (0,0)=w at *;generalize l.getD k (0,0)=v at *;obtain⟨a1,a2⟩:=v1;obtain⟨a3,a4⟩:=v2;have c1:=iM v.2 p.2 om om;have c2:=iM w.2 p.2 om om;have c3:=yD v w p ⟨om,om⟩ ⟨om,om⟩ ⟨om,om⟩;generalize(v.2-p.2).num.sign=za at *;generalize(w.2-p.2).num.sign=zb at *;generalize nt v w p=zo at *;clear a1 a2 a3 a4 p1 p2;by_cases ha:za≤0
  ·rw [if_pos ha]at hgo;by_cases hb:zb≤0
   ·rw [if_pos hb]at hgo;repeat(first|(refine AS ⟨?_⟩;intros)|(refine O1 ⟨?_⟩;intros))
    refine WdL 14 1 ?_;repeat(refine A1 ⟨?_⟩;intros)
    refine Wdo (a7 (cs':=rpx v) rfl rfl om om hat hne) ?_;repeat(refine A1 ⟨?_⟩;intros)
    refine Wdo (a7 (cs':=rpx w) rfl rfl htm1 htm2 hat2' hne) ?_;repeat(refine A1 ⟨?_⟩;intros)
    refine dL2 fun b7 b8=>?_
    refine Gs (sv:=ag (rpx v)) (cs':=rpx v) rfl rfl rfl (by first|exact .here _|exact .there _ (.here _)) rfl rfl ?_ ?_
    ·((repeat(first|exact LOk.nil|refine Lsk ?_|refine Lcv ?_));refine Lcv ?_ (a7 (cs':=rpx w) rfl rfl htm1 htm2 hat2' hne);(repeat(first|exact LOk.nil|refine Lsk ?_|refine Lcv ?_)))
    refine Gn ?_ ?_
    ·((repeat(first|exact LOk.nil|refine Lsk ?_|refine Lcv ?_));refine Lcv ?_ (a7 (cs':=rpx w) rfl rfl htm1 htm2 hat2' hne);(repeat(first|exact LOk.nil|refine Lsk ?_|refine Lcv ?_)))
    repeat(first|(refine A1 ⟨?_⟩;intros)|refine W4 c1 ⟨?_⟩|refine W4 c2 ⟨?_⟩|refine W4 c3 ⟨?_⟩)
    exact hgo _ _ lfA (List.nil_sublist _)
   ·rw [if_neg hb]at hgo;by_cases ho:0<zo
    ·rw [if_pos ho]at hgo;repeat(first|(refine AS ⟨?_⟩;intros)|(refine O1 ⟨?_⟩;intros))
     refine WdL 14 1 ?_;repeat(refine A1 ⟨?_⟩;intros)
     refine Wdo (a7 (cs':=rpx v) rfl rfl om om hat hne) ?_;repeat(refine A1 ⟨?_⟩;intros)
     refine Wdo (a7 (cs':=rpx w) rfl rfl htm1 htm2 hat2' hne) ?_;repeat(refine A1 ⟨?_⟩;intros)
     refine dL2 fun b7 b8=>?_
     refine Gs (sv:=ag (rpx v)) (cs':=rpx v) rfl rfl rfl (by first|exact .here _|exact .there _ (.here _)) rfl rfl ?_ ?_
     ·((repeat(first|exact LOk.nil|refine Lsk ?_|refine Lcv ?_));refine Lcv ?_ (a7 (cs':=rpx w) rfl rfl htm1 htm2 hat2' hne);(repeat(first|exact LOk.nil|refine Lsk ?_|refine Lcv ?_)))
     refine Gn ?_ ?_
     ·((repeat(first|exact LOk.nil|refine Lsk ?_|refine Lcv ?_));refine Lcv ?_ (a7 (cs':=rpx w) rfl rfl htm1 htm2 hat2' hne);(repeat(first|exact LOk.nil|refine Lsk ?_|refine Lcv ?_)))
     repeat(first|(refine A1 ⟨?_⟩;intros)|refine W4 c1 ⟨?_⟩|refine W4 c2 ⟨?_⟩|refine W4 c3 ⟨?_⟩)
     exact hgo _ _ lfA (List.nil_sublist _)
    ·rw [if_neg ho]at hgo;repeat(first|(refine AS ⟨?_⟩;intros)|(refine O1 ⟨?_⟩;intros))
     refine WdL 14 1 ?_;repeat(refine A1 ⟨?_⟩;intros)
     refine Wdo (a7 (cs':=rpx v) rfl rfl om om hat hne) ?_;repeat(refine A1 ⟨?_⟩;intros)
     refine Wdo (a7 (cs':=rpx w) rfl rfl htm1 htm2 hat2' hne) ?_;repeat(refine A1 ⟨?_⟩;intros)
     refine dL2 fun b7 b8=>?_
     refine Gs (sv:=ag (rpx v)) (cs':=rpx v) rfl rfl rfl (by first|exact .here _|exact .there _ (.here _)) rfl rfl ?_ ?_
     ·((repeat(first|exact LOk.nil|refine Lsk ?_|refine Lcv ?_));refine Lcv ?_ (a7 (cs':=rpx w) rfl rfl htm1 htm2 hat2' hne);(repeat(first|exact LOk.nil|refine Lsk ?_|refine Lcv ?_)))
     refine Gn ?_ ?_
     ·((repeat(first|exact LOk.nil|refine Lsk ?_|refine Lcv ?_));refine Lcv ?_ (a7 (cs':=rpx w) rfl rfl htm1 htm2 hat2' hne);(repeat(first|exact LOk.nil|refine Lsk ?_|refine Lcv ?_)))
     repeat(first|(refine A1 ⟨?_⟩;intros)|refine W4 c1 ⟨?_⟩|refine W4 c2 ⟨?_⟩|refine W4 c3 ⟨?_⟩)
     exact hgo _ _ lfA (List.nil_sublist _)
  ·rw [if_neg ha]at hgo;by_cases hb:zb≤0
   ·rw [if_pos hb]at hgo;by_cases ho:zo<0
    ·rw [if_pos ho]at hgo;repeat(first|(refine AS ⟨?_⟩;intros)|(refine O1 ⟨?_⟩;intros))
     refine WdL 14 1 ?_;repeat(refine A1 ⟨?_⟩;intros)
     refine Wdo (a7 (cs':=rpx v) rfl rfl om om hat hne) ?_;repeat(refine A1 ⟨?_⟩;intros)
     refine Wdo (a7 (cs':=rpx w) rfl rfl htm1 htm2 hat2' hne) ?_;repeat(refine A1 ⟨?_⟩;intros)
     refine dL2 fun b7 b8=>?_
     refine Gs (sv:=ag (rpx v)) (cs':=rpx v) rfl rfl rfl (by first|exact .here _|exact .there _ (.here _)) rfl rfl ?_ ?_
     ·((repeat(first|exact LOk.nil|refine Lsk ?_|refine Lcv ?_));refine Lcv ?_ (a7 (cs':=rpx w) rfl rfl htm1 htm2 hat2' hne);(repeat(first|exact LOk.nil|refine Lsk ?_|refine Lcv ?_)))
     refine Gn ?_ ?_
     ·((repeat(first|exact LOk.nil|refine Lsk ?_|refine Lcv ?_));refine Lcv ?_ (a7 (cs':=rpx w) rfl rfl htm1 htm2 hat2' hne);(repeat(first|exact LOk.nil|refine Lsk ?_|refine Lcv ?_)))
     repeat(first|(refine A1 ⟨?_⟩;intros)|refine W4 c1 ⟨?_⟩|refine W4 c2 ⟨?_⟩|refine W4 c3 ⟨?_⟩)
     exact hgo _ _ lfA (List.nil_sublist _)
    ·rw [if_neg ho]at hgo;repeat(first|(refine AS ⟨?_⟩;intros)|(refine O1 ⟨?_⟩;intros))
     refine WdL 14 1 ?_;repeat(refine A1 ⟨?_⟩;intros)
     refine Wdo (a7 (cs':=rpx v) rfl rfl om om hat hne) ?_;repeat(refine A1 ⟨?_⟩;intros)
     refine Wdo (a7 (cs':=rpx w) rfl rfl htm1 htm2 hat2' hne) ?_;repeat(refine A1 ⟨?_⟩;intros)
     refine dL2 fun b7 b8=>?_
     refine Gs (sv:=ag (rpx v)) (cs':=rpx v) rfl rfl rfl (by first|exact .here _|exact .there _ (.here _)) rfl rfl ?_ ?_
     ·((repeat(first|exact LOk.nil|refine Lsk ?_|refine Lcv ?_));refine Lcv ?_ (a7 (cs':=rpx w) rfl rfl htm1 htm2 hat2' hne);(repeat(first|exact LOk.nil|refine Lsk ?_|refine Lcv ?_)))
     refine Gn ?_ ?_
     ·((repeat(first|exact LOk.nil|refine Lsk ?_|refine Lcv ?_));refine Lcv ?_ (a7 (cs':=rpx w) rfl rfl htm1 htm2 hat2' hne);(repeat(first|exact LOk.nil|refine Lsk ?_|refine Lcv ?_)))
     repeat(first|(refine A1 ⟨?_⟩;intros)|refine W4 c1 ⟨?_⟩|refine W4 c2 ⟨?_⟩|refine W4 c3 ⟨?_⟩)
     exact hgo _ _ lfA (List.nil_sublist _)
   ·rw [if_neg hb]at hgo;repeat(first|(refine AS ⟨?_⟩;intros)|(refine O1 ⟨?_⟩;intros))
    refine WdL 14 1 ?_;repeat(refine A1 ⟨?_⟩;intros)
    refine Wdo (a7 (cs':=rpx v) rfl rfl om om hat hne) ?_;repeat(refine A1 ⟨?_⟩;intros)
    refine Wdo (a7 (cs':=rpx w) rfl rfl htm1 htm2 hat2' hne) ?_;repeat(refine A1 ⟨?_⟩;intros)
    refine dL2 fun b7 b8=>?_
    refine Gs (sv:=ag (rpx v)) (cs':=rpx v) rfl rfl rfl (by first|exact .here _|exact .there _ (.here _)) rfl rfl ?_ ?_
    ·((repeat(first|exact LOk.nil|refine Lsk ?_|refine Lcv ?_));refine Lcv ?_ (a7 (cs':=rpx w) rfl rfl htm1 htm2 hat2' hne);(repeat(first|exact LOk.nil|refine Lsk ?_|refine Lcv ?_)))
    refine Gn ?_ ?_
    ·((repeat(first|exact LOk.nil|refine Lsk ?_|refine Lcv ?_));refine Lcv ?_ (a7 (cs':=rpx w) rfl rfl htm1 htm2 hat2' hne);(repeat(first|exact LOk.nil|refine Lsk ?_|refine Lcv ?_)))
    repeat(first|(refine A1 ⟨?_⟩;intros)|refine W4 c1 ⟨?_⟩|refine W4 c2 ⟨?_⟩|refine W4 c3 ⟨?_⟩)
    exact hgo _ _ lfA (List.nil_sublist _)
 ·have hke:k=l.length:=by omega
  subst hke;subst hz;clear hK;exact Z1
def JD (fill n:Int):Bool:=if fill=1 then decide (n.tmod 2≠0)else decide (n≠0)
theorem wE (fill n:Int) (hf:fill=1∨fill=2) (hn:n.natAbs≤1000000000):Pu Tryz.prog 118 [lit (.int .i64 fill),lit (.int .i64 n)] (lit (.bool (JD fill n))):=by
 unfold JD;rcases hf with rfl|rfl
 ·rw [if_pos rfl];by_cases h:n.tmod 2=0
  ·rw [decide_eq_false (fun k=>k h)];refine Pi Tryz.func118 fun C=>?_
   exact Z1
  ·rw [decide_eq_true h];refine Pi Tryz.func118 fun C=>?_
   exact Z1
 ·rw [if_neg (by decide)];by_cases h:n=0
  ·rw [decide_eq_false (fun k=>k h)];refine Pi Tryz.func118 fun C=>?_
   exact Z1
  ·rw [decide_eq_true h];refine Pi Tryz.func118 fun C=>?_
   exact Z1
abbrev qQ (rs:List (List Pq)):SV:=sl (rs.map fun r=>[rps r]).flatten rs.length
abbrev ya (rs:List (List Pq)):SV:=sl (rs.map fun r=>[aps r]).flatten rs.length
abbrev rgR (rs:List (List Pq)) (fill:Int) (ls:List Li):SV:=ag [qQ rs,lit (.int .i64 fill),lqs ls]
def inR (rs:List (List Pq)) (fill:Int) (p:Pq):Bool:=JD fill (rs.foldl (fun n r=>n+sG r p) 0)
theorem vz (p:Pq):∀(rs:List (List Pq)) (n:Int),(∀r∈rs,r.length≤6)→(rs.foldl (fun n r=>n+sG r p) n).natAbs≤n.natAbs+6*rs.length
 | [],n,_=>by simp
 |r::rs,n,h=>by
  have:=vz p rs (n+sG r p) (fun r hr=>h r (Mc hr));have h1:=wX r p;have h2:=h r Ms;rw [List.foldl_cons,List.length_cons];omega
theorem Gy {rs:List (List Pq)}{fill:Int}{ls:List Li}{p:Pq}(hf:fill=1∨fill=2) (hl:rs.length≤1000) (hh:∀r∈rs,eM r) (hp':hp p 900):Pu Tryz.prog 79 [rgR rs fill ls,ag (rpx p)] (lit (.bool (inR rs fill p))):=by
 have h6:∀r∈rs,r.length≤6:=fun r hr=>(hh r hr).1
 have hb:=fun k=>vz p (rs.take k) 0 (fun r hr=>h6 r (List.mem_of_mem_take hr))
 have hbl:=vz p rs 0 h6;have ca:=wE fill (rs.foldl (fun n r=>n+sG r p) 0) hf (by have e:(0:Int).natAbs=0:=rfl;omega);unfold inR;refine Pi Tryz.func79 fun C=>?_
 repeat(first|(refine Wo (aG (sv:=ag _) rfl) ?_)|(refine Wdo (aG (sv:=ag _) rfl) ?_)|(refine A1 ⟨?_⟩;intros))
 refine WP.loopS (ι:=Nat×Int) (fun y=>y.1≤rs.length∧y.2=(rs.take y.1).foldl (fun n r=>n+sG r p) 0) (fun y=>rs.length-y.1)
  (fun y=>fm [(2,pt [qQ rs,lit (.int .i64 fill),lqs ls]),(3,pt (rpx p)),(5,lit (.int .i64 y.2)),(9,qQ rs),(10,lit (.int .i64 rs.length)),(11,lit (.int .i64 y.1))]) (fun _=>[]) (0,0)
  ⟨Nat.zero_le _,rfl⟩ lfA (List.nil_sublist _) ?_
 rintro ⟨k,z⟩ ⟨hk,hz⟩ K hK;simp only at hk hz⊢;by_cases hkl:k<rs.length
 ·obtain⟨r,hget,hmm,hat,hne⟩:=elt (f:=fun r=>[rps r]) (n:=1) (fun _=>rfl) om hkl;have hgo:=fun F' H'=>hK F' H' (k+1,z+sG r p) ⟨by simp only;omega,by simp only;rw [kj hget,←hz]⟩ (by simp only;omega)
  have c:=yE (l:=r) (p:=p) (by have:=h6 r hmm;omega) (fun q hq=>⟨by have:=((hh r hmm).2.1 q hq).ht.1;omega,by have:=((hh r hmm).2.1 q hq).ht.2;omega⟩) hp';have hzb:=hb k;rw [←hz,List.length_take]at hzb;have hnb:=wX r p;have h6r:=h6 r hmm;have e0:(0:Int).natAbs=0:=rfl;clear hK hh hget hmm hz hb hbl ca h6;generalize sG r p=z2 at *;repeat(refine A1 ⟨?_⟩;intros)
  refine Wo (a7 (cs':=[rps r]) rfl rfl om om hat hne) ?_;repeat(first|(refine A1 ⟨?_⟩;intros)|refine W4 c ⟨?_⟩)
  exact hgo _ _ lfA (List.nil_sublist _)
 ·have hke:k=rs.length:=by omega
  subst hke;rw [List.take_length]at hz;rw [←hz]at ca⊢;clear hK hb hbl;exact Y1 ca
end Go.Ab
