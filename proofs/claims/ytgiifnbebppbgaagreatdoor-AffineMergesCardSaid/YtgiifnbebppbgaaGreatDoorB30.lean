/- Texts laid one behind the other: GwI, GwJ. -/
import Derived.Test.YtgiifnbebppbgaaGreatDoorB29
import Derived.Test.YtgiifnbebppbgaaGreatDoorB28
set_option linter.unusedSectionVars false
set_option linter.unusedVariables false
set_option linter.unusedSimpArgs false
namespace Go.Ab
open Go.Proofs
variable [Base]
theorem marks_take {α:Type}{f:α→Bool}{l:List α}{k:Nat}{t:α}(h:l[k]? = some t):((((l.take (k+1)).map f)).map fun b=>[(lit (.bool b):SV)]).flatten=(((l.take k).map f).map fun b=>[lit (.bool b)]).flatten++[lit (.bool (f t))]:=by
 rw [take_snoc h,List.map_append,List.map_append,List.flatten_append];rfl
set_option maxHeartbeats 16000000 in
theorem rcombine_pu (op : Int) (hop : op = 1 ∨ op = 2) (a b : List Spn) (h0 : a ≠ []) (hla : a.length ≤ 10000) (hlb : b.length ≤ 10000) (ha : ∀ s ∈ a, s.le 10000) (hb : ∀ s ∈ b, s.le 10000) :
    Pu Tryz.prog 153 [lit (.int .i64 op),sps a,sps b] (sps (combS op a b)):=by
  have hl:(a++b).length≤20000:=by rw [List.length_append];omega
  have hab:∀s∈a++b,s.le 10000:=fun s hs=>(List.mem_append.1 hs).elim (ha s) (hb s)
  have c1:=rends_pu (a++b) (by omega) (fun s hs=>⟨by have:=(hab s hs).1;omega,by have:=(hab s hs).2;omega⟩)
  have hel:=ends_len (a++b)
  have heh:=ends_ht hab
  have hpl:=probes_len (endsS (a++b))
  have hph:=probes_ht heh
  have c2:=rprobes_pu (endsS (a++b)) (by omega) (fun y hy=>by have:=heh y hy;omega)
  have c3:=rfrom_pu (endsS (a++b)) ((probes (endsS (a++b))).map fun t=>opB op (inL a t) (inL b t)) (by omega) (by rw [List.length_map];exact hpl)
  have hfa:((a.map spx).flatten).length=a.length*8:=flat_len spx_len a
  have hfb:((b.map spx).flatten).length=b.length*8:=flat_len spx_len b
  have hfab:(a.map spx).flatten++(b.map spx).flatten=((a++b).map spx).flatten:=by rw [List.map_append,List.flatten_append]
  have hpos:=List.length_pos_iff.2 h0
  have e1:∀s H',Own sT 8 (a.length+b.length) ((a.map spx).flatten++(b.map spx).flatten) s H'→Own sT 8 (a++b).length ((a++b).map spx).flatten s H':=fun s H' h=>by rw [List.length_append,←hfab];exact h
  clear hfab hab
  unfold combS
  generalize endsS (a++b)=cuts at *
  generalize hM:(probes cuts).map (fun t=>opB op (inL a t) (inL b t))=M at *
  generalize hP:probes cuts=ps at *
  have hMl:M.length=ps.length:=by rw [←hM,List.length_map]
  have di:∀t∈ps,Pu Tryz.prog 208 [sps a,rq t] (lit (.bool (inL a t)))∧Pu Tryz.prog 208 [sps b,rq t] (lit (.bool (inL b t))):=fun t ht=>⟨rin_pu a t (by omega) (fun s hs=>⟨by have:=(ha s hs).1;omega,by have:=(ha s hs).2;omega⟩) (by have:=hph t ht;omega),rin_pu b t (by omega) (fun s hs=>⟨by have:=(hb s hs).1;omega,by have:=(hb s hs).2;omega⟩) (by have:=hph t ht;omega)⟩
  clear heh hph ha hb h0
  refine Pu.intro Tryz.func153 rfl (by kernel_rfl) fun C=>?_
  repeat(refine A1 ⟨?_⟩;intros)
  rename_i b14
  refine WownK (k0:=a.length) (n0:=0) (cs:=[]) (ds:=(a.map spx).flatten) (Hs:=[(b14,sT,[])]) ⟨rfl, .inr ⟨b14,0,Nat.le_refl _,by decide,rfl,rfl⟩⟩ (Tk.cons (.here _) (Tk.nil _)) (by omega) hfa (fun s1 H1 hown1=>?_)
  rw [Nat.zero_add,List.nil_append]at hown1
  have hco1:=hown1.co
  repeat(refine A1 ⟨?_⟩;intros)
  refine WownK (k0:=b.length) hown1 (Tk.same _) (by omega) hfb (fun s2 H2 hown2=>?_)
  replace hown2:=e1 _ _ hown2
  have hco2:=hown2.co
  refine WPL.rowS 18 hown2 rfl (R:=[]) (by simp) ?_
  clear hown1 hown2 e1 hfa hfb
  repeat(first|(refine A1 ⟨?_⟩;intros)|refine W4 c1 ⟨?_⟩|refine W4 c2 ⟨?_⟩)
  refine WP.loopS (ι:=PrSt) (fun y=>y.k≤ps.length∧Own bT 1 y.k (((ps.take y.k).map fun t=>opB op (inL a t) (inL b t)).map fun b=>[lit (.bool b)]).flatten y.s y.Hs) (fun y=>ps.length-y.k)
    (fun y=>fm [(0,lit (.int .i64 op)),(1,sps a),(2,sps b),(7,rqs cuts),(8,y.s),(21,rqs ps),(22,lit (.int .i64 ps.length)),(23,lit (.int .i64 y.k))]) (fun y=>y.Hs) ⟨0,lit (.slice none 0 0),[]⟩
    ⟨Nat.zero_le _,Own.nil _ _⟩ lfA (List.nil_sublist _) ?_
  rintro ⟨k,s,Hs⟩ ⟨hk,hown⟩ K hK
  simp only at hk hown⊢
  have hco:=hown.co
  by_cases hkl:k<ps.length
  · obtain⟨t,hget,hmm,hat,hne⟩:=elt rqx_len (by omega) hkl
    obtain⟨d1,d2⟩:=di t hmm
    have hgo:=fun s' Hs' (h:Own bT 1 (k+1) ((((ps.take k).map fun t=>opB op (inL a t) (inL b t)).map fun b=>[lit (.bool b)]).flatten++[lit (.bool (opB op (inL a t) (inL b t)))]) s' Hs') F' H'=>hK F' H' ⟨k+1,s',Hs'⟩ ⟨by simp only;omega,by simp only;rw [marks_take hget];exact h⟩ (by simp only;omega)
    clear hK di c1 c2 c3 hget hmm hM hP
    generalize inL a t=x at *
    generalize inL b t=y at *
    generalize(((ps.take k).map fun t=>opB op (inL a t) (inL b t)).map fun b=>[(lit (.bool b):SV)]).flatten=cs at *
    rcases hop with rfl|rfl <;> cases x <;> cases y
    all_goals
      simp only [opB,Int.reduceEq,if_true,if_false,Bool.or_true,Bool.or_false,Bool.and_true,Bool.and_false,Bool.or_self,Bool.and_self,Bool.false_eq_true]at hgo
      repeat(refine A1 ⟨?_⟩;intros)
      refine Wo (ov_idxS (cs':=rqx t) rfl rfl (by omega) (by omega) hat hne) ?_
      repeat(first|(refine Wo (ov_bsN (s:=lit (.bool true)) (ds:=[lit (.bool true)]) rfl inferInstance) ?_)|(refine Wdo (ov_bsN (s:=lit (.bool true)) (ds:=[lit (.bool true)]) rfl inferInstance) ?_)|(refine Wo (ov_bsN (s:=lit (.bool false)) (ds:=[lit (.bool false)]) rfl inferInstance) ?_)|(refine Wdo (ov_bsN (s:=lit (.bool false)) (ds:=[lit (.bool false)]) rfl inferInstance) ?_)|(refine A1 ⟨?_⟩;intros)|refine W4 d1 ⟨?_⟩|refine W4 d2 ⟨?_⟩)
    all_goals first
      | (refine WownS (ds := [lit (.bool true)]) hown (Tk.skip _ (Tk.same _)) (by omega) (fun s' H1 hown' => ?_)
         have hco':=hown'.co
         replace hgo:=hgo s' H1 hown'
         clear hown hown'
         repeat(refine A1 ⟨?_⟩;intros)
         exact hgo _ _ lfA (List.Sublist.cons _ (List.Sublist.refl _)))
      | (refine WownS (ds := [lit (.bool false)]) hown (Tk.skip _ (Tk.same _)) (by omega) (fun s' H1 hown' => ?_)
         have hco':=hown'.co
         replace hgo:=hgo s' H1 hown'
         clear hown hown'
         repeat(refine A1 ⟨?_⟩;intros)
         exact hgo _ _ lfA (List.Sublist.cons _ (List.Sublist.refl _)))
  · have hke:k=ps.length:=by omega
    subst hke
    rw [List.take_length,hM]at hown
    have hl2:ps.length=M.length:=hMl.symm
    rw [hl2]at hown
    refine WP.rowS 8 hown rfl (by rw [List.append_nil]) ?_
    clear hK hown di
    repeat(first|(refine A1 ⟨?_⟩;intros)|refine W4 c3 ⟨?_⟩)
    exact E1
set_option maxHeartbeats 8000000 in
theorem rhalfF_pu {l m:Li}(hl:l.sm) (hm:m.sm) (side:Int) (hs:side=1∨side = -1):Pu Tryz.prog 205 [lq l,lq m,lit (.int .i64 side)] (Ab.tup [sps (halfS l m side).1,lit (.bool (halfS l m side).2)]):=by
 have d1:=rmeet_pu hl hm
 have hmt:=meetP_ht hl hm
 have hpt:=parL_ht hl hmt
 have h1:=ht_one
 unfold halfS
 by_cases h0:detL l m=0
 ·rw [if_pos h0]
  unfold meetL at d1
  rw [if_pos h0]at d1
  obtain⟨q1,q2⟩:=baseL_ht hl
  have d3:=rbase_pu hl.1 hl.2
  have d4:=rside_pu (l:=m) (p:=baseL l) hm ⟨by omega,by omega⟩
  simp only [Option.getD_none,Option.isSome_none]at d1
  have e4:ag (rpx (baseL l))=rp (l.bf*l.a) (l.bf*l.b):=rfl
  rw [e4]at d4
  clear hmt hpt q1 q2 e4 h0
  generalize sideL m (baseL l)=z at *
  by_cases hz:z=side
  ·rw [if_pos hz]
   subst hz
   by_cases z0:z=0
   ·omega
   ·rw [decide_eq_false z0]
    refine Pu.intro Tryz.func205 rfl (by kernel_rfl) fun C=>?_
    repeat(first|(refine Wo (ov_bsA (spx Spn.full) rfl) ?_)|(refine Wdo (ov_bsA (spx Spn.full) rfl) ?_)|(refine A1 ⟨?_⟩;intros)|refine W4 d1 ⟨?_⟩|refine W4 d3 ⟨?_⟩|refine W4 d4 ⟨?_⟩|refine W4 rfull_pu ⟨?_⟩)
    ((first|refine endR ?_|refine endN ?_);exact end2 (RV.tmp rfl) (RV.tmp rfl) (Le.refl _))
  ·rw [if_neg hz]
   by_cases z0:z=0
   ·rw [decide_eq_true z0]
    refine Pu.intro Tryz.func205 rfl (by kernel_rfl) fun C=>?_
    repeat(first|(refine A1 ⟨?_⟩;intros)|refine W4 d1 ⟨?_⟩|refine W4 d3 ⟨?_⟩|refine W4 d4 ⟨?_⟩)
    ((first|refine endR ?_|refine endN ?_);exact end2 (RV.tmp rfl) (RV.tmp rfl) (Le.tup2 le_nilS (Le.refl _)))
   ·rw [decide_eq_false z0]
    refine Pu.intro Tryz.func205 rfl (by kernel_rfl) fun C=>?_
    repeat(first|(refine A1 ⟨?_⟩;intros)|refine W4 d1 ⟨?_⟩|refine W4 d3 ⟨?_⟩|refine W4 d4 ⟨?_⟩)
    ((first|refine endR ?_|refine endN ?_);exact end2 (RV.tmp rfl) (RV.tmp rfl) (Le.tup2 le_nilS (Le.refl _)))
 ·rw [if_neg h0]
  unfold meetL at d1
  rw [if_neg h0]at d1
  simp only [Option.getD_some,Option.isSome_some]at d1
  have d3:=rparam_pu (l:=l) (p:=meetP l m) hl ⟨by have:=hmt.1;omega,by have:=hmt.2;omega⟩
  have ha:=ht_add (parL l (meetP l m)) 1
  have d4:=rplus_pu (parL l (meetP l m)) 1 (by omega) (by omega)
  have d5:=rat_pu (l:=l) (t:=parL l (meetP l m)+1) hl (by omega)
  have hat:=atL_ht (t:=parL l (meetP l m)+1) (n:=100) hl (by omega)
  have d6:=rside_pu (l:=m) (p:=atL l (parL l (meetP l m)+1)) hm ⟨by have:=hat.1;omega,by have:=hat.2;omega⟩
  clear hmt hpt ha hat h0
  generalize sideL m (atL l (parL l (meetP l m)+1))=z at *
  generalize atL l (parL l (meetP l m)+1)=q at *
  generalize parL l (meetP l m)+1=t1 at *
  generalize parL l (meetP l m)=t at *
  generalize meetP l m=mp at *
  by_cases hz:z=side
  ·rw [if_pos hz]
   refine Pu.intro Tryz.func205 rfl (by kernel_rfl) fun C=>?_
   repeat(first|(refine Wo (ov_bsA (rqx t++[lit (.bool false),lit (.slice none 0 0),lit (.slice none 0 0),lit (.bool false),lit (.bool true)]) rfl) ?_)|(refine Wdo (ov_bsA (rqx t++[lit (.bool false),lit (.slice none 0 0),lit (.slice none 0 0),lit (.bool false),lit (.bool true)]) rfl) ?_)|(refine A1 ⟨?_⟩;intros)|refine W4 d1 ⟨?_⟩|refine W4 d3 ⟨?_⟩|refine W4 d4 ⟨?_⟩|refine W4 d5 ⟨?_⟩|refine W4 d6 ⟨?_⟩|refine W4 rof1 ⟨?_⟩)
   ((first|refine endR ?_|refine endN ?_);exact end2 (RV.tmp rfl) (RV.tmp rfl) (Le.tup2 (le_slR (b:=spx ⟨t,0,false,true⟩) ⟨Le.refl _,Le.refl _,Le.refl _,Le.refl _,leN0,leD0,Le.refl _,Le.refl _,trivial⟩) (Le.refl _)))
  ·rw [if_neg hz]
   refine Pu.intro Tryz.func205 rfl (by kernel_rfl) fun C=>?_
   repeat(first|(refine Wo (ov_bsA ([lit (.bool false),lit (.slice none 0 0),lit (.slice none 0 0)]++rqx t++[lit (.bool true),lit (.bool false)]) rfl) ?_)|(refine Wdo (ov_bsA ([lit (.bool false),lit (.slice none 0 0),lit (.slice none 0 0)]++rqx t++[lit (.bool true),lit (.bool false)]) rfl) ?_)|(refine A1 ⟨?_⟩;intros)|refine W4 d1 ⟨?_⟩|refine W4 d3 ⟨?_⟩|refine W4 d4 ⟨?_⟩|refine W4 d5 ⟨?_⟩|refine W4 d6 ⟨?_⟩|refine W4 rof1 ⟨?_⟩)
   ((first|refine endR ?_|refine endN ?_);exact end2 (RV.tmp rfl) (RV.tmp rfl) (Le.tup2 (le_slR (b:=spx ⟨0,t,true,false⟩) ⟨Le.refl _,leN0,leD0,Le.refl _,Le.refl _,Le.refl _,Le.refl _,Le.refl _,trivial⟩) (Le.refl _)))
abbrev fqx (f:Fg):List SV:=lqx f.1++spx f.2
theorem fqx_len (f:Fg):(fqx f).length=14:=rfl
abbrev fqs (l:List Fg):SV:=sl (l.map fqx).flatten l.length
theorem list_one {α:Type}{l:List α}(h:l.length≤1):l=[]∨∃x,l=[x]:=by
 match l,h with
 | [],_=>exact .inl rfl
 | [x],_=>exact .inr ⟨x,rfl⟩
theorem le_nilX:Le (lit (.slice none 0 0)) (xsl [] 0):=fun m v h=>by
 rw [lit_p]at h
 subst h
 unfold xsl
 exact⟨none,rfl,by simp only [maxLen];omega,fun _=>rfl, .inl rfl⟩
theorem le_fqsN:Le (lit (.slice none 0 0)) (fqs []):=le_nilS
set_option maxHeartbeats 16000000 in
theorem rsplit_pu {L:List Li}{f:Fg}{m:Li}(hf:FgG L f) (hl:f.1.sm) (hm:m.sm) (hv:f.2.le 46):Pu Tryz.prog 152 [ag (fqx f),lq m] (Ab.tup [fqs (splitF f m).1,fqs (splitF f m).2]):=by
 have d1:=rhalfF_pu hl hm 1 (.inl rfl)
 have d2:=rhalfF_pu hl hm (-1) (.inr rfl)
 have hsl:=split_len (m:=m) hf
 have hd:(halfS f.1 m (-1)).2=(halfS f.1 m 1).2:=by unfold halfS;split <;> (try rfl);split <;> split <;> rfl
 have hh:∀side,(halfS f.1 m side).1.length≤1∧∀s∈(halfS f.1 m side).1,s.le 10000:=fun side=>by
  have h0:=ht_zero
  have hmt:=meetP_ht hl hm
  have hpt:=parL_ht hl hmt
  unfold halfS
  split
  ·split
   ·exact⟨Nat.le_refl _,fun s hs=>by rw [List.mem_singleton.1 hs];exact⟨by show ht 0≤_;omega,by show ht 0≤_;omega⟩⟩
   ·exact⟨by simp,fun s hs=>by cases hs⟩
  ·split
   ·exact⟨Nat.le_refl _,fun s hs=>by rw [List.mem_singleton.1 hs];exact⟨by simp only;omega,by show ht 0≤_;omega⟩⟩
   ·exact⟨Nat.le_refl _,fun s hs=>by rw [List.mem_singleton.1 hs];exact⟨by show ht 0≤_;omega,by simp only;omega⟩⟩
 have e1:=rcombine_pu 2 (.inr rfl) [f.2] (halfS f.1 m 1).1 (by simp) (by simp) (by have:=(hh 1).1;omega) (fun s hs=>by rw [List.mem_singleton.1 hs];exact⟨by have:=hv.1;omega,by have:=hv.2;omega⟩) (hh 1).2
 have e2:=rcombine_pu 2 (.inr rfl) [f.2] (halfS f.1 m (-1)).1 (by simp) (by simp) (by have:=(hh (-1)).1;omega) (fun s hs=>by rw [List.mem_singleton.1 hs];exact⟨by have:=hv.1;omega,by have:=hv.2;omega⟩) (hh (-1)).2
 rw [hd]at d2
 unfold splitF at hsl⊢
 clear hh hd
 generalize(halfS f.1 m 1).2=on at *
 generalize combS 2 [f.2] (halfS f.1 m 1).1=A at *
 generalize combS 2 [f.2] (halfS f.1 m (-1)).1=B at *
 generalize(halfS f.1 m 1).1=hA at *
 generalize(halfS f.1 m (-1)).1=hB at *
 obtain⟨l,s⟩:=f
 simp only at *
 cases on with
 |true =>
  rw [if_pos rfl]
  clear hsl e1 e2 hf hv d2
  refine Pu.intro Tryz.func152 rfl (by kernel_rfl) fun C=>?_
  repeat(first|(refine Wo (ov_boxP (sv:=ag _) rfl) ?_)|(refine Wdo (ov_boxP (sv:=ag _) rfl) ?_)|(refine Wo (ov_bsK (r:=[(0,[lit (.int .i64 1)]),(1,[lit (.int .i64 (-1))])]) (cs:=[lit (.int .i64 1),lit (.int .i64 (-1))]) (.cons (sv:=lit (.int .i64 1)) rfl inferInstance (.cons (sv:=lit (.int .i64 (-1))) rfl inferInstance .nil))) ?_)|(refine Wdo (ov_bsK (r:=[(0,[lit (.int .i64 1)]),(1,[lit (.int .i64 (-1))])]) (cs:=[lit (.int .i64 1),lit (.int .i64 (-1))]) (.cons (sv:=lit (.int .i64 1)) rfl inferInstance (.cons (sv:=lit (.int .i64 (-1))) rfl inferInstance .nil))) ?_)|(refine A1 ⟨?_⟩;intros))
  refine WP.unroll 1 (WPR.succ ?_)
  repeat(refine A1 ⟨?_⟩;intros)
  refine Wo (ov_idxS (cs':=[lit (.int .i64 1)]) rfl rfl (by decide) (by decide) rfl (fun h=>by cases h)) ?_
  repeat(first|(refine A1 ⟨?_⟩;intros)|refine W4 d1 ⟨?_⟩)
  ((first|refine endR ?_|refine endN ?_);exact end2 (RV.tmp rfl) (RV.tmp rfl) (Le.tup2 le_fqsN le_fqsN))
 |false =>
  rw [if_neg (by decide)]at hsl⊢
  simp only at hsl
  rw [List.length_map,List.length_map]at hsl
  obtain⟨h1,h2⟩:=hsl
  refine Pu.intro Tryz.func152 rfl (by kernel_rfl) fun C=>?_
  repeat(first|(refine Wo (ov_boxP (sv:=ag _) rfl) ?_)|(refine Wdo (ov_boxP (sv:=ag _) rfl) ?_)|(refine Wo (ov_bsK (r:=[(0,[lit (.int .i64 1)]),(1,[lit (.int .i64 (-1))])]) (cs:=[lit (.int .i64 1),lit (.int .i64 (-1))]) (.cons (sv:=lit (.int .i64 1)) rfl inferInstance (.cons (sv:=lit (.int .i64 (-1))) rfl inferInstance .nil))) ?_)|(refine Wdo (ov_bsK (r:=[(0,[lit (.int .i64 1)]),(1,[lit (.int .i64 (-1))])]) (cs:=[lit (.int .i64 1),lit (.int .i64 (-1))]) (.cons (sv:=lit (.int .i64 1)) rfl inferInstance (.cons (sv:=lit (.int .i64 (-1))) rfl inferInstance .nil))) ?_)|(refine A1 ⟨?_⟩;intros))
  replace e1:Pu Tryz.prog 153 [lit (.int .i64 2),sl (spx s) 1,sps hA] (sps A):=e1
  replace e2:Pu Tryz.prog 153 [lit (.int .i64 2),sl (spx s) 1,sps hB] (sps B):=e2
  have l0:([]:List Spn).length=0:=rfl
  have l1:∀w:Spn,[w].length=1:=fun _=>rfl
  clear hf hv hl hm
  obtain rfl|⟨w,rfl⟩:=list_one h1
  ·obtain rfl|⟨u,rfl⟩:=list_one h2
   ·refine WP.unroll 3 (WPR.succ ?_)
    repeat(refine A1 ⟨?_⟩;intros)
    refine WPL.lowB (cs':=[xsl [] 0,xsl [] 0]) (.here _) ⟨le_nilX,le_nilX,trivial⟩ ?_
    refine Wo (ov_idxS (cs':=[lit (.int .i64 1)]) rfl rfl (by decide) (by decide) rfl (fun h=>by cases h)) ?_
    repeat(first|(refine Wo (ov_bsA (spx s) rfl) ?_)|(refine Wdo (ov_bsA (spx s) rfl) ?_)|(refine A1 ⟨?_⟩;intros)|refine W4 d1 ⟨?_⟩|refine W4 e1 ⟨?_⟩)
    refine WP.unroll 1 (WPR.succ ?_)
    repeat(refine A1 ⟨?_⟩;intros)
    refine Wo (ov_idxS (cs':=[lit (.int .i64 (-1))]) rfl rfl (by decide) (by decide) rfl (fun h=>by cases h)) ?_
    repeat(first|(refine Wo (ov_bsA (spx s) rfl) ?_)|(refine Wdo (ov_bsA (spx s) rfl) ?_)|(refine A1 ⟨?_⟩;intros)|refine W4 d2 ⟨?_⟩|refine W4 e2 ⟨?_⟩)
    refine WP.unroll 1 (WPR.succ ?_)
    repeat(refine A1 ⟨?_⟩;intros)
    refine Wdo (ov_idxA (e:=213) (len:=2) (by kernel_rfl) rfl rfl (by omega) (by omega)) ?_
    repeat(refine A1 ⟨?_⟩;intros)
    refine Wdo (ov_idxA (e:=213) (len:=2) (by kernel_rfl) rfl rfl (by omega) (by omega)) ?_
    repeat(refine A1 ⟨?_⟩;intros)
    exact endR (end2 (RV.tmp rfl) (RV.tmp rfl) (Le.tup2 le_xsl le_xsl))
   ·refine WP.unroll 3 (WPR.succ ?_)
    have lw:=l1 u
    repeat(refine A1 ⟨?_⟩;intros)
    refine WPL.lowB (cs':=[xsl [] 0,xsl [] 0]) (.here _) ⟨le_nilX,le_nilX,trivial⟩ ?_
    refine Wo (ov_idxS (cs':=[lit (.int .i64 1)]) rfl rfl (by decide) (by decide) rfl (fun h=>by cases h)) ?_
    repeat(first|(refine Wo (ov_bsA (spx s) rfl) ?_)|(refine Wdo (ov_bsA (spx s) rfl) ?_)|(refine A1 ⟨?_⟩;intros)|refine W4 d1 ⟨?_⟩|refine W4 e1 ⟨?_⟩)
    refine WP.unroll 1 (WPR.succ ?_)
    repeat(refine A1 ⟨?_⟩;intros)
    refine Wo (ov_idxS (cs':=[lit (.int .i64 (-1))]) rfl rfl (by decide) (by decide) rfl (fun h=>by cases h)) ?_
    repeat(first|(refine Wo (ov_bsA (spx s) rfl) ?_)|(refine Wdo (ov_bsA (spx s) rfl) ?_)|(refine A1 ⟨?_⟩;intros)|refine W4 d2 ⟨?_⟩|refine W4 e2 ⟨?_⟩)
    refine WP.unroll 2 (WPR.succ ?_)
    repeat(refine A1 ⟨?_⟩;intros)
    refine Wo (ov_idxS (cs':=spx u) rfl rfl (by omega) (by omega) rfl (fun h=>by cases h)) ?_
    repeat(first|(refine AS ⟨?_⟩;intros)|(refine O1 ⟨?_⟩;intros))
    refine WdN 10 ?_
    repeat(refine A1 ⟨?_⟩;intros)
    refine Wdo (ov_idxA (e:=213) (len:=2) (by kernel_rfl) rfl rfl (by omega) (by omega)) ?_
    repeat(first|(refine Wo (ov_bsA (fqx (l,u)) rfl) ?_)|(refine Wdo (ov_bsA (fqx (l,u)) rfl) ?_)|(refine Wo (ov_appXK (k:=0) (k0:=1) (ds:=fqx (l,u)) rfl rfl rfl rfl (by omega)) ?_)|(refine Wdo (ov_appXK (k:=0) (k0:=1) (ds:=fqx (l,u)) rfl rfl rfl rfl (by omega)) ?_)|(refine A1 ⟨?_⟩;intros))
    refine Wo (ov_idxA (e:=213) (len:=2) (by kernel_rfl) rfl rfl (by omega) (by omega)) ?_
    repeat(refine A1 ⟨?_⟩;intros)
    refine Wdo (ov_idxA (e:=213) (len:=2) (by kernel_rfl) rfl rfl (by omega) (by omega)) ?_
    repeat(refine A1 ⟨?_⟩;intros)
    refine Wdo (ov_idxA (e:=213) (len:=2) (by kernel_rfl) rfl rfl (by omega) (by omega)) ?_
    repeat(refine A1 ⟨?_⟩;intros)
    exact endR (end2 (RV.tmp rfl) (RV.tmp rfl) (Le.tup2 le_xsl (Le.refl _)))
  ·obtain rfl|⟨u,rfl⟩:=list_one h2
   ·refine WP.unroll 3 (WPR.succ ?_)
    have lw:=l1 w
    repeat(refine A1 ⟨?_⟩;intros)
    refine WPL.lowB (cs':=[xsl [] 0,xsl [] 0]) (.here _) ⟨le_nilX,le_nilX,trivial⟩ ?_
    refine Wo (ov_idxS (cs':=[lit (.int .i64 1)]) rfl rfl (by decide) (by decide) rfl (fun h=>by cases h)) ?_
    repeat(first|(refine Wo (ov_bsA (spx s) rfl) ?_)|(refine Wdo (ov_bsA (spx s) rfl) ?_)|(refine A1 ⟨?_⟩;intros)|refine W4 d1 ⟨?_⟩|refine W4 e1 ⟨?_⟩)
    refine WP.unroll 2 (WPR.succ ?_)
    repeat(refine A1 ⟨?_⟩;intros)
    refine Wo (ov_idxS (cs':=spx w) rfl rfl (by omega) (by omega) rfl (fun h=>by cases h)) ?_
    repeat(first|(refine AS ⟨?_⟩;intros)|(refine O1 ⟨?_⟩;intros))
    refine WdN 10 ?_
    repeat(refine A1 ⟨?_⟩;intros)
    refine Wdo (ov_idxA (e:=213) (len:=2) (by kernel_rfl) rfl rfl (by omega) (by omega)) ?_
    repeat(first|(refine Wo (ov_bsA (fqx (l,w)) rfl) ?_)|(refine Wdo (ov_bsA (fqx (l,w)) rfl) ?_)|(refine Wo (ov_appXK (k:=0) (k0:=1) (ds:=fqx (l,w)) rfl rfl rfl rfl (by omega)) ?_)|(refine Wdo (ov_appXK (k:=0) (k0:=1) (ds:=fqx (l,w)) rfl rfl rfl rfl (by omega)) ?_)|(refine A1 ⟨?_⟩;intros))
    refine Wo (ov_idxA (e:=213) (len:=2) (by kernel_rfl) rfl rfl (by omega) (by omega)) ?_
    repeat(refine A1 ⟨?_⟩;intros)
    refine Wo (ov_idxS (cs':=[lit (.int .i64 (-1))]) rfl rfl (by decide) (by decide) rfl (fun h=>by cases h)) ?_
    repeat(first|(refine Wo (ov_bsA (spx s) rfl) ?_)|(refine Wdo (ov_bsA (spx s) rfl) ?_)|(refine A1 ⟨?_⟩;intros)|refine W4 d2 ⟨?_⟩|refine W4 e2 ⟨?_⟩)
    refine WP.unroll 1 (WPR.succ ?_)
    repeat(refine A1 ⟨?_⟩;intros)
    refine Wdo (ov_idxA (e:=213) (len:=2) (by kernel_rfl) rfl rfl (by omega) (by omega)) ?_
    repeat(refine A1 ⟨?_⟩;intros)
    refine Wdo (ov_idxA (e:=213) (len:=2) (by kernel_rfl) rfl rfl (by omega) (by omega)) ?_
    repeat(refine A1 ⟨?_⟩;intros)
    exact endR (end2 (RV.tmp rfl) (RV.tmp rfl) (Le.tup2 (Le.refl _) le_xsl))
   ·refine WP.unroll 3 (WPR.succ ?_)
    have lw:=l1 w
    have lw:=l1 u
    repeat(refine A1 ⟨?_⟩;intros)
    refine WPL.lowB (cs':=[xsl [] 0,xsl [] 0]) (.here _) ⟨le_nilX,le_nilX,trivial⟩ ?_
    refine Wo (ov_idxS (cs':=[lit (.int .i64 1)]) rfl rfl (by decide) (by decide) rfl (fun h=>by cases h)) ?_
    repeat(first|(refine Wo (ov_bsA (spx s) rfl) ?_)|(refine Wdo (ov_bsA (spx s) rfl) ?_)|(refine A1 ⟨?_⟩;intros)|refine W4 d1 ⟨?_⟩|refine W4 e1 ⟨?_⟩)
    refine WP.unroll 2 (WPR.succ ?_)
    repeat(refine A1 ⟨?_⟩;intros)
    refine Wo (ov_idxS (cs':=spx w) rfl rfl (by omega) (by omega) rfl (fun h=>by cases h)) ?_
    repeat(first|(refine AS ⟨?_⟩;intros)|(refine O1 ⟨?_⟩;intros))
    refine WdN 10 ?_
    repeat(refine A1 ⟨?_⟩;intros)
    refine Wdo (ov_idxA (e:=213) (len:=2) (by kernel_rfl) rfl rfl (by omega) (by omega)) ?_
    repeat(first|(refine Wo (ov_bsA (fqx (l,w)) rfl) ?_)|(refine Wdo (ov_bsA (fqx (l,w)) rfl) ?_)|(refine Wo (ov_appXK (k:=0) (k0:=1) (ds:=fqx (l,w)) rfl rfl rfl rfl (by omega)) ?_)|(refine Wdo (ov_appXK (k:=0) (k0:=1) (ds:=fqx (l,w)) rfl rfl rfl rfl (by omega)) ?_)|(refine A1 ⟨?_⟩;intros))
    refine Wo (ov_idxA (e:=213) (len:=2) (by kernel_rfl) rfl rfl (by omega) (by omega)) ?_
    repeat(refine A1 ⟨?_⟩;intros)
    refine Wo (ov_idxS (cs':=[lit (.int .i64 (-1))]) rfl rfl (by decide) (by decide) rfl (fun h=>by cases h)) ?_
    repeat(first|(refine Wo (ov_bsA (spx s) rfl) ?_)|(refine Wdo (ov_bsA (spx s) rfl) ?_)|(refine A1 ⟨?_⟩;intros)|refine W4 d2 ⟨?_⟩|refine W4 e2 ⟨?_⟩)
    refine WP.unroll 2 (WPR.succ ?_)
    repeat(refine A1 ⟨?_⟩;intros)
    refine Wo (ov_idxS (cs':=spx u) rfl rfl (by omega) (by omega) rfl (fun h=>by cases h)) ?_
    repeat(first|(refine AS ⟨?_⟩;intros)|(refine O1 ⟨?_⟩;intros))
    refine WdN 10 ?_
    repeat(refine A1 ⟨?_⟩;intros)
    refine Wdo (ov_idxA (e:=213) (len:=2) (by kernel_rfl) rfl rfl (by omega) (by omega)) ?_
    repeat(first|(refine Wo (ov_bsA (fqx (l,u)) rfl) ?_)|(refine Wdo (ov_bsA (fqx (l,u)) rfl) ?_)|(refine Wo (ov_appXK (k:=0) (k0:=1) (ds:=fqx (l,u)) rfl rfl rfl rfl (by omega)) ?_)|(refine Wdo (ov_appXK (k:=0) (k0:=1) (ds:=fqx (l,u)) rfl rfl rfl rfl (by omega)) ?_)|(refine A1 ⟨?_⟩;intros))
    refine Wo (ov_idxA (e:=213) (len:=2) (by kernel_rfl) rfl rfl (by omega) (by omega)) ?_
    repeat(refine A1 ⟨?_⟩;intros)
    refine Wdo (ov_idxA (e:=213) (len:=2) (by kernel_rfl) rfl rfl (by omega) (by omega)) ?_
    repeat(refine A1 ⟨?_⟩;intros)
    refine Wdo (ov_idxA (e:=213) (len:=2) (by kernel_rfl) rfl rfl (by omega) (by omega)) ?_
    repeat(refine A1 ⟨?_⟩;intros)
    exact endR (end2 (RV.tmp rfl) (RV.tmp rfl) (Le.tup2 (Le.refl _) (Le.refl _)))
theorem rsegment_pu {p q:Pq}(hp:Iq p) (hq:Iq q) (h:p≠q):Pu Tryz.prog 197 [ag (rpx p),ag (rpx q)] (Ab.tup [ag (fqx (segF p q)),lit (.bool true)]):=by
 have hl:=seg_li hp hq h
 have b1:=hp.ht
 have b2:=hq.ht
 have hne:q.1-p.1≠0∨q.2-p.2≠0:=by
  by_cases h1:q.1-p.1=0
  ·right;intro h2;exact h (Prod.ext (by grind) (by grind))
  ·exact .inl h1
 have c1:=through_pu (x:=p.1) (y:=p.2) (u:=q.1) (v:=q.2) (L:=10) (by omega) (by omega) (by omega) (by omega) (by omega) hne
 have c2:=rparam_pu (l:=thr p.1 p.2 q.1 q.2) (p:=p) hl ⟨by omega,by omega⟩
 have c3:=rparam_pu (l:=thr p.1 p.2 q.1 q.2) (p:=q) hl ⟨by omega,by omega⟩
 unfold segF
 clear hl b1 b2 hne
 generalize thr p.1 p.2 q.1 q.2=l at *
 generalize parL l p=s at *
 generalize parL l q=t at *
 refine Pu.intro Tryz.func197 rfl (by kernel_rfl) fun C=>?_
 repeat(first|(refine A1 ⟨?_⟩;intros)|refine W4 c1 ⟨?_⟩|refine W4 c2 ⟨?_⟩|refine W4 c3 ⟨?_⟩)
 ((first|refine endR ?_|refine endN ?_);exact end2 RVa (RV.tmp rfl) (Le.refl _))
theorem edgR_get {l:List Pq}{k:Nat}(h:k<l.length):(edgR l)[k]? = some (segF (l.getD k (0,0)) (l.getD ((k+1)%l.length) (0,0))):=by
 unfold edgR
 rw [List.getElem?_map,List.getElem?_range h];rfl
theorem rps_at {l:List Pq}{k:Nat}(h:k<l.length):(((l.map rpx).flatten).drop (k*6)).take 6=rpx (l.getD k (0,0)):=flat_at (f:=rpx) (n:=6) rpx_len (by rw [List.getD,List.getElem?_eq_getElem h];rfl)
set_option maxHeartbeats 8000000 in
theorem redges_pu {l:List Pq}(h:rgOk l):Pu Tryz.prog 131 [rps l] (fqs (edgR l)):=by
 have hel:=edgR_len l
 have h6:=h.1
 refine Pu.intro Tryz.func131 rfl (by kernel_rfl) fun C=>?_
 repeat(refine A1 ⟨?_⟩;intros)
 refine WP.loopS (ι:=PrSt) (fun y=>y.k≤l.length∧Own fT 14 y.k (((edgR l).take y.k).map fqx).flatten y.s y.Hs) (fun y=>l.length-y.k)
  (fun y=>fm [(0,rps l),(3,y.s),(7,rps l),(8,lit (.int .i64 l.length)),(9,lit (.int .i64 y.k))]) (fun y=>y.Hs) ⟨0,lit (.slice none 0 0),[]⟩
  ⟨Nat.zero_le _,Own.nil _ _⟩ lfA (List.nil_sublist _) ?_
 rintro ⟨k,s,Hs⟩ ⟨hk,hown⟩ K hK
 simp only at hk hown⊢
 have hco:=hown.co
 by_cases hkl:k<l.length
 ·obtain⟨g1,g2,g3⟩:=rg_get h hkl
  have c:=rsegment_pu g1 g2 g3
  have hget:=edgR_get hkl
  have hml:(k+1)%l.length<l.length:=Nat.mod_lt _ (by omega)
  have hat:=rps_at hkl
  have hat2:=rps_at hml
  have hne:(l.map rpx).flatten≠[]:=flat_ne rpx_len (by omega) (fun e=>by rw [e]at hkl;simp at hkl)
  have htm:((k:Int)+1).tmod (l.length:Int)=(((k+1)%l.length:Nat):Int):=rfl
  have htm1:0≤((k:Int)+1).tmod (l.length:Int):=by rw [htm];omega
  have htm2:((k:Int)+1).tmod (l.length:Int)<(l.length:Int):=by rw [htm];exact_mod_cast hml
  have hat2':(((l.map rpx).flatten).drop ((((k:Int)+1).tmod (l.length:Int)).toNat*6)).take 6=rpx (l.getD ((k+1)%l.length) (0,0)):=by rw [htm];exact hat2
  have hgo:=fun s' Hs' h F' H'=>hK F' H' ⟨k+1,s',Hs'⟩ ⟨by simp only;omega,h⟩ (by simp only;omega)
  simp only [map_take_snoc hget]at hgo
  clear hK h htm hat2 hget hel
  generalize segF (l.getD k (0,0)) (l.getD ((k+1)%l.length) (0,0))=f at *
  generalize l.getD ((k+1)%l.length) (0,0)=q at *
  generalize l.getD k (0,0)=p at *
  repeat(first|(refine AS ⟨?_⟩;intros)|(refine O1 ⟨?_⟩;intros))
  refine WdL 17 1 ?_
  repeat(refine A1 ⟨?_⟩;intros)
  refine Wdo (ov_idxS (cs':=rpx p) rfl rfl (by omega) (by omega) hat hne) ?_
  repeat(refine A1 ⟨?_⟩;intros)
  refine Wdo (ov_idxS (cs':=rpx q) rfl rfl htm1 htm2 hat2' hne) ?_
  repeat(first|(refine A1 ⟨?_⟩;intros)|refine W4 c ⟨?_⟩)
  refine dL1 fun b5=>?_
  refine Gs (sv:=ag (fqx f)) (cs':=fqx f) rfl rfl rfl (.here _) rfl rfl ?_ ?_
  ·(repeat(first|exact LOk.nil|refine Lsk ?_|refine Lcv ?_))
  refine Gn ?_ ?_
  ·(repeat(first|exact LOk.nil|refine Lsk ?_|refine Lcv ?_))
  repeat(first|(refine Wo (ov_bsA (fqx f) rfl) ?_)|(refine Wdo (ov_bsA (fqx f) rfl) ?_)|(refine A1 ⟨?_⟩;intros))
  refine WownS (ds:=fqx f) hown (Tk.skip _ (Tk.same _)) (by omega) (fun s' H1 hown'=>?_)
  have hco':=hown'.co
  replace hgo:=hgo s' H1 hown'
  clear hown hown'
  repeat(refine A1 ⟨?_⟩;intros)
  exact hgo _ _ lfA (List.Sublist.cons _ (List.Sublist.refl _))
 ·have hke:k=l.length:=by omega
  subst hke
  have hl2:l.length=(edgR l).length:=hel.symm
  rw [hl2,List.take_length]at hown
  refine WP.rowS 3 hown rfl (by rw [List.append_nil]) ?_
  clear hK hown
  repeat(refine A1 ⟨?_⟩;intros)
  exact E1
def numStep (l:List Pq) (p:Pq) (n:Int) (i:Nat):Int :=
 if((l.getD i (0,0)).2-p.2).num.sign≤0 then
  (if((l.getD ((i+1)%l.length) (0,0)).2-p.2).num.sign≤0 then n else if 0<orientP (l.getD i (0,0)) (l.getD ((i+1)%l.length) (0,0)) p then n+1 else n)
 else(if((l.getD ((i+1)%l.length) (0,0)).2-p.2).num.sign≤0 then(if orientP (l.getD i (0,0)) (l.getD ((i+1)%l.length) (0,0)) p<0 then n-1 else n)else n)
def numL (l:List Pq) (p:Pq):Int:=(List.range l.length).foldl (numStep l p) 0
theorem numStep_abs (l:List Pq) (p:Pq) (n:Int) (i:Nat):(numStep l p n i).natAbs≤n.natAbs+1:=by
 unfold numStep
 split <;> split <;> (try split) <;> omega
theorem numF_abs (l:List Pq) (p:Pq):∀k:Nat,((List.range k).foldl (numStep l p) 0).natAbs≤k
 |0=>Nat.le_refl _
 |k+1=>by
  have:=numF_abs l p k
  have:=numStep_abs l p ((List.range k).foldl (numStep l p) 0) k
  rw [List.range_succ,List.foldl_append]
  show(numStep l p _ k).natAbs≤k+1
  omega
theorem numL_abs (l:List Pq) (p:Pq):(numL l p).natAbs≤l.length:=numF_abs l p l.length
set_option maxHeartbeats 16000000 in
theorem rnumber_pu {l:List Pq}{p:Pq}(hl:l.length≤100000) (hh:∀q∈l,hp q 900) (hp':hp p 900):Pu Tryz.prog 254 [rps l,ag (rpx p)] (lit (.int .i64 (numL l p))):=by
 unfold numL
 obtain⟨p1,p2⟩:=hp'
 refine Pu.intro Tryz.func254 rfl (by kernel_rfl) fun C=>?_
 repeat(first|(refine Wo (ov_boxP (sv:=ag _) rfl) ?_)|(refine Wdo (ov_boxP (sv:=ag _) rfl) ?_)|(refine A1 ⟨?_⟩;intros))
 refine WP.loopS (ι:=Nat×Int) (fun y=>y.1≤l.length∧y.2=(List.range y.1).foldl (numStep l p) 0) (fun y=>l.length-y.1)
  (fun y=>fm [(0,rps l),(3,pt (rpx p)),(5,lit (.int .i64 y.2)),(11,rps l),(12,lit (.int .i64 l.length)),(13,lit (.int .i64 y.1))]) (fun _=>[]) (0,0)
  ⟨Nat.zero_le _,rfl⟩ lfA (List.nil_sublist _) ?_
 rintro ⟨k,z⟩ ⟨hk,hz⟩ K hK
 simp only at hk hz⊢
 by_cases hkl:k<l.length
 ·have hgo:=fun F' H'=>hK F' H' (k+1,numStep l p z k) ⟨by simp only;omega,by rw [List.range_succ,List.foldl_append,←hz];rfl⟩ (by simp only;omega)
  have hza:=numF_abs l p k
  rw [←hz]at hza
  have hml:(k+1)%l.length<l.length:=Nat.mod_lt _ (by omega)
  have hat:=rps_at hkl
  have hat2:=rps_at hml
  have m1:l.getD k (0,0)∈l:=List.mem_of_getElem? (i:=k) (by rw [List.getD,List.getElem?_eq_getElem hkl];rfl)
  have m2:l.getD ((k+1)%l.length) (0,0)∈l:=List.mem_of_getElem? (i:=(k+1)%l.length) (by rw [List.getD,List.getElem?_eq_getElem hml];rfl)
  have hne:(l.map rpx).flatten≠[]:=flat_ne rpx_len (by omega) (fun e=>by rw [e]at hkl;simp at hkl)
  have htm:((k:Int)+1).tmod (l.length:Int)=(((k+1)%l.length:Nat):Int):=rfl
  have htm1:0≤((k:Int)+1).tmod (l.length:Int):=by rw [htm];omega
  have htm2:((k:Int)+1).tmod (l.length:Int)<(l.length:Int):=by rw [htm];exact_mod_cast hml
  have hat2':(((l.map rpx).flatten).drop ((((k:Int)+1).tmod (l.length:Int)).toNat*6)).take 6=rpx (l.getD ((k+1)%l.length) (0,0)):=by rw [htm];exact hat2
  have v1:=hh _ m1
  have v2:=hh _ m2
  unfold numStep at hgo
  clear hK hh hz htm hat2 m1 m2
  generalize l.getD ((k+1)%l.length) (0,0)=w at *
  generalize l.getD k (0,0)=v at *
  obtain⟨a1,a2⟩:=v1
  obtain⟨a3,a4⟩:=v2
  have c1:=rc_pu v.2 p.2 (by omega) (by omega)
  have c2:=rc_pu w.2 p.2 (by omega) (by omega)
  have c3:=rorient_pu v w p ⟨by omega,by omega⟩ ⟨by omega,by omega⟩ ⟨by omega,by omega⟩
  generalize(v.2-p.2).num.sign=za at *
  generalize(w.2-p.2).num.sign=zb at *
  generalize orientP v w p=zo at *
  clear a1 a2 a3 a4 p1 p2
  by_cases ha:za≤0
  ·rw [if_pos ha]at hgo
   by_cases hb:zb≤0
   ·rw [if_pos hb]at hgo
    repeat(first|(refine AS ⟨?_⟩;intros)|(refine O1 ⟨?_⟩;intros))
    refine WdL 14 1 ?_
    repeat(refine A1 ⟨?_⟩;intros)
    refine Wdo (ov_idxS (cs':=rpx v) rfl rfl (by omega) (by omega) hat hne) ?_
    repeat(refine A1 ⟨?_⟩;intros)
    refine Wdo (ov_idxS (cs':=rpx w) rfl rfl htm1 htm2 hat2' hne) ?_
    repeat(refine A1 ⟨?_⟩;intros)
    refine dL2 fun b7 b8=>?_
    refine Gs (sv:=ag (rpx v)) (cs':=rpx v) rfl rfl rfl (by first|exact .here _|exact .there _ (.here _)) rfl rfl ?_ ?_
    ·((repeat(first|exact LOk.nil|refine Lsk ?_|refine Lcv ?_));refine Lcv ?_ (ov_idxS (cs':=rpx w) rfl rfl htm1 htm2 hat2' hne);(repeat(first|exact LOk.nil|refine Lsk ?_|refine Lcv ?_)))
    refine Gn ?_ ?_
    ·((repeat(first|exact LOk.nil|refine Lsk ?_|refine Lcv ?_));refine Lcv ?_ (ov_idxS (cs':=rpx w) rfl rfl htm1 htm2 hat2' hne);(repeat(first|exact LOk.nil|refine Lsk ?_|refine Lcv ?_)))
    repeat(first|(refine A1 ⟨?_⟩;intros)|refine W4 c1 ⟨?_⟩|refine W4 c2 ⟨?_⟩|refine W4 c3 ⟨?_⟩)
    exact hgo _ _ lfA (List.nil_sublist _)
   ·rw [if_neg hb]at hgo
    by_cases ho:0<zo
    ·rw [if_pos ho]at hgo
     repeat(first|(refine AS ⟨?_⟩;intros)|(refine O1 ⟨?_⟩;intros))
     refine WdL 14 1 ?_
     repeat(refine A1 ⟨?_⟩;intros)
     refine Wdo (ov_idxS (cs':=rpx v) rfl rfl (by omega) (by omega) hat hne) ?_
     repeat(refine A1 ⟨?_⟩;intros)
     refine Wdo (ov_idxS (cs':=rpx w) rfl rfl htm1 htm2 hat2' hne) ?_
     repeat(refine A1 ⟨?_⟩;intros)
     refine dL2 fun b7 b8=>?_
     refine Gs (sv:=ag (rpx v)) (cs':=rpx v) rfl rfl rfl (by first|exact .here _|exact .there _ (.here _)) rfl rfl ?_ ?_
     ·((repeat(first|exact LOk.nil|refine Lsk ?_|refine Lcv ?_));refine Lcv ?_ (ov_idxS (cs':=rpx w) rfl rfl htm1 htm2 hat2' hne);(repeat(first|exact LOk.nil|refine Lsk ?_|refine Lcv ?_)))
     refine Gn ?_ ?_
     ·((repeat(first|exact LOk.nil|refine Lsk ?_|refine Lcv ?_));refine Lcv ?_ (ov_idxS (cs':=rpx w) rfl rfl htm1 htm2 hat2' hne);(repeat(first|exact LOk.nil|refine Lsk ?_|refine Lcv ?_)))
     repeat(first|(refine A1 ⟨?_⟩;intros)|refine W4 c1 ⟨?_⟩|refine W4 c2 ⟨?_⟩|refine W4 c3 ⟨?_⟩)
     exact hgo _ _ lfA (List.nil_sublist _)
    ·rw [if_neg ho]at hgo
     repeat(first|(refine AS ⟨?_⟩;intros)|(refine O1 ⟨?_⟩;intros))
     refine WdL 14 1 ?_
     repeat(refine A1 ⟨?_⟩;intros)
     refine Wdo (ov_idxS (cs':=rpx v) rfl rfl (by omega) (by omega) hat hne) ?_
     repeat(refine A1 ⟨?_⟩;intros)
     refine Wdo (ov_idxS (cs':=rpx w) rfl rfl htm1 htm2 hat2' hne) ?_
     repeat(refine A1 ⟨?_⟩;intros)
     refine dL2 fun b7 b8=>?_
     refine Gs (sv:=ag (rpx v)) (cs':=rpx v) rfl rfl rfl (by first|exact .here _|exact .there _ (.here _)) rfl rfl ?_ ?_
     ·((repeat(first|exact LOk.nil|refine Lsk ?_|refine Lcv ?_));refine Lcv ?_ (ov_idxS (cs':=rpx w) rfl rfl htm1 htm2 hat2' hne);(repeat(first|exact LOk.nil|refine Lsk ?_|refine Lcv ?_)))
     refine Gn ?_ ?_
     ·((repeat(first|exact LOk.nil|refine Lsk ?_|refine Lcv ?_));refine Lcv ?_ (ov_idxS (cs':=rpx w) rfl rfl htm1 htm2 hat2' hne);(repeat(first|exact LOk.nil|refine Lsk ?_|refine Lcv ?_)))
     repeat(first|(refine A1 ⟨?_⟩;intros)|refine W4 c1 ⟨?_⟩|refine W4 c2 ⟨?_⟩|refine W4 c3 ⟨?_⟩)
     exact hgo _ _ lfA (List.nil_sublist _)
  ·rw [if_neg ha]at hgo
   by_cases hb:zb≤0
   ·rw [if_pos hb]at hgo
    by_cases ho:zo<0
    ·rw [if_pos ho]at hgo
     repeat(first|(refine AS ⟨?_⟩;intros)|(refine O1 ⟨?_⟩;intros))
     refine WdL 14 1 ?_
     repeat(refine A1 ⟨?_⟩;intros)
     refine Wdo (ov_idxS (cs':=rpx v) rfl rfl (by omega) (by omega) hat hne) ?_
     repeat(refine A1 ⟨?_⟩;intros)
     refine Wdo (ov_idxS (cs':=rpx w) rfl rfl htm1 htm2 hat2' hne) ?_
     repeat(refine A1 ⟨?_⟩;intros)
     refine dL2 fun b7 b8=>?_
     refine Gs (sv:=ag (rpx v)) (cs':=rpx v) rfl rfl rfl (by first|exact .here _|exact .there _ (.here _)) rfl rfl ?_ ?_
     ·((repeat(first|exact LOk.nil|refine Lsk ?_|refine Lcv ?_));refine Lcv ?_ (ov_idxS (cs':=rpx w) rfl rfl htm1 htm2 hat2' hne);(repeat(first|exact LOk.nil|refine Lsk ?_|refine Lcv ?_)))
     refine Gn ?_ ?_
     ·((repeat(first|exact LOk.nil|refine Lsk ?_|refine Lcv ?_));refine Lcv ?_ (ov_idxS (cs':=rpx w) rfl rfl htm1 htm2 hat2' hne);(repeat(first|exact LOk.nil|refine Lsk ?_|refine Lcv ?_)))
     repeat(first|(refine A1 ⟨?_⟩;intros)|refine W4 c1 ⟨?_⟩|refine W4 c2 ⟨?_⟩|refine W4 c3 ⟨?_⟩)
     exact hgo _ _ lfA (List.nil_sublist _)
    ·rw [if_neg ho]at hgo
     repeat(first|(refine AS ⟨?_⟩;intros)|(refine O1 ⟨?_⟩;intros))
     refine WdL 14 1 ?_
     repeat(refine A1 ⟨?_⟩;intros)
     refine Wdo (ov_idxS (cs':=rpx v) rfl rfl (by omega) (by omega) hat hne) ?_
     repeat(refine A1 ⟨?_⟩;intros)
     refine Wdo (ov_idxS (cs':=rpx w) rfl rfl htm1 htm2 hat2' hne) ?_
     repeat(refine A1 ⟨?_⟩;intros)
     refine dL2 fun b7 b8=>?_
     refine Gs (sv:=ag (rpx v)) (cs':=rpx v) rfl rfl rfl (by first|exact .here _|exact .there _ (.here _)) rfl rfl ?_ ?_
     ·((repeat(first|exact LOk.nil|refine Lsk ?_|refine Lcv ?_));refine Lcv ?_ (ov_idxS (cs':=rpx w) rfl rfl htm1 htm2 hat2' hne);(repeat(first|exact LOk.nil|refine Lsk ?_|refine Lcv ?_)))
     refine Gn ?_ ?_
     ·((repeat(first|exact LOk.nil|refine Lsk ?_|refine Lcv ?_));refine Lcv ?_ (ov_idxS (cs':=rpx w) rfl rfl htm1 htm2 hat2' hne);(repeat(first|exact LOk.nil|refine Lsk ?_|refine Lcv ?_)))
     repeat(first|(refine A1 ⟨?_⟩;intros)|refine W4 c1 ⟨?_⟩|refine W4 c2 ⟨?_⟩|refine W4 c3 ⟨?_⟩)
     exact hgo _ _ lfA (List.nil_sublist _)
   ·rw [if_neg hb]at hgo
    repeat(first|(refine AS ⟨?_⟩;intros)|(refine O1 ⟨?_⟩;intros))
    refine WdL 14 1 ?_
    repeat(refine A1 ⟨?_⟩;intros)
    refine Wdo (ov_idxS (cs':=rpx v) rfl rfl (by omega) (by omega) hat hne) ?_
    repeat(refine A1 ⟨?_⟩;intros)
    refine Wdo (ov_idxS (cs':=rpx w) rfl rfl htm1 htm2 hat2' hne) ?_
    repeat(refine A1 ⟨?_⟩;intros)
    refine dL2 fun b7 b8=>?_
    refine Gs (sv:=ag (rpx v)) (cs':=rpx v) rfl rfl rfl (by first|exact .here _|exact .there _ (.here _)) rfl rfl ?_ ?_
    ·((repeat(first|exact LOk.nil|refine Lsk ?_|refine Lcv ?_));refine Lcv ?_ (ov_idxS (cs':=rpx w) rfl rfl htm1 htm2 hat2' hne);(repeat(first|exact LOk.nil|refine Lsk ?_|refine Lcv ?_)))
    refine Gn ?_ ?_
    ·((repeat(first|exact LOk.nil|refine Lsk ?_|refine Lcv ?_));refine Lcv ?_ (ov_idxS (cs':=rpx w) rfl rfl htm1 htm2 hat2' hne);(repeat(first|exact LOk.nil|refine Lsk ?_|refine Lcv ?_)))
    repeat(first|(refine A1 ⟨?_⟩;intros)|refine W4 c1 ⟨?_⟩|refine W4 c2 ⟨?_⟩|refine W4 c3 ⟨?_⟩)
    exact hgo _ _ lfA (List.nil_sublist _)
 ·have hke:k=l.length:=by omega
  subst hke
  subst hz
  clear hK
  repeat(refine A1 ⟨?_⟩;intros)
  exact E1
def accB (fill n:Int):Bool:=if fill=1 then decide (n.tmod 2≠0)else decide (n≠0)
theorem raccepts_pu (fill n:Int) (hf:fill=1∨fill=2) (hn:n.natAbs≤1000000000):Pu Tryz.prog 255 [lit (.int .i64 fill),lit (.int .i64 n)] (lit (.bool (accB fill n))):=by
 unfold accB
 rcases hf with rfl|rfl
 ·rw [if_pos rfl]
  by_cases h:n.tmod 2=0
  ·rw [decide_eq_false (fun k=>k h)]
   refine Pu.intro Tryz.func255 rfl (by kernel_rfl) fun C=>?_
   repeat(refine A1 ⟨?_⟩;intros)
   exact E1
  ·rw [decide_eq_true h]
   refine Pu.intro Tryz.func255 rfl (by kernel_rfl) fun C=>?_
   repeat(refine A1 ⟨?_⟩;intros)
   exact E1
 ·rw [if_neg (by decide)]
  by_cases h:n=0
  ·rw [decide_eq_false (fun k=>k h)]
   refine Pu.intro Tryz.func255 rfl (by kernel_rfl) fun C=>?_
   repeat(refine A1 ⟨?_⟩;intros)
   exact E1
  ·rw [decide_eq_true h]
   refine Pu.intro Tryz.func255 rfl (by kernel_rfl) fun C=>?_
   repeat(refine A1 ⟨?_⟩;intros)
   exact E1
abbrev rpss (rs:List (List Pq)):SV:=sl (rs.map fun r=>[rps r]).flatten rs.length
abbrev apss (rs:List (List Pq)):SV:=sl (rs.map fun r=>[aps r]).flatten rs.length
abbrev rgR (rs:List (List Pq)) (fill:Int) (ls:List Li):SV:=ag [rpss rs,lit (.int .i64 fill),lqs ls]
def inR (rs:List (List Pq)) (fill:Int) (p:Pq):Bool:=accB fill (rs.foldl (fun n r=>n+numL r p) 0)
theorem inF_abs (p:Pq):∀(rs:List (List Pq)) (n:Int),(∀r∈rs,r.length≤6)→(rs.foldl (fun n r=>n+numL r p) n).natAbs≤n.natAbs+6*rs.length
 | [],n,_=>by simp
 |r::rs,n,h=>by
  have:=inF_abs p rs (n+numL r p) (fun r hr=>h r (List.mem_cons_of_mem _ hr))
  have h1:=numL_abs r p
  have h2:=h r List.mem_cons_self
  rw [List.foldl_cons,List.length_cons]
  omega
set_option maxHeartbeats 4000000 in
theorem rin9_pu {rs:List (List Pq)}{fill:Int}{ls:List Li}{p:Pq}(hf:fill=1∨fill=2) (hl:rs.length≤1000) (hh:∀r∈rs,rgOk r) (hp':hp p 900):Pu Tryz.prog 198 [rgR rs fill ls,ag (rpx p)] (lit (.bool (inR rs fill p))):=by
 have h6:∀r∈rs,r.length≤6:=fun r hr=>(hh r hr).1
 have hb:=fun k=>inF_abs p (rs.take k) 0 (fun r hr=>h6 r (List.mem_of_mem_take hr))
 have hbl:=inF_abs p rs 0 h6
 have ca:=raccepts_pu fill (rs.foldl (fun n r=>n+numL r p) 0) hf (by have e:(0:Int).natAbs=0:=rfl;omega)
 unfold inR
 refine Pu.intro Tryz.func198 rfl (by kernel_rfl) fun C=>?_
 repeat(first|(refine Wo (ov_boxP (sv:=ag _) rfl) ?_)|(refine Wdo (ov_boxP (sv:=ag _) rfl) ?_)|(refine A1 ⟨?_⟩;intros))
 refine WP.loopS (ι:=Nat×Int) (fun y=>y.1≤rs.length∧y.2=(rs.take y.1).foldl (fun n r=>n+numL r p) 0) (fun y=>rs.length-y.1)
  (fun y=>fm [(2,pt [rpss rs,lit (.int .i64 fill),lqs ls]),(3,pt (rpx p)),(5,lit (.int .i64 y.2)),(9,rpss rs),(10,lit (.int .i64 rs.length)),(11,lit (.int .i64 y.1))]) (fun _=>[]) (0,0)
  ⟨Nat.zero_le _,rfl⟩ lfA (List.nil_sublist _) ?_
 rintro ⟨k,z⟩ ⟨hk,hz⟩ K hK
 simp only at hk hz⊢
 by_cases hkl:k<rs.length
 ·obtain⟨r,hget,hmm,hat,hne⟩:=elt (f:=fun r=>[rps r]) (n:=1) (fun _=>rfl) (by omega) hkl
  have hgo:=fun F' H'=>hK F' H' (k+1,z+numL r p) ⟨by simp only;omega,by simp only;rw [foldl_take hget,←hz]⟩ (by simp only;omega)
  have c:=rnumber_pu (l:=r) (p:=p) (by have:=h6 r hmm;omega) (fun q hq=>⟨by have:=((hh r hmm).2.1 q hq).ht.1;omega,by have:=((hh r hmm).2.1 q hq).ht.2;omega⟩) hp'
  have hzb:=hb k
  rw [←hz,List.length_take]at hzb
  have hnb:=numL_abs r p
  have h6r:=h6 r hmm
  have e0:(0:Int).natAbs=0:=rfl
  clear hK hh hget hmm hz hb hbl ca h6
  generalize numL r p=z2 at *
  repeat(refine A1 ⟨?_⟩;intros)
  refine Wo (ov_idxS (cs':=[rps r]) rfl rfl (by omega) (by omega) hat hne) ?_
  repeat(first|(refine A1 ⟨?_⟩;intros)|refine W4 c ⟨?_⟩)
  exact hgo _ _ lfA (List.nil_sublist _)
 ·have hke:k=rs.length:=by omega
  subst hke
  rw [List.take_length]at hz
  rw [←hz]at ca⊢
  clear hK hb hbl
  repeat(first|(refine A1 ⟨?_⟩;intros)|refine W4 ca ⟨?_⟩)
  exact E1
end Go.Ab
