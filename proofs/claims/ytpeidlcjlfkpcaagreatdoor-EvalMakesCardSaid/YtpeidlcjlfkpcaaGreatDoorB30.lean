/- Texts laid one behind the other: GwI, GwJ. -/
import Derived.Test.YtpeidlcjlfkpcaaGreatDoorB29
set_option linter.all false
set_option maxHeartbeats 16000000
namespace Go.Ab
open Go.Proofs
variable [Base]
theorem Fo {α:Type}{f:α→Bool}{l:List α}{k:Nat}{t:α}(h:l[k]? = some t):((((l.take (k+1)).map f)).map fun b=>[(lit (.bool b):SV)]).flatten=(((l.take k).map f).map fun b=>[lit (.bool b)]).flatten++[lit (.bool (f t))]:=by
 rw [ji h,aH,aH,cH];rfl
theorem wx (op : Int) (hop : op = 1 ∨ op = 2) (a b : List Spn) (hla : a.length ≤ 10000) (hlb : b.length ≤ 10000) (ha : ∀ s ∈ a, s.le 10000) (hb : ∀ s ∈ b, s.le 10000) :
    Pu Tryz.prog 205 [lit (.int .i64 op),sps a,sps b] (sps (qR op a b)):=by
  have hl:(a++b).length≤20000:=by rw [ac];omega
  have hab:∀s∈a++b,s.le 10000:=fun s hs=>(az.1 hs).elim (ha s) (hb s)
  have c1:=KM (a++b) om (fun s hs=>⟨by have:=(hab s hs).1;omega,by have:=(hab s hs).2;omega⟩);have hel:=E4 (a++b);have heh:=HG hab;have hpl:=qt (fW (a++b));have hph:=Iz heh;have c2:=EL (fW (a++b)) om (fun y hy=>by have:=heh y hy;omega);have c3:=KJ (fW (a++b)) ((iN (fW (a++b))).map fun t=>opB op (inL a t) (inL b t)) om (by rw [cK];exact hpl);have hfa:((a.map spx).flatten).length=a.length*8:=fP ow a;have hfb:((b.map spx).flatten).length=b.length*8:=fP ow b;have hfab:(a.map spx).flatten++(b.map spx).flatten=((a++b).map spx).flatten:=by rw [aH,cH]
  have e1:∀s H',Own sT 8 (a.length+b.length) ((a.map spx).flatten++(b.map spx).flatten) s H'→Own sT 8 (a++b).length ((a++b).map spx).flatten s H':=fun s H' h=>by rw [ac,←hfab];exact h
  clear hfab hab;unfold qR;generalize fW (a++b)=cuts at *;generalize hM:(iN cuts).map (fun t=>opB op (inL a t) (inL b t))=M at *;generalize hP:iN cuts=ps at *;have hMl:M.length=ps.length:=by rw [←hM,cK]
  have di:∀t∈ps,Pu Tryz.prog 247 [sps a,rq t] (lit (.bool (inL a t)))∧Pu Tryz.prog 247 [sps b,rq t] (lit (.bool (inL b t))):=fun t ht=>⟨KG a t om (fun s hs=>⟨by have:=(ha s hs).1;omega,by have:=(ha s hs).2;omega⟩) (by have:=hph t ht;omega),KG b t om (fun s hs=>⟨by have:=(hb s hs).1;omega,by have:=(hb s hs).2;omega⟩) (by have:=hph t ht;omega)⟩
  clear heh hph ha hb;refine Pi Tryz.func205 fun C=>?_
  refine A2 ⟨?_⟩;intros;rename_i b14;refine Nn (k0:=a.length) (n0:=0) (cs:=[]) (ds:=(a.map spx).flatten) (Hs:=[(b14,sT,[])]) ⟨rfl, .inr ⟨b14,0,au _,by decide,rfl,rfl⟩⟩ (Tk.cons (.here _) (Tk.nil _)) om hfa (fun s1 H1 hown1=>?_);rw [aB,a8]at hown1;have hco1:=hown1.co;refine A2 ⟨?_⟩;intros;refine Nn (k0:=b.length) hown1 (Tk.same _) om hfb (fun s2 H2 hown2=>?_);replace hown2:=e1 _ _ hown2;have hco2:=hown2.co;refine WPL.rowS 18 hown2 rfl (R:=[]) (by simp) ?_;clear hown1 hown2 e1 hfa hfb;refine D2 c1 c2 ⟨?_⟩;intros
  refine WP.loopS (ι:=G7) (fun y=>y.k≤ps.length∧Own bT 1 y.k (((ps.take y.k).map fun t=>opB op (inL a t) (inL b t)).map fun b=>[lit (.bool b)]).flatten y.s y.Hs) (fun y=>ps.length-y.k)
    (fun y=>fm [(0,lit (.int .i64 op)),(1,sps a),(2,sps b),(7,rqs cuts),(8,y.s),(21,rqs ps),(22,lit (.int .i64 ps.length)),(23,lit (.int .i64 y.k))]) (fun y=>y.Hs) ⟨0,lit (.slice none 0 0),[]⟩
    ⟨an _,Own.nil _ _⟩ lfA (av _) ?_
  rintro ⟨k,s,Hs⟩ ⟨hk,hown⟩ K hK;simp only at hk hown⊢;have hco:=hown.co;by_cases hkl:k<ps.length
  · obtain⟨t,hget,hmm,hat,hne⟩:=elt mH om hkl
    obtain⟨d1,d2⟩:=di t hmm;have hgo:=fun s' Hs' (h:Own bT 1 (k+1) ((((ps.take k).map fun t=>opB op (inL a t) (inL b t)).map fun b=>[lit (.bool b)]).flatten++[lit (.bool (opB op (inL a t) (inL b t)))]) s' Hs') F' H'=>hK F' H' ⟨k+1,s',Hs'⟩ ⟨by simp only;omega,by simp only;rw [Fo hget];exact h⟩ (by simp only;omega)
    clear hK di c1 c2 c3 hget hmm hM hP;generalize inL a t=x at *;generalize inL b t=y at *;generalize(((ps.take k).map fun t=>opB op (inL a t) (inL b t)).map fun b=>[(lit (.bool b):SV)]).flatten=cs at *;rcases hop with rfl|rfl <;> cases x <;> cases y
    all_goals
      simp only [opB,Int.reduceEq,aV,aO,bB,aQ,bo,aS,Bool.or_self,jE,bE]at hgo;refine A2 ⟨?_⟩;intros;refine Wo (ae (cs':=rqx t) rfl rfl om om hat hne) ?_;repeat(first|(refine Wo (oR (s:=lit (.bool true)) (ds:=[lit (.bool true)]) rfl inferInstance) ?_)|(refine Wdo (oR (s:=lit (.bool true)) (ds:=[lit (.bool true)]) rfl inferInstance) ?_)|(refine Wo (oR (s:=lit (.bool false)) (ds:=[lit (.bool false)]) rfl inferInstance) ?_)|(refine Wdo (oR (s:=lit (.bool false)) (ds:=[lit (.bool false)]) rfl inferInstance) ?_)|(refine A1 ⟨?_⟩;intros)|refine W4 d1 ⟨?_⟩|refine W4 d2 ⟨?_⟩)
    all_goals first
      | (refine rL (ds := [lit (.bool true)]) hown (Tk.skip _ (Tk.same _)) om (fun s' H1 hown' => ?_)
         have hco':=hown'.co;replace hgo:=hgo s' H1 hown';clear hown hown';refine A2 ⟨?_⟩;intros;exact hgo _ _ lfA (Sc Sr))
      | (refine rL (ds := [lit (.bool false)]) hown (Tk.skip _ (Tk.same _)) om (fun s' H1 hown' => ?_)
         have hco':=hown'.co;replace hgo:=hgo s' H1 hown';clear hown hown';refine A2 ⟨?_⟩;intros;exact hgo _ _ lfA (Sc Sr))
  · have hke:k=ps.length:=by omega
    subst hke;rw [aP,hM]at hown;have hl2:ps.length=M.length:=hMl.symm;rw [hl2]at hown;refine WP.rowS 8 hown rfl (by rw [bd]) ?_;clear hK hown di;exact Y1 c3
theorem A9 {l m:Li}(hl:l.sm) (hm:m.sm) (side:Int) (hs:side=1∨side = -1):Pu Tryz.prog 204 [lq l,lq m,lit (.int .i64 side)] (Ab.tup [sps (jU l m side).1,lit (.bool (jU l m side).2)]):=by
 have d1:=CP hl hm;have hmt:=rx hl hm;have hpt:=qv hl hmt;have h1:=lU;unfold jU;by_cases h0:gW l m=0
 ·rw [if_pos h0];unfold yz at d1;rw [if_pos h0]at d1;obtain⟨q1,q2⟩:=vk hl;have d3:=ye hl.1 hl.2;have d4:=uo (l:=m) (p:=bX l) hm ⟨om,om⟩;simp only [sQ,nu]at d1;have e4:ag (rpx (bX l))=rp (l.bf*l.a) (l.bf*l.b):=rfl;rw [e4]at d4;clear hmt hpt q1 q2 e4 h0;generalize gR m (bX l)=z at *;by_cases hz:z=side
  ·rw [if_pos hz];subst hz;by_cases z0:z=0
   ·omega
   ·rw [aa z0];refine Pi Tryz.func204 fun C=>?_
    repeat(first|(refine Wo (cJ (spx Spn.full) rfl) ?_)|(refine Wdo (cJ (spx Spn.full) rfl) ?_)|(refine A1 ⟨?_⟩;intros)|refine W4 d1 ⟨?_⟩|refine W4 d3 ⟨?_⟩|refine W4 d4 ⟨?_⟩|refine W4 CV ⟨?_⟩)
    exact G2
  ·rw [if_neg hz];by_cases z0:z=0
   ·rw [a9 z0];refine Pi Tryz.func204 fun C=>?_
    refine D3 d1 d3 d4 ⟨?_⟩;intros;((first|refine cV ?_|refine jK ?_);exact eJ (RV.tmp rfl) (RV.tmp rfl) (Le.tup2 i5 Lr))
   ·rw [aa z0];refine Pi Tryz.func204 fun C=>?_
    refine D3 d1 d3 d4 ⟨?_⟩;intros;((first|refine cV ?_|refine jK ?_);exact eJ (RV.tmp rfl) (RV.tmp rfl) (Le.tup2 i5 Lr))
 ·rw [if_neg h0];unfold yz at d1;rw [if_neg h0]at d1;simp only [kW,ny]at d1;have d3:=s7 (l:=l) (p:=dY l m) hl ⟨by have:=hmt.1;omega,by have:=hmt.2;omega⟩;have ha:=fo (fp l (dY l m)) 1;have d4:=jc (fp l (dY l m)) 1 om om;have d5:=KN (l:=l) (t:=fp l (dY l m)+1) hl om;have hat:=Ng (t:=fp l (dY l m)+1) (n:=100) hl om;have d6:=uo (l:=m) (p:=atL l (fp l (dY l m)+1)) hm ⟨by have:=hat.1;omega,by have:=hat.2;omega⟩;clear hmt hpt ha hat h0;generalize gR m (atL l (fp l (dY l m)+1))=z at *;generalize atL l (fp l (dY l m)+1)=q at *;generalize fp l (dY l m)+1=t1 at *;generalize fp l (dY l m)=t at *;generalize dY l m=mp at *;by_cases hz:z=side
  ·rw [if_pos hz];refine Pi Tryz.func204 fun C=>?_
   repeat(first|(refine Wo (cJ (rqx t++[lit (.bool false),lit (.slice none 0 0),lit (.slice none 0 0),lit (.bool false),lit (.bool true)]) rfl) ?_)|(refine Wdo (cJ (rqx t++[lit (.bool false),lit (.slice none 0 0),lit (.slice none 0 0),lit (.bool false),lit (.bool true)]) rfl) ?_)|(refine A1 ⟨?_⟩;intros)|refine W4 d1 ⟨?_⟩|refine W4 d3 ⟨?_⟩|refine W4 d4 ⟨?_⟩|refine W4 d5 ⟨?_⟩|refine W4 d6 ⟨?_⟩|refine W4 ur ⟨?_⟩)
   ((first|refine cV ?_|refine jK ?_);exact eJ (RV.tmp rfl) (RV.tmp rfl) (Le.tup2 (Ft (b:=spx ⟨t,0,false,true⟩) ⟨Le.refl _,Le.refl _,Le.refl _,Le.refl _,wP,wQ,Le.refl _,Le.refl _,trivial⟩) Lr))
  ·rw [if_neg hz];refine Pi Tryz.func204 fun C=>?_
   repeat(first|(refine Wo (cJ ([lit (.bool false),lit (.slice none 0 0),lit (.slice none 0 0)]++rqx t++[lit (.bool true),lit (.bool false)]) rfl) ?_)|(refine Wdo (cJ ([lit (.bool false),lit (.slice none 0 0),lit (.slice none 0 0)]++rqx t++[lit (.bool true),lit (.bool false)]) rfl) ?_)|(refine A1 ⟨?_⟩;intros)|refine W4 d1 ⟨?_⟩|refine W4 d3 ⟨?_⟩|refine W4 d4 ⟨?_⟩|refine W4 d5 ⟨?_⟩|refine W4 d6 ⟨?_⟩|refine W4 ur ⟨?_⟩)
   ((first|refine cV ?_|refine jK ?_);exact eJ (RV.tmp rfl) (RV.tmp rfl) (Le.tup2 (Ft (b:=spx ⟨0,t,true,false⟩) ⟨Le.refl _,wP,wQ,Le.refl _,Le.refl _,Le.refl _,Le.refl _,Le.refl _,trivial⟩) Lr))
abbrev fqx (f:Fg):List SV:=lqx f.1++spx f.2
theorem qF (f:Fg):(fqx f).length=14:=rfl
abbrev fqs (l:List Fg):SV:=sl (l.map fqx).flatten l.length
theorem yB {α:Type}{l:List α}(h:l.length≤1):l=[]∨∃x,l=[x]:=by
 match l,h with
 | [],_=>exact .inl rfl
 | [x],_=>exact .inr ⟨x,rfl⟩
theorem oF:Le (lit (.slice none 0 0)) (xsl [] 0):=fun m v h=>by
 rw [ap]at h;subst h;unfold xsl;exact⟨none,rfl,by simp only [maxLen];omega,fun _=>rfl, .inl rfl⟩
theorem Hj:Le (lit (.slice none 0 0)) (fqs []):=i5
theorem Is {L:List Li}{f:Fg}{m:Li}(hf:FgG L f) (hl:f.1.sm) (hm:m.sm) (hv:f.2.le 46):Pu Tryz.prog 156 [ag (fqx f),lq m] (Ab.tup [fqs (f4 f m).1,fqs (f4 f m).2]):=by
 have d1:=A9 hl hm 1 (.inl rfl);have d2:=A9 hl hm (-1) (.inr rfl);have hsl:=vM (m:=m) hf;have hd:(jU f.1 m (-1)).2=(jU f.1 m 1).2:=by unfold jU;split <;> (try rfl);split <;> split <;> rfl
 have hh:∀side,(jU f.1 m side).1.length≤1∧∀s∈(jU f.1 m side).1,s.le 10000:=fun side=>by
  have h0:=kv;have hmt:=rx hl hm;have hpt:=qv hl hmt;unfold jU;split
  ·split
   ·exact⟨au _,fun s hs=>by rw [ar.1 hs];exact⟨by show ht 0≤_;omega,by show ht 0≤_;omega⟩⟩
   ·exact⟨by simp,fun s hs=>by cases hs⟩
  ·split
   ·exact⟨au _,fun s hs=>by rw [ar.1 hs];exact⟨by simp only;omega,by show ht 0≤_;omega⟩⟩
   ·exact⟨au _,fun s hs=>by rw [ar.1 hs];exact⟨by show ht 0≤_;omega,by simp only;omega⟩⟩
 have e1:=wx 2 (.inr rfl) [f.2] (jU f.1 m 1).1 (by simp) (by have:=(hh 1).1;omega) (fun s hs=>by rw [ar.1 hs];exact⟨by have:=hv.1;omega,by have:=hv.2;omega⟩) (hh 1).2;have e2:=wx 2 (.inr rfl) [f.2] (jU f.1 m (-1)).1 (by simp) (by have:=(hh (-1)).1;omega) (fun s hs=>by rw [ar.1 hs];exact⟨by have:=hv.1;omega,by have:=hv.2;omega⟩) (hh (-1)).2;rw [hd]at d2;unfold f4 at hsl⊢;clear hh hd;generalize(jU f.1 m 1).2=on at *;generalize qR 2 [f.2] (jU f.1 m 1).1=A at *;generalize qR 2 [f.2] (jU f.1 m (-1)).1=B at *;generalize(jU f.1 m 1).1=hA at *;generalize(jU f.1 m (-1)).1=hB at *;obtain⟨l,s⟩:=f;simp only at *;cases on with
 |true =>
  rw [if_pos rfl];clear hsl e1 e2 hf hv d2;refine Pi Tryz.func156 fun C=>?_
  repeat(first|(refine Wo (cF (sv:=ag _) rfl) ?_)|(refine Wdo (cF (sv:=ag _) rfl) ?_)|(refine Wo (e9 (r:=[(0,[lit (.int .i64 1)]),(1,[lit (.int .i64 (-1))])]) (cs:=[lit (.int .i64 1),lit (.int .i64 (-1))]) (.cons (sv:=lit (.int .i64 1)) rfl inferInstance (.cons (sv:=lit (.int .i64 (-1))) rfl inferInstance .nil))) ?_)|(refine Wdo (e9 (r:=[(0,[lit (.int .i64 1)]),(1,[lit (.int .i64 (-1))])]) (cs:=[lit (.int .i64 1),lit (.int .i64 (-1))]) (.cons (sv:=lit (.int .i64 1)) rfl inferInstance (.cons (sv:=lit (.int .i64 (-1))) rfl inferInstance .nil))) ?_)|(refine A1 ⟨?_⟩;intros))
  refine WP.unroll 1 (WPR.succ ?_);refine A2 ⟨?_⟩;intros;refine Wo (ae (cs':=[lit (.int .i64 1)]) rfl rfl (by decide) (by decide) rfl (fun h=>by cases h)) ?_;refine D1 d1 ⟨?_⟩;intros;((first|refine cV ?_|refine jK ?_);exact eJ (RV.tmp rfl) (RV.tmp rfl) (Le.tup2 Hj Hj))
 |false =>
  rw [if_neg (by decide)]at hsl⊢;simp only at hsl;rw [cK,cK]at hsl;obtain⟨h1,h2⟩:=hsl;refine Pi Tryz.func156 fun C=>?_
  repeat(first|(refine Wo (cF (sv:=ag _) rfl) ?_)|(refine Wdo (cF (sv:=ag _) rfl) ?_)|(refine Wo (e9 (r:=[(0,[lit (.int .i64 1)]),(1,[lit (.int .i64 (-1))])]) (cs:=[lit (.int .i64 1),lit (.int .i64 (-1))]) (.cons (sv:=lit (.int .i64 1)) rfl inferInstance (.cons (sv:=lit (.int .i64 (-1))) rfl inferInstance .nil))) ?_)|(refine Wdo (e9 (r:=[(0,[lit (.int .i64 1)]),(1,[lit (.int .i64 (-1))])]) (cs:=[lit (.int .i64 1),lit (.int .i64 (-1))]) (.cons (sv:=lit (.int .i64 1)) rfl inferInstance (.cons (sv:=lit (.int .i64 (-1))) rfl inferInstance .nil))) ?_)|(refine A1 ⟨?_⟩;intros))
  replace e1:Pu Tryz.prog 205 [lit (.int .i64 2),sl (spx s) 1,sps hA] (sps A):=e1;replace e2:Pu Tryz.prog 205 [lit (.int .i64 2),sl (spx s) 1,sps hB] (sps B):=e2;have l0:([]:List Spn).length=0:=rfl;have l1:∀w:Spn,[w].length=1:=fun _=>rfl
  clear hf hv hl hm;obtain rfl|⟨w,rfl⟩:=yB h1
  ·obtain rfl|⟨u,rfl⟩:=yB h2
   ·refine WP.unroll 3 (WPR.succ ?_);refine A2 ⟨?_⟩;intros;refine WPL.lowB (cs':=[xsl [] 0,xsl [] 0]) (.here _) ⟨oF,oF,trivial⟩ ?_;refine Wo (ae (cs':=[lit (.int .i64 1)]) rfl rfl (by decide) (by decide) rfl (fun h=>by cases h)) ?_;repeat(first|(refine Wo (cJ (spx s) rfl) ?_)|(refine Wdo (cJ (spx s) rfl) ?_)|(refine A1 ⟨?_⟩;intros)|refine W4 d1 ⟨?_⟩|refine W4 e1 ⟨?_⟩)
    refine WP.unroll 1 (WPR.succ ?_);refine A2 ⟨?_⟩;intros;refine Wo (ae (cs':=[lit (.int .i64 (-1))]) rfl rfl (by decide) (by decide) rfl (fun h=>by cases h)) ?_;repeat(first|(refine Wo (cJ (spx s) rfl) ?_)|(refine Wdo (cJ (spx s) rfl) ?_)|(refine A1 ⟨?_⟩;intros)|refine W4 d2 ⟨?_⟩|refine W4 e2 ⟨?_⟩)
    refine WP.unroll 1 (WPR.succ ?_);refine A2 ⟨?_⟩;intros;refine Wdo (fN (e:=230) (len:=2) kr rfl rfl om om) ?_;refine A2 ⟨?_⟩;intros;refine Wdo (fN (e:=230) (len:=2) kr rfl rfl om om) ?_;refine A2 ⟨?_⟩;intros;exact cV (eJ (RV.tmp rfl) (RV.tmp rfl) (Le.tup2 yC yC))
   ·refine WP.unroll 3 (WPR.succ ?_);have lw:=l1 u;refine A2 ⟨?_⟩;intros;refine WPL.lowB (cs':=[xsl [] 0,xsl [] 0]) (.here _) ⟨oF,oF,trivial⟩ ?_;refine Wo (ae (cs':=[lit (.int .i64 1)]) rfl rfl (by decide) (by decide) rfl (fun h=>by cases h)) ?_;repeat(first|(refine Wo (cJ (spx s) rfl) ?_)|(refine Wdo (cJ (spx s) rfl) ?_)|(refine A1 ⟨?_⟩;intros)|refine W4 d1 ⟨?_⟩|refine W4 e1 ⟨?_⟩)
    refine WP.unroll 1 (WPR.succ ?_);refine A2 ⟨?_⟩;intros;refine Wo (ae (cs':=[lit (.int .i64 (-1))]) rfl rfl (by decide) (by decide) rfl (fun h=>by cases h)) ?_;repeat(first|(refine Wo (cJ (spx s) rfl) ?_)|(refine Wdo (cJ (spx s) rfl) ?_)|(refine A1 ⟨?_⟩;intros)|refine W4 d2 ⟨?_⟩|refine W4 e2 ⟨?_⟩)
    refine WP.unroll 2 (WPR.succ ?_);refine A2 ⟨?_⟩;intros;refine Wo (ae (cs':=spx u) rfl rfl om om rfl (fun h=>by cases h)) ?_;repeat(first|(refine AS ⟨?_⟩;intros)|(refine O1 ⟨?_⟩;intros))
    refine WdN 10 ?_;refine A2 ⟨?_⟩;intros;refine Wdo (fN (e:=230) (len:=2) kr rfl rfl om om) ?_;repeat(first|(refine Wo (cJ (fqx (l,u)) rfl) ?_)|(refine Wdo (cJ (fqx (l,u)) rfl) ?_)|(refine Wo (bU (k:=0) (k0:=1) (ds:=fqx (l,u)) rfl rfl rfl rfl om) ?_)|(refine Wdo (bU (k:=0) (k0:=1) (ds:=fqx (l,u)) rfl rfl rfl rfl om) ?_)|(refine A1 ⟨?_⟩;intros))
    refine Wo (fN (e:=230) (len:=2) kr rfl rfl om om) ?_;refine A2 ⟨?_⟩;intros;refine Wdo (fN (e:=230) (len:=2) kr rfl rfl om om) ?_;refine A2 ⟨?_⟩;intros;refine Wdo (fN (e:=230) (len:=2) kr rfl rfl om om) ?_;refine A2 ⟨?_⟩;intros;exact cV (eJ (RV.tmp rfl) (RV.tmp rfl) (Le.tup2 yC Lr))
  ·obtain rfl|⟨u,rfl⟩:=yB h2
   ·refine WP.unroll 3 (WPR.succ ?_);have lw:=l1 w;refine A2 ⟨?_⟩;intros;refine WPL.lowB (cs':=[xsl [] 0,xsl [] 0]) (.here _) ⟨oF,oF,trivial⟩ ?_;refine Wo (ae (cs':=[lit (.int .i64 1)]) rfl rfl (by decide) (by decide) rfl (fun h=>by cases h)) ?_;repeat(first|(refine Wo (cJ (spx s) rfl) ?_)|(refine Wdo (cJ (spx s) rfl) ?_)|(refine A1 ⟨?_⟩;intros)|refine W4 d1 ⟨?_⟩|refine W4 e1 ⟨?_⟩)
    refine WP.unroll 2 (WPR.succ ?_);refine A2 ⟨?_⟩;intros;refine Wo (ae (cs':=spx w) rfl rfl om om rfl (fun h=>by cases h)) ?_;repeat(first|(refine AS ⟨?_⟩;intros)|(refine O1 ⟨?_⟩;intros))
    refine WdN 10 ?_;refine A2 ⟨?_⟩;intros;refine Wdo (fN (e:=230) (len:=2) kr rfl rfl om om) ?_;repeat(first|(refine Wo (cJ (fqx (l,w)) rfl) ?_)|(refine Wdo (cJ (fqx (l,w)) rfl) ?_)|(refine Wo (bU (k:=0) (k0:=1) (ds:=fqx (l,w)) rfl rfl rfl rfl om) ?_)|(refine Wdo (bU (k:=0) (k0:=1) (ds:=fqx (l,w)) rfl rfl rfl rfl om) ?_)|(refine A1 ⟨?_⟩;intros))
    refine Wo (fN (e:=230) (len:=2) kr rfl rfl om om) ?_;refine A2 ⟨?_⟩;intros;refine Wo (ae (cs':=[lit (.int .i64 (-1))]) rfl rfl (by decide) (by decide) rfl (fun h=>by cases h)) ?_;repeat(first|(refine Wo (cJ (spx s) rfl) ?_)|(refine Wdo (cJ (spx s) rfl) ?_)|(refine A1 ⟨?_⟩;intros)|refine W4 d2 ⟨?_⟩|refine W4 e2 ⟨?_⟩)
    refine WP.unroll 1 (WPR.succ ?_);refine A2 ⟨?_⟩;intros;refine Wdo (fN (e:=230) (len:=2) kr rfl rfl om om) ?_;refine A2 ⟨?_⟩;intros;refine Wdo (fN (e:=230) (len:=2) kr rfl rfl om om) ?_;refine A2 ⟨?_⟩;intros;exact cV (eJ (RV.tmp rfl) (RV.tmp rfl) (Le.tup2 Lr yC))
   ·refine WP.unroll 3 (WPR.succ ?_);have lw:=l1 w;have lw:=l1 u;refine A2 ⟨?_⟩;intros;refine WPL.lowB (cs':=[xsl [] 0,xsl [] 0]) (.here _) ⟨oF,oF,trivial⟩ ?_;refine Wo (ae (cs':=[lit (.int .i64 1)]) rfl rfl (by decide) (by decide) rfl (fun h=>by cases h)) ?_;repeat(first|(refine Wo (cJ (spx s) rfl) ?_)|(refine Wdo (cJ (spx s) rfl) ?_)|(refine A1 ⟨?_⟩;intros)|refine W4 d1 ⟨?_⟩|refine W4 e1 ⟨?_⟩)
    refine WP.unroll 2 (WPR.succ ?_);refine A2 ⟨?_⟩;intros;refine Wo (ae (cs':=spx w) rfl rfl om om rfl (fun h=>by cases h)) ?_;repeat(first|(refine AS ⟨?_⟩;intros)|(refine O1 ⟨?_⟩;intros))
    refine WdN 10 ?_;refine A2 ⟨?_⟩;intros;refine Wdo (fN (e:=230) (len:=2) kr rfl rfl om om) ?_;repeat(first|(refine Wo (cJ (fqx (l,w)) rfl) ?_)|(refine Wdo (cJ (fqx (l,w)) rfl) ?_)|(refine Wo (bU (k:=0) (k0:=1) (ds:=fqx (l,w)) rfl rfl rfl rfl om) ?_)|(refine Wdo (bU (k:=0) (k0:=1) (ds:=fqx (l,w)) rfl rfl rfl rfl om) ?_)|(refine A1 ⟨?_⟩;intros))
    refine Wo (fN (e:=230) (len:=2) kr rfl rfl om om) ?_;refine A2 ⟨?_⟩;intros;refine Wo (ae (cs':=[lit (.int .i64 (-1))]) rfl rfl (by decide) (by decide) rfl (fun h=>by cases h)) ?_;repeat(first|(refine Wo (cJ (spx s) rfl) ?_)|(refine Wdo (cJ (spx s) rfl) ?_)|(refine A1 ⟨?_⟩;intros)|refine W4 d2 ⟨?_⟩|refine W4 e2 ⟨?_⟩)
    refine WP.unroll 2 (WPR.succ ?_);refine A2 ⟨?_⟩;intros;refine Wo (ae (cs':=spx u) rfl rfl om om rfl (fun h=>by cases h)) ?_;repeat(first|(refine AS ⟨?_⟩;intros)|(refine O1 ⟨?_⟩;intros))
    refine WdN 10 ?_;refine A2 ⟨?_⟩;intros;refine Wdo (fN (e:=230) (len:=2) kr rfl rfl om om) ?_;repeat(first|(refine Wo (cJ (fqx (l,u)) rfl) ?_)|(refine Wdo (cJ (fqx (l,u)) rfl) ?_)|(refine Wo (bU (k:=0) (k0:=1) (ds:=fqx (l,u)) rfl rfl rfl rfl om) ?_)|(refine Wdo (bU (k:=0) (k0:=1) (ds:=fqx (l,u)) rfl rfl rfl rfl om) ?_)|(refine A1 ⟨?_⟩;intros))
    refine Wo (fN (e:=230) (len:=2) kr rfl rfl om om) ?_;refine A2 ⟨?_⟩;intros;refine Wdo (fN (e:=230) (len:=2) kr rfl rfl om om) ?_;refine A2 ⟨?_⟩;intros;refine Wdo (fN (e:=230) (len:=2) kr rfl rfl om om) ?_;refine A2 ⟨?_⟩;intros;exact cV (eJ (RV.tmp rfl) (RV.tmp rfl) (Le.tup2 Lr Lr))
theorem CK {p q:Pq}(hp:Iq p) (hq:Iq q) (h:p≠q):Pu Tryz.prog 154 [ag (rpx p),ag (rpx q)] (Ab.tup [ag (fqx (CI p q)),lit (.bool true)]):=by
 have hl:=y6 hp hq h;have b1:=hp.ht;have b2:=hq.ht
 have hne:q.1-p.1≠0∨q.2-p.2≠0:=by
  by_cases h1:q.1-p.1=0
  ·right;intro h2;exact h (jx (by grind) (by grind))
  ·exact .inl h1
 have c1:=tD (x:=p.1) (y:=p.2) (u:=q.1) (v:=q.2) (L:=10) om om om om om hne;have c2:=s7 (l:=thr p.1 p.2 q.1 q.2) (p:=p) hl ⟨om,om⟩;have c3:=s7 (l:=thr p.1 p.2 q.1 q.2) (p:=q) hl ⟨om,om⟩;unfold CI;clear hl b1 b2 hne;generalize thr p.1 p.2 q.1 q.2=l at *;generalize fp l p=s at *;generalize fp l q=t at *;refine Pi Tryz.func154 fun C=>?_
 refine D3 c1 c2 c3 ⟨?_⟩;intros;exact G3
theorem MN {l:List Pq}{k:Nat}(h:k<l.length):(jo l)[k]? = some (CI (l.getD k (0,0)) (l.getD ((k+1)%l.length) (0,0))):=by
 unfold jo;rw [jg,List.getElem?_range h];rfl
theorem Bp {l:List Pq}{k:Nat}(h:k<l.length):(((l.map rpx).flatten).drop (k*6)).take 6=rpx (l.getD k (0,0)):=fV (f:=rpx) (n:=6) fq (by rw [List.getD,aA h];rfl)
theorem Ac {l:List Pq}(h:oo l):Pu Tryz.prog 111 [rps l] (fqs (jo l)):=by
 have hel:=uY l;have h6:=h.1;refine Pi Tryz.func111 fun C=>?_
 refine A2 ⟨?_⟩;intros
 refine WP.loopS (ι:=G7) (fun y=>y.k≤l.length∧Own fT 14 y.k (((jo l).take y.k).map fqx).flatten y.s y.Hs) (fun y=>l.length-y.k)
  (fun y=>fm [(0,rps l),(3,y.s),(7,rps l),(8,lit (.int .i64 l.length)),(9,lit (.int .i64 y.k))]) (fun y=>y.Hs) ⟨0,lit (.slice none 0 0),[]⟩
  ⟨an _,Own.nil _ _⟩ lfA (av _) ?_
 rintro ⟨k,s,Hs⟩ ⟨hk,hown⟩ K hK;simp only at hk hown⊢;have hco:=hown.co;by_cases hkl:k<l.length
 ·obtain⟨g1,g2,g3⟩:=KH h hkl;have c:=CK g1 g2 g3;have hget:=MN hkl;have hml:(k+1)%l.length<l.length:=cS _ om;have hat:=Bp hkl;have hat2:=Bp hml;have hne:(l.map rpx).flatten≠[]:=gA fq om (fun e=>by rw [e]at hkl;simp at hkl);have htm:((k:Int)+1).tmod (l.length:Int)=(((k+1)%l.length:Nat):Int):=rfl;have htm1:0≤((k:Int)+1).tmod (l.length:Int):=by rw [htm];omega
  have htm2:((k:Int)+1).tmod (l.length:Int)<(l.length:Int):=by rw [htm];exact_mod_cast hml
  have hat2':(((l.map rpx).flatten).drop ((((k:Int)+1).tmod (l.length:Int)).toNat*6)).take 6=rpx (l.getD ((k+1)%l.length) (0,0)):=by rw [htm];exact hat2
  have hgo:=fun s' Hs' h F' H'=>hK F' H' ⟨k+1,s',Hs'⟩ ⟨by simp only;omega,h⟩ (by simp only;omega)
  simp only [jm hget]at hgo;clear hK h htm hat2 hget hel;generalize CI (l.getD k (0,0)) (l.getD ((k+1)%l.length) (0,0))=f at *;generalize l.getD ((k+1)%l.length) (0,0)=q at *;generalize l.getD k (0,0)=p at *;repeat(first|(refine AS ⟨?_⟩;intros)|(refine O1 ⟨?_⟩;intros))
  refine WdL 17 1 ?_;refine A2 ⟨?_⟩;intros;refine Wdo (ae (cs':=rpx p) rfl rfl om om hat hne) ?_;refine A2 ⟨?_⟩;intros;refine Wdo (ae (cs':=rpx q) rfl rfl htm1 htm2 hat2' hne) ?_;refine D1 c ⟨?_⟩;intros;refine dL1 fun b5=>?_
  refine Gs (sv:=ag (fqx f)) (cs':=fqx f) rfl rfl rfl (.here _) rfl rfl ?_ ?_
  ·(repeat(first|exact LOk.nil|refine Lsk ?_|refine Lcv ?_))
  refine Gn ?_ ?_
  ·(repeat(first|exact LOk.nil|refine Lsk ?_|refine Lcv ?_))
  repeat(first|(refine Wo (cJ (fqx f) rfl) ?_)|(refine Wdo (cJ (fqx f) rfl) ?_)|(refine A1 ⟨?_⟩;intros))
  refine rL (ds:=fqx f) hown (Tk.skip _ (Tk.same _)) om (fun s' H1 hown'=>?_);have hco':=hown'.co;replace hgo:=hgo s' H1 hown';clear hown hown';refine A2 ⟨?_⟩;intros;exact hgo _ _ lfA (Sc Sr)
 ·have hke:k=l.length:=by omega
  subst hke;have hl2:l.length=(jo l).length:=hel.symm;rw [hl2,aP]at hown;refine WP.rowS 3 hown rfl (by rw [bd]) ?_;clear hK hown;exact Z1
def mO (l:List Pq) (p:Pq) (n:Int) (i:Nat):Int :=
 if((l.getD i (0,0)).2-p.2).num.sign≤0 then
  (if((l.getD ((i+1)%l.length) (0,0)).2-p.2).num.sign≤0 then n else if 0<uC (l.getD i (0,0)) (l.getD ((i+1)%l.length) (0,0)) p then n+1 else n)
 else(if((l.getD ((i+1)%l.length) (0,0)).2-p.2).num.sign≤0 then(if uC (l.getD i (0,0)) (l.getD ((i+1)%l.length) (0,0)) p<0 then n-1 else n)else n)
def zJ (l:List Pq) (p:Pq):Int:=(List.range l.length).foldl (mO l p) 0
theorem Ds (l:List Pq) (p:Pq) (n:Int) (i:Nat):(mO l p n i).natAbs≤n.natAbs+1:=by
 unfold mO;split <;> split <;> (try split) <;> omega
theorem yq (l:List Pq) (p:Pq):∀k:Nat,((List.range k).foldl (mO l p) 0).natAbs≤k
 |0=>au _
 |k+1=>by
  have:=yq l p k;have:=Ds l p ((List.range k).foldl (mO l p) 0) k;rw [iU,kE];show(mO l p _ k).natAbs≤k+1
  omega
theorem Dt (l:List Pq) (p:Pq):(zJ l p).natAbs≤l.length:=yq l p l.length
theorem EO {l:List Pq}{p:Pq}(hl:l.length≤100000) (hh:∀q∈l,hp q 900) (hp':hp p 900):Pu Tryz.prog 202 [rps l,ag (rpx p)] (lit (.int .i64 (zJ l p))):=by
 unfold zJ;obtain⟨p1,p2⟩:=hp';refine Pi Tryz.func202 fun C=>?_
 repeat(first|(refine Wo (cF (sv:=ag _) rfl) ?_)|(refine Wdo (cF (sv:=ag _) rfl) ?_)|(refine A1 ⟨?_⟩;intros))
 refine WP.loopS (ι:=Nat×Int) (fun y=>y.1≤l.length∧y.2=(List.range y.1).foldl (mO l p) 0) (fun y=>l.length-y.1)
  (fun y=>fm [(0,rps l),(3,pt (rpx p)),(5,lit (.int .i64 y.2)),(11,rps l),(12,lit (.int .i64 l.length)),(13,lit (.int .i64 y.1))]) (fun _=>[]) (0,0)
  ⟨an _,rfl⟩ lfA (av _) ?_
 rintro ⟨k,z⟩ ⟨hk,hz⟩ K hK;simp only at hk hz⊢;by_cases hkl:k<l.length
 ·have hgo:=fun F' H'=>hK F' H' (k+1,mO l p z k) ⟨by simp only;omega,by rw [iU,kE,←hz];rfl⟩ (by simp only;omega)
  have hza:=yq l p k;rw [←hz]at hza;have hml:(k+1)%l.length<l.length:=cS _ om;have hat:=Bp hkl;have hat2:=Bp hml;have m1:l.getD k (0,0)∈l:=bn (i:=k) (by rw [List.getD,aA hkl];rfl);have m2:l.getD ((k+1)%l.length) (0,0)∈l:=bn (i:=(k+1)%l.length) (by rw [List.getD,aA hml];rfl);have hne:(l.map rpx).flatten≠[]:=gA fq om (fun e=>by rw [e]at hkl;simp at hkl);have htm:((k:Int)+1).tmod (l.length:Int)=(((k+1)%l.length:Nat):Int):=rfl;have htm1:0≤((k:Int)+1).tmod (l.length:Int):=by rw [htm];omega
  have htm2:((k:Int)+1).tmod (l.length:Int)<(l.length:Int):=by rw [htm];exact_mod_cast hml
  have hat2':(((l.map rpx).flatten).drop ((((k:Int)+1).tmod (l.length:Int)).toNat*6)).take 6=rpx (l.getD ((k+1)%l.length) (0,0)):=by rw [htm];exact hat2
  have v1:=hh _ m1;have v2:=hh _ m2;unfold mO at hgo;clear hK hh hz htm hat2 m1 m2;generalize l.getD ((k+1)%l.length) (0,0)=w at *;generalize l.getD k (0,0)=v at *;obtain⟨a1,a2⟩:=v1;obtain⟨a3,a4⟩:=v2;have c1:=oA v.2 p.2 om om;have c2:=oA w.2 p.2 om om;have c3:=EN v w p ⟨om,om⟩ ⟨om,om⟩ ⟨om,om⟩;generalize(v.2-p.2).num.sign=za at *;generalize(w.2-p.2).num.sign=zb at *;generalize uC v w p=zo at *;clear a1 a2 a3 a4 p1 p2;by_cases ha:za≤0
  ·rw [if_pos ha]at hgo;by_cases hb:zb≤0
   ·rw [if_pos hb]at hgo;repeat(first|(refine AS ⟨?_⟩;intros)|(refine O1 ⟨?_⟩;intros))
    refine WdL 14 1 ?_;refine A2 ⟨?_⟩;intros;refine Wdo (ae (cs':=rpx v) rfl rfl om om hat hne) ?_;refine A2 ⟨?_⟩;intros;refine Wdo (ae (cs':=rpx w) rfl rfl htm1 htm2 hat2' hne) ?_;refine A2 ⟨?_⟩;intros;refine dL2 fun b7 b8=>?_
    refine Gs (sv:=ag (rpx v)) (cs':=rpx v) rfl rfl rfl (by first|exact .here _|exact .there _ (.here _)) rfl rfl ?_ ?_
    ·((repeat(first|exact LOk.nil|refine Lsk ?_|refine Lcv ?_));refine Lcv ?_ (ae (cs':=rpx w) rfl rfl htm1 htm2 hat2' hne);(repeat(first|exact LOk.nil|refine Lsk ?_|refine Lcv ?_)))
    refine Gn ?_ ?_
    ·((repeat(first|exact LOk.nil|refine Lsk ?_|refine Lcv ?_));refine Lcv ?_ (ae (cs':=rpx w) rfl rfl htm1 htm2 hat2' hne);(repeat(first|exact LOk.nil|refine Lsk ?_|refine Lcv ?_)))
    refine D3 c1 c2 c3 ⟨?_⟩;intros;exact hgo _ _ lfA (av _)
   ·rw [if_neg hb]at hgo;by_cases ho:0<zo
    ·rw [if_pos ho]at hgo;repeat(first|(refine AS ⟨?_⟩;intros)|(refine O1 ⟨?_⟩;intros))
     refine WdL 14 1 ?_;refine A2 ⟨?_⟩;intros;refine Wdo (ae (cs':=rpx v) rfl rfl om om hat hne) ?_;refine A2 ⟨?_⟩;intros;refine Wdo (ae (cs':=rpx w) rfl rfl htm1 htm2 hat2' hne) ?_;refine A2 ⟨?_⟩;intros;refine dL2 fun b7 b8=>?_
     refine Gs (sv:=ag (rpx v)) (cs':=rpx v) rfl rfl rfl (by first|exact .here _|exact .there _ (.here _)) rfl rfl ?_ ?_
     ·((repeat(first|exact LOk.nil|refine Lsk ?_|refine Lcv ?_));refine Lcv ?_ (ae (cs':=rpx w) rfl rfl htm1 htm2 hat2' hne);(repeat(first|exact LOk.nil|refine Lsk ?_|refine Lcv ?_)))
     refine Gn ?_ ?_
     ·((repeat(first|exact LOk.nil|refine Lsk ?_|refine Lcv ?_));refine Lcv ?_ (ae (cs':=rpx w) rfl rfl htm1 htm2 hat2' hne);(repeat(first|exact LOk.nil|refine Lsk ?_|refine Lcv ?_)))
     refine D3 c1 c2 c3 ⟨?_⟩;intros;exact hgo _ _ lfA (av _)
    ·rw [if_neg ho]at hgo;repeat(first|(refine AS ⟨?_⟩;intros)|(refine O1 ⟨?_⟩;intros))
     refine WdL 14 1 ?_;refine A2 ⟨?_⟩;intros;refine Wdo (ae (cs':=rpx v) rfl rfl om om hat hne) ?_;refine A2 ⟨?_⟩;intros;refine Wdo (ae (cs':=rpx w) rfl rfl htm1 htm2 hat2' hne) ?_;refine A2 ⟨?_⟩;intros;refine dL2 fun b7 b8=>?_
     refine Gs (sv:=ag (rpx v)) (cs':=rpx v) rfl rfl rfl (by first|exact .here _|exact .there _ (.here _)) rfl rfl ?_ ?_
     ·((repeat(first|exact LOk.nil|refine Lsk ?_|refine Lcv ?_));refine Lcv ?_ (ae (cs':=rpx w) rfl rfl htm1 htm2 hat2' hne);(repeat(first|exact LOk.nil|refine Lsk ?_|refine Lcv ?_)))
     refine Gn ?_ ?_
     ·((repeat(first|exact LOk.nil|refine Lsk ?_|refine Lcv ?_));refine Lcv ?_ (ae (cs':=rpx w) rfl rfl htm1 htm2 hat2' hne);(repeat(first|exact LOk.nil|refine Lsk ?_|refine Lcv ?_)))
     refine D3 c1 c2 c3 ⟨?_⟩;intros;exact hgo _ _ lfA (av _)
  ·rw [if_neg ha]at hgo;by_cases hb:zb≤0
   ·rw [if_pos hb]at hgo;by_cases ho:zo<0
    ·rw [if_pos ho]at hgo;repeat(first|(refine AS ⟨?_⟩;intros)|(refine O1 ⟨?_⟩;intros))
     refine WdL 14 1 ?_;refine A2 ⟨?_⟩;intros;refine Wdo (ae (cs':=rpx v) rfl rfl om om hat hne) ?_;refine A2 ⟨?_⟩;intros;refine Wdo (ae (cs':=rpx w) rfl rfl htm1 htm2 hat2' hne) ?_;refine A2 ⟨?_⟩;intros;refine dL2 fun b7 b8=>?_
     refine Gs (sv:=ag (rpx v)) (cs':=rpx v) rfl rfl rfl (by first|exact .here _|exact .there _ (.here _)) rfl rfl ?_ ?_
     ·((repeat(first|exact LOk.nil|refine Lsk ?_|refine Lcv ?_));refine Lcv ?_ (ae (cs':=rpx w) rfl rfl htm1 htm2 hat2' hne);(repeat(first|exact LOk.nil|refine Lsk ?_|refine Lcv ?_)))
     refine Gn ?_ ?_
     ·((repeat(first|exact LOk.nil|refine Lsk ?_|refine Lcv ?_));refine Lcv ?_ (ae (cs':=rpx w) rfl rfl htm1 htm2 hat2' hne);(repeat(first|exact LOk.nil|refine Lsk ?_|refine Lcv ?_)))
     refine D3 c1 c2 c3 ⟨?_⟩;intros;exact hgo _ _ lfA (av _)
    ·rw [if_neg ho]at hgo;repeat(first|(refine AS ⟨?_⟩;intros)|(refine O1 ⟨?_⟩;intros))
     refine WdL 14 1 ?_;refine A2 ⟨?_⟩;intros;refine Wdo (ae (cs':=rpx v) rfl rfl om om hat hne) ?_;refine A2 ⟨?_⟩;intros;refine Wdo (ae (cs':=rpx w) rfl rfl htm1 htm2 hat2' hne) ?_;refine A2 ⟨?_⟩;intros;refine dL2 fun b7 b8=>?_
     refine Gs (sv:=ag (rpx v)) (cs':=rpx v) rfl rfl rfl (by first|exact .here _|exact .there _ (.here _)) rfl rfl ?_ ?_
     ·((repeat(first|exact LOk.nil|refine Lsk ?_|refine Lcv ?_));refine Lcv ?_ (ae (cs':=rpx w) rfl rfl htm1 htm2 hat2' hne);(repeat(first|exact LOk.nil|refine Lsk ?_|refine Lcv ?_)))
     refine Gn ?_ ?_
     ·((repeat(first|exact LOk.nil|refine Lsk ?_|refine Lcv ?_));refine Lcv ?_ (ae (cs':=rpx w) rfl rfl htm1 htm2 hat2' hne);(repeat(first|exact LOk.nil|refine Lsk ?_|refine Lcv ?_)))
     refine D3 c1 c2 c3 ⟨?_⟩;intros;exact hgo _ _ lfA (av _)
   ·rw [if_neg hb]at hgo;repeat(first|(refine AS ⟨?_⟩;intros)|(refine O1 ⟨?_⟩;intros))
    refine WdL 14 1 ?_;refine A2 ⟨?_⟩;intros;refine Wdo (ae (cs':=rpx v) rfl rfl om om hat hne) ?_;refine A2 ⟨?_⟩;intros;refine Wdo (ae (cs':=rpx w) rfl rfl htm1 htm2 hat2' hne) ?_;refine A2 ⟨?_⟩;intros;refine dL2 fun b7 b8=>?_
    refine Gs (sv:=ag (rpx v)) (cs':=rpx v) rfl rfl rfl (by first|exact .here _|exact .there _ (.here _)) rfl rfl ?_ ?_
    ·((repeat(first|exact LOk.nil|refine Lsk ?_|refine Lcv ?_));refine Lcv ?_ (ae (cs':=rpx w) rfl rfl htm1 htm2 hat2' hne);(repeat(first|exact LOk.nil|refine Lsk ?_|refine Lcv ?_)))
    refine Gn ?_ ?_
    ·((repeat(first|exact LOk.nil|refine Lsk ?_|refine Lcv ?_));refine Lcv ?_ (ae (cs':=rpx w) rfl rfl htm1 htm2 hat2' hne);(repeat(first|exact LOk.nil|refine Lsk ?_|refine Lcv ?_)))
    refine D3 c1 c2 c3 ⟨?_⟩;intros;exact hgo _ _ lfA (av _)
 ·have hke:k=l.length:=by omega
  subst hke;subst hz;clear hK;exact Z1
def S5 (fill n:Int):Bool:=if fill=1 then decide (n.tmod 2≠0)else decide (n≠0)
theorem CZ (fill n:Int) (hf:fill=1∨fill=2) (hn:n.natAbs≤1000000000):Pu Tryz.prog 203 [lit (.int .i64 fill),lit (.int .i64 n)] (lit (.bool (S5 fill n))):=by
 unfold S5;rcases hf with rfl|rfl
 ·rw [if_pos rfl];by_cases h:n.tmod 2=0
  ·rw [aa (fun k=>k h)];refine Pi Tryz.func203 fun C=>?_
   exact Z1
  ·rw [a9 h];refine Pi Tryz.func203 fun C=>?_
   exact Z1
 ·rw [if_neg (by decide)];by_cases h:n=0
  ·rw [aa (fun k=>k h)];refine Pi Tryz.func203 fun C=>?_
   exact Z1
  ·rw [a9 h];refine Pi Tryz.func203 fun C=>?_
   exact Z1
abbrev zD (rs:List (List Pq)):SV:=sl (rs.map fun r=>[rps r]).flatten rs.length
abbrev JG (rs:List (List Pq)):SV:=sl (rs.map fun r=>[aps r]).flatten rs.length
abbrev rgR (rs:List (List Pq)) (fill:Int) (ls:List Li):SV:=ag [zD rs,lit (.int .i64 fill),lqs ls]
def inR (rs:List (List Pq)) (fill:Int) (p:Pq):Bool:=S5 fill (rs.foldl (fun n r=>n+zJ r p) 0)
theorem BX (p:Pq):∀(rs:List (List Pq)) (n:Int),(∀r∈rs,r.length≤6)→(rs.foldl (fun n r=>n+zJ r p) n).natAbs≤n.natAbs+6*rs.length
 | [],n,_=>by simp
 |r::rs,n,h=>by
  have:=BX p rs (n+zJ r p) (fun r hr=>h r (Mc hr));have h1:=Dt r p;have h2:=h r Ms;rw [gX,aF];omega
theorem NY {rs:List (List Pq)}{fill:Int}{ls:List Li}{p:Pq}(hf:fill=1∨fill=2) (hl:rs.length≤1000) (hh:∀r∈rs,oo r) (hp':hp p 900):Pu Tryz.prog 155 [rgR rs fill ls,ag (rpx p)] (lit (.bool (inR rs fill p))):=by
 have h6:∀r∈rs,r.length≤6:=fun r hr=>(hh r hr).1
 have hb:=fun k=>BX p (rs.take k) 0 (fun r hr=>h6 r (gP hr))
 have hbl:=BX p rs 0 h6;have ca:=CZ fill (rs.foldl (fun n r=>n+zJ r p) 0) hf (by have e:(0:Int).natAbs=0:=rfl;omega);unfold inR;refine Pi Tryz.func155 fun C=>?_
 repeat(first|(refine Wo (cF (sv:=ag _) rfl) ?_)|(refine Wdo (cF (sv:=ag _) rfl) ?_)|(refine A1 ⟨?_⟩;intros))
 refine WP.loopS (ι:=Nat×Int) (fun y=>y.1≤rs.length∧y.2=(rs.take y.1).foldl (fun n r=>n+zJ r p) 0) (fun y=>rs.length-y.1)
  (fun y=>fm [(2,pt [zD rs,lit (.int .i64 fill),lqs ls]),(3,pt (rpx p)),(5,lit (.int .i64 y.2)),(9,zD rs),(10,lit (.int .i64 rs.length)),(11,lit (.int .i64 y.1))]) (fun _=>[]) (0,0)
  ⟨an _,rfl⟩ lfA (av _) ?_
 rintro ⟨k,z⟩ ⟨hk,hz⟩ K hK;simp only at hk hz⊢;by_cases hkl:k<rs.length
 ·obtain⟨r,hget,hmm,hat,hne⟩:=elt (f:=fun r=>[rps r]) (n:=1) (fun _=>rfl) om hkl;have hgo:=fun F' H'=>hK F' H' (k+1,z+zJ r p) ⟨by simp only;omega,by simp only;rw [qG hget,←hz]⟩ (by simp only;omega)
  have c:=EO (l:=r) (p:=p) (by have:=h6 r hmm;omega) (fun q hq=>⟨by have:=((hh r hmm).2.1 q hq).ht.1;omega,by have:=((hh r hmm).2.1 q hq).ht.2;omega⟩) hp';have hzb:=hb k;rw [←hz,aC]at hzb;have hnb:=Dt r p;have h6r:=h6 r hmm;have e0:(0:Int).natAbs=0:=rfl;clear hK hh hget hmm hz hb hbl ca h6;generalize zJ r p=z2 at *;refine A2 ⟨?_⟩;intros;refine Wo (ae (cs':=[rps r]) rfl rfl om om hat hne) ?_;refine D1 c ⟨?_⟩;intros;exact hgo _ _ lfA (av _)
 ·have hke:k=rs.length:=by omega
  subst hke;rw [aP]at hz;rw [←hz]at ca⊢;clear hK hb hbl;exact Y1 ca
end Go.Ab
