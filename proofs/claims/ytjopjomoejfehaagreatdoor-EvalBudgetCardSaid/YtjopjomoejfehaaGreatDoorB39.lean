/- Texts laid one behind the other: EvEnv, EvBud, EvB, EvC, KaL. -/
import Derived.Test.YtjopjomoejfehaaGreatDoorB38
set_option linter.all false
set_option maxHeartbeats 16000000
namespace Go.Ab
open Go.Proofs
variable [Base]
def abc:List (List UInt8):=[[97],[98],[99]]
structure w6 where
 ts:List Tr
 L:List Li
 len:ts.length≤3
 ll:L.length≤36
 sm:∀l∈L,l.sm
 gd:∀t∈ts,Gd L t
abbrev w6.nm (e:w6):List (List UInt8):=abc.take e.ts.length
theorem w6.nml (e:w6):e.nm.length=e.ts.length:=by
 have:=e.len;show(abc.take e.ts.length).length=_
 rw [aA];show min e.ts.length 3=_
 omega
theorem w6.evE (e:w6){M:List Li}{LL:Nat}(h1:∀l∈M,l.ok) (h2:∀l∈M,l.le LL) (h3:1≤LL) (h4:LL≤500) (h5:M.length≤100) (h6:∀l∈e.L,l∈M):EvE M LL e.nm e.ts :=
 ⟨h1,h2,h3,h4,h5,(fun t ht=>Tr.lin.mono h6 (e.gd t ht).1),(fun t ht=>by have:=(e.gd t ht).dep;have:=e.ll;omega),e.nml,by rw [e.nml];have:=e.len;omega⟩
abbrev FE (e:w6):SV:=ag [sl (e.nm.map str) e.ts.length,sl (e.ts.map rt) e.ts.length]
abbrev envR:SV:=ex fun e:w6=>Ab.tup [FE e,tqs e.ts]
abbrev Nc:TypeId:=51
abbrev xR:TypeId:=28
theorem Sn (A X Y:LH):(A++(X++Y)).Perm (X++(A++Y)):=by
 rw [←av,←av];exact aC.append_right Y
theorem Sm (c:Nat×TypeId×List SV) (A X Y:LH):(c::(X++(A++Y))).Perm (Y++(c::(X++A))):=by
 rw [←av,←aa];exact aC
theorem Sj (c:Nat×TypeId×List SV) (A X Y:LH):(Y++(c::(X++A))).Perm (c::(A++(X++Y))):=by
 have h1:(Y++(c::(X++A))).Perm ((c::(X++A))++Y):=aC;refine h1.trans ?_;rw [aa];refine List.Perm.cons c ?_;rw [←av];exact aC.append_right Y
theorem Si (A X Y:LH):(A++(X++Y)).Perm (Y++(A++X)):=by
 rw [←av];exact aC
structure SM where
 ts:List Tr
 L:List Li
 s1:SV
 H1:LH
 s2:SV
 H2:LH
theorem Nf {ts:List Tr}{t:Tr}{s:SV}{H:LH}(h:Own Nc 1 (ts.length+1) (ts.map rt++[rt t]) s H):Own Nc 1 (ts++[t]).length ((ts++[t]).map rt) s H:=by
 rw [aB,ac,bh];exact h
theorem MU {ts:List Tr}{t:Tr}{s:SV}{H:LH}(h:Own 42 2 (ts.length+1) ((ts.map tqx).flatten++tqx t) s H):Own 42 2 (ts++[t]).length ((ts++[t]).map tqx).flatten s H:=by
 rw [aB,cS,ac,bh];simp only [aG,fw,bP,iX,bw];exact h
theorem R0 (zs:List Int) (hz:zs.length≤400):PuT 5 zs [] envR:=by
 have hreg:=Ej zs hz 0 om;rw [show(12*2^0:Nat)=12 from rfl,show(((0:Nat):Int))=0 from rfl]at hreg;refine PuM.intro Tryz.func5 rfl kr fun C b=>?_
 repeat(first|(refine Wo (ee (r:=[(0,[str [97]]),(1,[str [98]]),(2,[str [99]])]) (cs:=[str [97],str [98],str [99]]) (.cons (sv:=str [97]) rfl inferInstance (.cons (sv:=str [98]) rfl inferInstance (.cons (sv:=str [99]) rfl inferInstance .nil)))) ?_)|(refine Wdo (ee (r:=[(0,[str [97]]),(1,[str [98]]),(2,[str [99]])]) (cs:=[str [97],str [98],str [99]]) (.cons (sv:=str [97]) rfl inferInstance (.cons (sv:=str [98]) rfl inferInstance (.cons (sv:=str [99]) rfl inferInstance .nil)))) ?_)|(refine A1 ⟨?_⟩;intros))
 refine Wtx (f9 zs hz 4 om om) mmA fun k=>?_
 obtain⟨k,hk⟩:=k;simp only [];refine Wo (KB (sz:=1) k rfl rfl rfl om) ?_;rw [cw,show([str [97],str [98],str [99]]:List SV)=abc.map str from rfl,←mV];generalize hnm:(abc.take k).map str=nms at *;refine A2 ⟨?_⟩;intros;rename_i b2 b4
 refine WP.loopS (ι:=SM) (fun y=>y.ts.length≤k∧y.L.length≤12*y.ts.length∧(∀l∈y.L,l.sm)∧(∀t∈y.ts,Gd y.L t)∧Own Nc 1 y.ts.length (y.ts.map rt) y.s1 y.H1∧Own 42 2 y.ts.length (y.ts.map tqx).flatten y.s2 y.H2) (fun y=>k-y.ts.length)
  (fun y=>fm [(0,lit (.pointer (some ⟨b,0,none⟩))),(2,lit (.pointer (some ⟨b2,0,none⟩))),(4,lit (.pointer (some ⟨b4,0,none⟩))),(5,y.s2),(14,lit (.int .i64 k)),(15,lit (.int .i64 y.ts.length))])
  (fun y=>(b4,xR,[sl nms k,y.s1])::(b2,xR,[lit (.slice none 0 0),lit (.slice none 0 0)])::(b,49,mD zs)::(y.H1++y.H2)) ⟨[],[],lit (.slice none 0 0),[],lit (.slice none 0 0),[]⟩ ⟨ak _,ar _,(fun l hl=>by cases hl),(fun t ht=>by cases ht),Own.nil _ _,Own.nil _ _⟩ lfA Sr ?_
 rintro ⟨ts,L,s1,H1,s2,H2⟩ ⟨hk1,hLl,hLs,hgd,own1,own2⟩ K hK;simp only at hk1 hLl hLs hgd own1 own2⊢;have hco1:=own1.co;have hco2:=own2.co;by_cases hkl:ts.length<k
 ·refine A2 ⟨?_⟩;intros;refine Wtx hreg mmA fun x=>?_
  obtain⟨x,M,m1,m2,m3⟩:=x;simp only [];have y1:=m3.size (B5 m2);have y2:M.length*(1+M.length)≤12*13:=dk m1 om;have w1:=I1 x (Tr.lin.all (fun l hl=>(m2 l hl).ile) m3.1) (by rw [rM];omega)
  have hgo:=fun s1' H1' s2' H2' (h1:Own Nc 1 (ts.length+1) (ts.map rt++[rt x]) s1' H1') (h2:Own 42 2 (ts.length+1) ((ts.map tqx).flatten++tqx x) s2' H2') F' H'=>hK F' H' ⟨ts++[x],L++M,s1',H1',s2',H2'⟩
   ⟨by simp only [ac,bh];omega,by simp only [ac,bh];omega,(fun l hl=>(az.1 hl).elim (hLs l) (m2 l)),
    (fun t ht=>(az.1 ht).elim (fun h=>Gd.mono (fun l hl=>bV _ hl) (hgd t h)) fun h=>by rw [au.1 h];exact Gd.mono (fun l hl=>cO _ hl) m3),Nf h1,MU h2⟩ (by simp only [ac,bh];omega)
  simp only [ac,bh]at hgo;clear hK hLl hLs hgd m1 m2 m3 y1 y2 hreg;refine A2 ⟨?_⟩;intros;rename_i b9;refine qO own1 (Sn [(b9,_,_),(b4,_,_),(b2,_,_),(b,_,_)] H1 H2) om (fun s1' H1' own1'=>?_) (bV _ Ms);have hco1':=own1'.co;refine D1 w1 ⟨?_⟩;intros;rename_i b10;refine qO own2 (Sm _ _ H1' H2) om (fun s2' H2' own2'=>?_) Ms;have hco2':=own2'.co;refine WPL.perm (Sj _ [(b9,_,_),(b4,_,_),(b2,_,_),(b,_,_)] H1' H2') ?_;simp only [aa,a8];replace hgo:=hgo s1' H1' s2' H2' own1' own2';clear own1 own2 own1' own2' w1;refine A2 ⟨?_⟩;intros;refine WPL.store (b:=b4) (o:=1) (sv:=s1') (cs':=[sl nms k,s1']) rfl rfl rfl (.there _ (.there _ (.here _))) rfl rfl ?_;refine A2 ⟨?_⟩;intros;exact hgo _ _ lfA Sw
 ·have hke:ts.length=k:=by omega
  subst hke;have hlt:ts.length≤3:=by omega
  have hfin:∀e1:w6,e1.ts=ts→e1.nm.map str=nms:=fun e1 h=>by
   show(abc.take e1.ts.length).map str=nms
   rw [h];exact hnm
  refine WP.rowS 5 own2 rfl (R:=[(b4,xR,[sl nms ts.length,s1]),(b2,xR,[lit (.slice none 0 0),lit (.slice none 0 0)]),(b,49,mD zs)]++H1) (Si [(b4,_,_),(b2,_,_),(b,_,_)] H1 H2) ?_;clear hK own2;simp only [aa,a8];refine WP.pubOwnC (o:=b4) (c1:=[sl nms ts.length]) (c2:=[]) own1 (List.Perm.cons _ (aC (l₁:=[(b2,_,_),(b,_,_)]))) ?_;clear own1 hco1 hco2;simp only [aa,a8];have hn:=hfin ⟨ts,L,hlt,om,hLs,hgd⟩ rfl;refine A2 ⟨?_⟩;intros
  exact fG () _ (eJ RVa (RV.tmp rfl) (Le.ex (f:=fun e:w6=>Ab.tup [FE e,tqs e.ts]) ⟨ts,L,hlt,om,hLs,hgd⟩ (by
   simp only [FE];rw [hn];exact Le.refl _))) mmA (LeL.refl _)
theorem s6 {nm:List (List UInt8)}{ts:List Tr}{free:Bool}{bud:Int}:∀{ns:List Nd}{out outs:List Tr},kX nm ts free bud ns out = .ok outs→∃r,outs=out++r∧r.length=ns.length
 | [],out,outs,h=>by
  unfold kX at h;cases h;exact⟨[],by simp,rfl⟩
 |n::ns,out,outs,h=>by
  unfold kX at h;split at h
  ·cases h
  ·split at h
   ·cases h
   ·rename_i t _ _;obtain⟨r,h1,h2⟩:=s6 h;exact⟨t::r,by rw [h1];simp,by simp [h2]⟩
theorem yH {nm:List (List UInt8)}{ts:List Tr}{b0 bud:Int}:∀{ns:List Nd}{out outs:List Tr},kX nm ts true b0 ns out = .ok outs→(∀t∈outs,((aH t:Nat):Int)≤bud)→kX nm ts false bud ns out = .ok outs
 | [],out,outs,h,_=>by
  unfold kX at h⊢;exact h
 |n::ns,out,outs,h,hb=>by
  unfold kX at h⊢;cases e:evP nm ts out n with
  |error c=>rw [e]at h;cases h
  |ok t =>
   rw [e]at h;simp only at h⊢;rw [if_neg (by unfold ug;simp)]at h;obtain⟨r,h1,_⟩:=s6 h;have:=hb t (by rw [h1];simp);rw [if_neg (by unfold ug;simp;omega)];exact yH h hb
theorem AG {nm:List (List UInt8)}{ts:List Tr}{b0 bud:Int}:∀{ns:List Nd}{out outs:List Tr},kX nm ts true b0 ns out = .ok outs→(∃j t,out.length≤j∧outs[j]? = some t∧bud<((aH t:Nat):Int))→∃n,kX nm ts false bud ns out = .error (7,n)
 | [],out,outs,h,⟨j,t,h1,h2,_⟩=>by
  unfold kX at h;cases h;have:=(bC.1 h2).1;omega
 |n::ns,out,outs,h,⟨j,t,h1,h2,h3⟩=>by
  unfold kX at h⊢;cases e:evP nm ts out n with
  |error c=>rw [e]at h;cases h
  |ok u =>
   rw [e]at h;simp only at h⊢;rw [if_neg (by unfold ug;simp)]at h;by_cases ho:ug false bud u=true
   ·rw [if_pos ho];exact⟨n,rfl⟩
   ·rw [if_neg ho];refine AG h ⟨j,t,?_,h2,h3⟩;rw [ac,bh];by_cases c:j=out.length
    ·obtain⟨r,g1,_⟩:=s6 h;have:outs[j]? = some u:=by rw [g1,c];simp
     rw [h2]at this;obtain rfl:=bk this;exact absurd (by unfold ug;simp;exact h3) ho
    ·omega
theorem Fv {α:Type}{l:List α}{i:Nat}{x d:α}(h:l[i]? = some x):l.getD i d=x:=by rw [List.getD,h];rfl
theorem LY {nm:List (List UInt8)}{ts:List Tr}{zs:List Int}{b0:Int}(hz:∀i,aH (ts.getD i (.leaf false))≤(zs.getD i 0).toNat):∀(ns:List Nd) (i:Nat) (st:List (Ex×Nat)) (vs ob:List Nat) (out outs:List Tr),(stk ns i st).isSome=true→out.length=i→ob.length=i→BS ob st vs→(∀(j:Nat) (t:Tr),out[j]? = some t→∃v:Nat,ob[j]? = some v∧aH t≤v)→kX nm ts true b0 ns out = .ok outs→(∀t∈outs,aH t≤su)→
  ∃bs,vZ (iP nm zs) ns vs ob=some bs∧bs.length=outs.length∧∀(j:Nat) (t:Tr),outs[j]? = some t→∃v:Nat,bs[j]? = some v∧aH t≤v
 | [],i,st,vs,ob,out,outs,_,h1,h2,_,h4,h5,_=>by
  unfold kX at h5;cases h5;exact⟨ob,rfl,om,h4⟩
 |n::ns,i,st,vs,ob,out,outs,hs,h1,h2,h3,h4,h5,h6=>by
  rw [nQ]at hs;cases hp:stp i n st with
  |none=>rw [hp]at hs;cases hs
  |some st' =>
  rw [hp]at hs;simp only at hs
  have hok:okN n=true:=by
   unfold stp at hp;split at hp
   ·assumption
   ·cases hp
  unfold stp at hp;rw [if_pos hok]at hp;unfold kX at h5;cases e:evP nm ts out n with
  |error c=>rw [e]at h5;cases h5
  |ok t =>
  rw [e]at h5;simp only at h5;rw [if_neg (by unfold ug;simp)]at h5;obtain⟨r,hr,_⟩:=s6 h5;have htm:aH t≤su:=h6 t (by rw [hr];simp)
  have fin:∀(v:Nat) (r:List Nat),gX (iP nm zs) n vs=some (v,r)→aH t≤v→(∀w:Nat,BS (ob++[v]) st' (v::r))→∃bs,vZ (iP nm zs) (n::ns) vs ob=some bs∧bs.length=outs.length∧∀(j:Nat) (t:Tr),outs[j]? = some t→∃v:Nat,bs[j]? = some v∧aH t≤v:=fun v r hb hv hst=>by
   rw [sh,hb];simp only;refine LY hz ns (i+1) st' (v::r) (ob++[v]) (out++[t]) outs hs (by simp [h1]) (by simp [h2]) (hst 0) (fun j u hj=>?_) h5 h6;by_cases c:j<out.length
   ·rw [dO c]at hj;obtain⟨w,g1,g2⟩:=h4 j u hj;exact⟨w,by rw [dO om];exact g1,g2⟩
   ·have hj2:=(bC.1 hj).1;rw [ac,bh]at hj2;have hje:j=out.length:=by omega
    subst hje;rw [gh om,ga]at hj;obtain rfl:=bk hj;exact⟨v,by rw [gh om,h2,h1,ga];rfl,hv⟩
  have last:∀v,(ob++[v])[i]? = some v:=fun v=>by rw [gh om,h2,ga];rfl
  unfold evP at e;unfold gX at fin;by_cases k5:n.k=5
  ·rw [if_pos k5]at hp;rw [if_neg om,if_neg om,if_pos k5]at e;rw [if_neg om,if_neg om,if_pos k5]at fin;cases h3 with
   |nil=>cases hp
   |cons g k =>
    rename_i x j v st0 vs0;simp only at hp;split at hp
    ·rename_i hx;cases hp;cases e;refine fin v vs0 rfl ?_ fun _ => .cons (last v) (k.more v)
     have hj:j<out.length:=by have:=(bC.1 g).1;omega
     obtain⟨w,w1,w2⟩:=h4 j out[j] (ax hj);rw [g]at w1;obtain rfl:=bk w1;rw [(rX _).1,hx,e9,Fv (ax hj)];exact w2
    ·cases hp
  ·rw [if_neg k5]at hp;by_cases k6:n.k=6
   ·rw [if_pos k6]at hp;rw [if_neg om,if_neg om,if_neg k5,if_pos k6]at e;rw [if_neg om,if_neg om,if_neg k5,if_pos k6]at fin;cases h3 with
    |nil=>cases hp
    |cons g k =>
     cases k with
     |nil=>cases hp
     |cons g2 k =>
      rename_i y ky b x j a st1 vs0;simp only at hp;split at hp
      ·rename_i hx;cases hp;cases e;refine fin (bnd a b) vs0 rfl ?_ fun _ => .cons (last _) (k.more _)
       have hj:j<out.length:=by have:=(bC.1 g2).1;omega
       have hk:ky<out.length:=by have:=(bC.1 g).1;omega
       obtain⟨w,w1,w2⟩:=h4 j out[j] (ax hj);obtain⟨u,u1,u2⟩:=h4 ky out[ky] (ax hk);rw [g2]at w1;rw [g]at u1;obtain rfl:=bk w1;obtain rfl:=bk u1;rw [hx.1,hx.2,e9,e9,Fv (ax hj),Fv (ax hk)]at htm⊢;have:=(mn n.op out[j] out[ky] []).1;have m:=dk (Nat.add_le_add_right w2 1) u2;unfold bnd;omega
      ·cases hp
   ·rw [if_neg k6]at hp;cases hp;by_cases k1:n.k=1
    ·rw [if_pos k1]at e;rw [if_pos k1]at fin;by_cases hf:sA nm n.nm<0
     ·rw [if_pos hf]at e;cases e
     ·rw [if_neg hf]at e;cases e;have he:iP nm zs n.nm=some ((zs.getD (sA nm n.nm).toNat 0).toNat):=by unfold iP;rw [if_neg hf]
      rw [he]at fin;exact fin _ vs rfl (aO ((kU _ []).1) (hz _)) fun _ => .cons (last _) (h3.more _)
    ·rw [if_neg k1]at e fin;by_cases k4:n.k=4
     ·rw [if_pos k4]at e fin;split at e
      ·cases e
      ·cases e;exact fin 1 vs rfl (by simp [aH]) fun _ => .cons (last _) (h3.more _)
     ·rw [if_neg k4,if_neg k5,if_neg k6]at e fin;cases e;exact fin 0 vs rfl (by simp [aH]) fun _ => .cons (last _) (h3.more _)
abbrev zTr:SV:=ag [lit (.int .i64 0),lit (.slice none 0 0)]
section
variable {a b c:SV}{bud:Int}
theorem LW {g:Nat}{l k s:SV}(h:Pu Tryz.prog 16 [a,b,c,lit (.int .i64 bud),lit (.bool false)] (Ab.tup [lit (.slice none 0 0),erA g l k s])):Pu Tryz.prog 11 [a,b,c,lit (.int .i64 bud)] (Ab.tup [zTr,erA g l k s]):=by
 refine Pi Tryz.func11 fun C=>?_
 refine D1 h ⟨?_⟩;intros;refine Wo (wO (s:=pt _) kr rfl) ?_;refine A2 ⟨?_⟩;intros;exact G3
theorem BR {out:List Tr}{t:Tr}(hn:out.length≤1000) (ht:out[out.length-1]? = some t) (hle:t.all fun l=>l.le 1000000) (hsz:t.size≤1000000) (h:Pu Tryz.prog 16 [a,b,c,lit (.int .i64 bud),lit (.bool false)] (Ab.tup [sl (out.map bt) out.length,lit .nilIface])):Pu Tryz.prog 11 [a,b,c,lit (.int .i64 bud)] (Ab.tup [tq t,lit .nilIface]):=by
 have hlt:=(bC.1 ht).1;have hat:=JC ht;have hne:out.map bt≠[]:=fun e=>by rw [lr]at e;rw [e]at hlt;simp at hlt
 have ca:=MZ t hle hsz;refine Pi Tryz.func11 fun C=>?_
 refine D1 h ⟨?_⟩;intros;refine Wo (ae (i:=((out.length-1:Nat):Int)) (cs':=[bt t]) rfl (by show lit _=_;congr 2;omega) om om hat hne) ?_;refine D1 ca ⟨?_⟩;intros;exact G3
theorem HX {g:Nat}{l k s:SV}(h:Pu Tryz.prog 16 [a,b,c,lit (.int .i64 0),lit (.bool true)] (Ab.tup [lit (.slice none 0 0),erA g l k s])):Pu Tryz.prog 7 [a,b,c] (Ab.tup [lit (.slice none 0 0),erA g l k s]):=by
 refine Pi Tryz.func7 fun C=>?_
 refine D1 h ⟨?_⟩;intros;refine Wo (wO (s:=pt _) kr rfl) ?_;refine A2 ⟨?_⟩;intros;exact G2
structure SzS where
 k:Nat
 s:SV
 Hs:LH
abbrev szI (t:Tr):SV:=lit (.int .i64 (aH t:Nat))
theorem JH {ts:List Tr}{k:Nat}{t:Tr}(h:ts[k]? = some t):(ts.take (k+1)).map szI=(ts.take k).map szI++[szI t]:=by
 rw [jh h,aB];rfl
theorem JX {out:List Tr}(hn:out.length≤1000) (hz:∀t∈out,aH t≤100000000) (h:Pu Tryz.prog 16 [a,b,c,lit (.int .i64 0),lit (.bool true)] (Ab.tup [sl (out.map bt) out.length,lit .nilIface])):Pu Tryz.prog 7 [a,b,c] (Ab.tup [sl (out.map szI) out.length,lit .nilIface]):=by
 refine PuH.toPu ?_;refine PuH.intro Tryz.func7 rfl kr fun C hC=>?_
 refine D1 h ⟨?_⟩;intros
 refine WP.loopS (ι:=SzS) (fun y=>y.k≤out.length∧Own 3 1 y.k ((out.take y.k).map szI) y.s y.Hs) (fun y=>out.length-y.k)
  (fun y=>fm [(10,y.s),(23,sl (out.map bt) out.length),(24,lit (.int .i64 out.length)),(25,lit (.int .i64 y.k))])
  (fun y=>y.Hs) ⟨0,lit (.slice none 0 0),[]⟩ ⟨ak _,Own.nil _ _⟩ lfA Sr ?_
 rintro ⟨k,s,Hs⟩ ⟨hk,hown⟩ K hK;simp only at hk hown⊢;have hco:=hown.co;by_cases hkl:k<out.length
 ·have hget:=ax hkl;generalize out[k]=t at hget;have hat:=JC hget;have hne:out.map bt≠[]:=fun e=>by rw [lr]at e;rw [e]at hkl;simp at hkl
  have cs:=z9 t (hz t (bo hget));have hgo:=fun s' H1 (h1:Own 3 1 (k+1) ((out.take k).map szI++[szI t]) s' H1) F' H'=>hK F' H' ⟨k+1,s',H1⟩ ⟨by simp only;omega,by simp only;rw [JH hget];exact h1⟩ (by simp only;omega)
  clear hK h hget hz;refine A2 ⟨?_⟩;intros;refine Wo (ae (cs':=[bt t]) rfl rfl om om hat hne) ?_;refine D1 cs ⟨?_⟩;intros;refine oo hown om (fun s' H1 hown'=>?_) (hsp:=Tk.skip _ (Tk.same _));have hco':=hown'.co;replace hgo:=hgo s' H1 hown';clear hown hown';simp only [aa,a8];refine A2 ⟨?_⟩;intros;exact hgo _ _ lfA Sw
 ·have hke:k=out.length:=by omega
  subst hke;rw [aX]at hown;refine WP.rowS 10 hown rfl (aC (l₁:=[])) ?_;clear hK hown h;refine A2 ⟨?_⟩;intros;exact cD _ _ (eJ (RV.tmp rfl) (RV.tmp rfl) Lr) (aF _) rfl
end
abbrev t5:SV:=ag [lit (.int .i64 5),lit (.slice none 0 0)]
abbrev kvT:TypeId:=291
abbrev ktT:TypeId:=236
abbrev kh (p:Nat):SV:=lit (.pointer (some ⟨p,0,none⟩))
abbrev kTx:List UInt8:=[97,32,45,32,97]
abbrev kvC (k:Nat):List SV:=[str kTx,lit (.int .i64 k),lit (.int .i64 1),lit (.int .i64 (k+1:Nat))]
structure Tq where
 k:Nat
 t:List UInt8
 c:Nat
abbrev ktx (a:Tq):List SV:=[lit (.int .i64 a.k),str a.t,lit (.int .i64 1),lit (.int .i64 a.c)]
abbrev kqA:Tq:=⟨1,[97],1⟩
abbrev kqM:Tq:=⟨3,[45],3⟩
abbrev kqB:Tq:=⟨1,[97],5⟩
abbrev kqE:Tq:=⟨0,[],6⟩
abbrev kts (ts:List Tq):SV:=sl (ts.map ktx).flatten ts.length
theorem OC (l:List UInt8) (k n:Nat):([str l,lit (.int .i64 ((k+n:Nat):Int)),lit (.int .i64 1),lit (.int .i64 (k+n+1:Nat))]:List SV)=[str l,lit (.int .i64 ((k:Int)+n)),lit (.int .i64 1),lit (.int .i64 (((k+1:Nat):Int)+n))]:=by
 rw [show((k+n:Nat):Int)=(k:Int)+n by omega,show((k+n+1:Nat):Int)=((k+1:Nat):Int)+n by omega]
theorem Lt (r k n:Nat) (l:List UInt8) (h:k+n≤l.length) (hl:l.length≤100000) :
  PuH Tryz.prog 220 [kh r,lit (.int .i64 n)] [(r,kvT,[str l,lit (.int .i64 k),lit (.int .i64 1),lit (.int .i64 (k+1:Nat))])] (fun v H=>v=str ((l.drop k).take n)∧H=[(r,kvT,[str l,lit (.int .i64 ((k+n:Nat):Int)),lit (.int .i64 1),lit (.int .i64 (k+n+1:Nat))])]) noX:=by
 rw [show(l.drop k).take n=(l.take (k+n)).drop k by rw [mW,lH],OC];refine PuH.intro Tryz.func220 rfl kr fun C hC=>?_
 refine A2 ⟨?_⟩;intros;refine Wdo (Qg (i:=k) (j:=k+n) rfl (fun y hy=>by cases hy;exact⟨_,_,rfl,rfl⟩) (fun h=>by cases h) (fun y hy=>by cases hy;exact⟨_,_,rfl,om⟩) (fun h=>by cases h) om h) ?_;refine A2 ⟨?_⟩;intros;exact cD _ _ (bO (RV.tmp rfl) Lr) Sr ⟨rfl,rfl⟩
theorem yk (r k k':Nat) (b:UInt8) (h:k'=k+1) (hk:k+1≤kTx.length) (hb:(kTx.drop k).take 1=[b]) :
  PuH Tryz.prog 220 [kh r,lit (.int .i64 1)] [(r,kvT,kvC k)] (fun v H=>v=str [b]∧H=[(r,kvT,kvC k')]) noX:=by
 have c:=Lt r k 1 kTx hk (by decide);subst h;rw [hb]at c;exact c
theorem kcl (b:UInt8) (z:Int) (h:yW b.toNat=z):Pu Tryz.prog 219 [u8 b.toNat] (lit (.int .i64 z)):=h▸yY b.toNat_lt
theorem IL:Pu Tryz.prog 219 [u8 97] (lit (.int .i64 3)):=kcl 97 3 (by decide +kernel)
theorem QN:Pu Tryz.prog 219 [u8 32] (lit (.int .i64 1)):=kcl 32 1 (by decide +kernel)
theorem RE:Pu Tryz.prog 219 [u8 45] (lit (.int .i64 5)):=kcl 45 5 (by decide +kernel)
theorem uw (r k k':Nat) (h:k=0∧k'=0∨k=1∧k'=2∨k=3∧k'=4∨k=5∧k'=5) :
  PuH Tryz.prog 218 [kh r] [(r,kvT,kvC k)] (fun v H=>v=Ab.tup []∧H=[(r,kvT,kvC k')]) noX:=by
 have t1:=yk r 1 2 32 rfl (by decide) rfl;have t2:=yk r 3 4 32 rfl (by decide) rfl;have hl:kTx.length=5:=rfl;rcases h with⟨rfl,rfl⟩|⟨rfl,rfl⟩|⟨rfl,rfl⟩|⟨rfl,rfl⟩
 ·refine PuH.intro Tryz.func218 rfl kr fun C hC=>?_
  refine WP.block ?_;refine WP.unroll 3 (WPR.succ ?_);refine D1 IL ⟨?_⟩;intros;exact cD _ _ jx Sr ⟨rfl,rfl⟩
 ·refine PuH.intro Tryz.func218 rfl kr fun C hC=>?_
  refine WP.block ?_;refine WP.unroll 3 (WPR.succ ?_);refine D1 QN ⟨?_⟩;intros;refine WfT t1 ?_;rintro _ _ ⟨rfl,rfl⟩;simp only [aa,a8];refine D1 RE ⟨?_⟩;intros;exact cD _ _ jx Sr ⟨rfl,rfl⟩
 ·refine PuH.intro Tryz.func218 rfl kr fun C hC=>?_
  refine WP.block ?_;refine WP.unroll 3 (WPR.succ ?_);refine D1 QN ⟨?_⟩;intros;refine WfT t2 ?_;rintro _ _ ⟨rfl,rfl⟩;simp only [aa,a8];refine D1 IL ⟨?_⟩;intros;exact cD _ _ jx Sr ⟨rfl,rfl⟩
 ·refine PuH.intro Tryz.func218 rfl kr fun C hC=>?_
  refine WP.block ?_;refine WP.unroll 3 (WPR.succ ?_);refine A2 ⟨?_⟩;intros;exact gE _ _ jx Sr ⟨rfl,rfl⟩
theorem GX (r k:Nat) (h:k=0∨k=4) :
  PuH Tryz.prog 221 [kh r,sl [lit (.int .i64 3),lit (.int .i64 4)] 2] [(r,kvT,kvC k)] (fun v H=>v=lit (.int .i64 1)∧H=[(r,kvT,kvC k)]) noX:=by
 have hl:kTx.length=5:=rfl;rcases h with rfl|rfl
 ·refine PuH.intro Tryz.func221 rfl kr fun C hC=>?_
  refine A2 ⟨?_⟩;intros;refine WP.unroll 3 (WPR.succ ?_);refine D1 IL ⟨?_⟩;intros;refine WP.unroll 3 (WPR.succ ?_);refine A2 ⟨?_⟩;intros;refine Wo (ae (cs':=[lit (.int .i64 3)]) rfl rfl om om rfl (by simp)) ?_;refine A2 ⟨?_⟩;intros;refine Wdo (ui (i:=1) rfl rfl om) ?_;refine D1 QN ⟨?_⟩;intros;refine WP.unroll 3 (WPR.succ ?_);refine A2 ⟨?_⟩;intros;refine Wo (ae (cs':=[lit (.int .i64 3)]) rfl rfl om om rfl (by simp)) ?_;refine A2 ⟨?_⟩;intros;refine Wo (ae (cs':=[lit (.int .i64 4)]) rfl rfl om om rfl (by simp)) ?_;refine A2 ⟨?_⟩;intros;exact cD _ _ (bO (RV.tmp rfl) Lr) Sr ⟨rfl,rfl⟩
 ·refine PuH.intro Tryz.func221 rfl kr fun C hC=>?_
  refine A2 ⟨?_⟩;intros;refine WP.unroll 3 (WPR.succ ?_);refine D1 IL ⟨?_⟩;intros;refine WP.unroll 3 (WPR.succ ?_);refine A2 ⟨?_⟩;intros;refine Wo (ae (cs':=[lit (.int .i64 3)]) rfl rfl om om rfl (by simp)) ?_;refine A2 ⟨?_⟩;intros;exact cD _ _ (bO (RV.tmp rfl) Lr) Sr ⟨rfl,rfl⟩
theorem uz (r k k':Nat) (a:Tq) (h:(k=0∧k'=1∧a=kqA∨k=3∧k'=5∧a=kqB)∨k=1∧k'=3∧a=kqM∨k=5∧k'=5∧a=kqE) :
  PuH Tryz.prog 162 [kh r] [(r,kvT,kvC k)] (fun v H=>v=Ab.tup [ag (ktx a),lit .nilIface]∧H=[(r,kvT,kvC k')]) noX:=by
 have hl:kTx.length=5:=rfl;have h1:([97]:List UInt8).length=1:=rfl;rcases h with(⟨rfl,rfl,rfl⟩|⟨rfl,rfl,rfl⟩)|⟨rfl,rfl,rfl⟩|⟨rfl,rfl,rfl⟩
 ·have c0:=uw r 0 0 om;have c2:=GX r 0 om;have c3:=yk r 0 1 97 rfl (by decide) rfl;refine PuH.intro Tryz.func162 rfl kr fun C hC=>?_
  refine A2 ⟨?_⟩;intros;refine WfT c0 ?_;rintro _ _ ⟨rfl,rfl⟩;simp only [aa,a8];refine D1 IL ⟨?_⟩;intros;refine HH 46 rfl (aq.here _) om om ?_;refine WfT c2 ?_;rintro _ _ ⟨rfl,rfl⟩;simp only [aa,a8];refine WfT c3 ?_;rintro _ _ ⟨rfl,rfl⟩;simp only [aa,a8];refine A2 ⟨?_⟩;intros;exact cD _ _ (eJ (RV.cellA rfl mmA rfl rfl) (RV.tmp rfl) Lr) Sq ⟨rfl,rfl⟩
 ·have c0:=uw r 3 4 om;have c2:=GX r 4 om;have c3:=yk r 4 5 97 rfl (by decide) rfl;refine PuH.intro Tryz.func162 rfl kr fun C hC=>?_
  refine A2 ⟨?_⟩;intros;refine WfT c0 ?_;rintro _ _ ⟨rfl,rfl⟩;simp only [aa,a8];refine D1 IL ⟨?_⟩;intros;refine HH 46 rfl (aq.here _) om om ?_;refine WfT c2 ?_;rintro _ _ ⟨rfl,rfl⟩;simp only [aa,a8];refine WfT c3 ?_;rintro _ _ ⟨rfl,rfl⟩;simp only [aa,a8];refine A2 ⟨?_⟩;intros;exact cD _ _ (eJ (RV.cellA rfl mmA rfl rfl) (RV.tmp rfl) Lr) Sq ⟨rfl,rfl⟩
 ·have c0:=uw r 1 2 om;have c3:=yk r 2 3 45 rfl (by decide) rfl;refine PuH.intro Tryz.func162 rfl kr fun C hC=>?_
  refine A2 ⟨?_⟩;intros;refine WfT c0 ?_;rintro _ _ ⟨rfl,rfl⟩;simp only [aa,a8];refine D1 RE ⟨?_⟩;intros;refine WfT c3 ?_;rintro _ _ ⟨rfl,rfl⟩;simp only [aa,a8];refine A2 ⟨?_⟩;intros;exact cD _ _ (eJ (RV.cellA rfl mmA rfl rfl) (RV.tmp rfl) Lr) Sq ⟨rfl,rfl⟩
 ·have c0:=uw r 5 5 om;refine PuH.intro Tryz.func162 rfl kr fun C hC=>?_
  refine A2 ⟨?_⟩;intros;refine WfT c0 ?_;rintro _ _ ⟨rfl,rfl⟩;simp only [aa,a8];refine A2 ⟨?_⟩;intros;exact cD _ _ (eJ (RV.cellA rfl mmA rfl rfl) (RV.tmp rfl) Lr) Sq ⟨rfl,rfl⟩
abbrev kTs:List Tq:=[kqA,kqM,kqB,kqE]
theorem F9:Pu Tryz.prog 114 [str kTx] (Ab.tup [kts kTs,lit .nilIface]):=by
 have hl:kTx.length=5:=rfl;have n1:=fun r=>uz r 0 1 kqA (by simp)
 have n2:=fun r=>uz r 1 3 kqM (by simp)
 have n3:=fun r=>uz r 3 5 kqB (by simp)
 have n4:=fun r=>uz r 5 5 kqE (by simp)
 refine Pi Tryz.func114 fun C=>?_
 refine A2 ⟨?_⟩;intros;rename_i r;refine WP.unroll 4 (WPR.succ ?_);refine A2 ⟨?_⟩;intros;refine WfT (n1 r) ?_;rintro _ _ ⟨rfl,rfl⟩;simp only [aa,a8];refine A2 ⟨?_⟩;intros;refine oo (Own.nil ktT 4) om (fun s1 H1 o1=>?_);simp only [aa,a8];have hco1:=o1.co;refine A2 ⟨?_⟩;intros;refine WfT (n2 r) ?_ (hs:=Tk.cons (aq.there _ (aq.there _ (aq.here _))) (Tk.nil _));rintro _ _ ⟨rfl,rfl⟩;refine WPL.perm aC ?_;simp only [aa,a8];refine A2 ⟨?_⟩;intros;refine oo o1 om (fun s2 H2 o2=>?_);simp only [aa,a8];have hco2:=o2.co;refine A2 ⟨?_⟩;intros;refine WfT (n3 r) ?_ (hs:=Tk.cons (aq.there _ (aq.there _ (aq.here _))) (Tk.nil _));rintro _ _ ⟨rfl,rfl⟩;refine WPL.perm aC ?_;simp only [aa,a8];refine A2 ⟨?_⟩;intros;refine oo o2 om (fun s3 H3 o3=>?_);simp only [aa,a8];have hco3:=o3.co;refine A2 ⟨?_⟩;intros;refine WfT (n4 r) ?_ (hs:=Tk.cons (aq.there _ (aq.there _ (aq.here _))) (Tk.nil _));rintro _ _ ⟨rfl,rfl⟩;refine WPL.perm aC ?_;simp only [aa,a8];refine A2 ⟨?_⟩;intros;refine oo o3 om (fun s4 H4 o4=>?_);simp only [aa,a8];obtain⟨hcl,⟨h0,_⟩|⟨b,c,hnc,hcm,rfl,rfl⟩⟩:=o4
 ·exact absurd h0 (by decide)
 refine WPL.pub (d:=29) (s':=kts kTs) (by repeat(first|exact aq.here _|apply aq.there)) rfl (fun m arr h1 h2=>nX h1 h2 hnc hcm) ?_;refine A2 ⟨?_⟩;intros;refine db (eJ (RV.tmp rfl) (RV.tmp rfl) (Le.of_eq rfl))
end Go.Ab
