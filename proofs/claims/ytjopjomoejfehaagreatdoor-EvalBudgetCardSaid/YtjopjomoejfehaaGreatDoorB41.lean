/- Texts laid one behind the other: ExTapeH, EvBudL, Open, RowKit, LaidKit, GInt, Dis. -/
import Derived.Test.YtjopjomoejfehaaGreatDoorB40
import Derived.ProofKit
import Derived.OpenShut
import Derived.ChangeOld
import Derived.Below
import Derived.OpenVars
import Derived.Deep.Slices
import Derived.WalkKit
import Derived.Stop.LaidErr
import Derived.LaidMore
import Derived.Deep.DeepHandedRow
import Derived.Deep.DeepWitnessRowRef
set_option linter.all false
set_option maxHeartbeats 16000000
namespace Go.Ab
open Go.Proofs
variable [Base]
def HfS (ns:List Nd):Prop:=∀n∈ns,n.k=4→zz n=false→(wy n).sm
theorem HfS.one {n:Nd}(h:n.k≠4):HfS [n]:=fun m hm e=>by rw [au.1 hm]at e;exact absurd e h
theorem HfS.app {A B:List Nd}(h:HfS A) (k:HfS B):HfS (A++B):=fun n hn=>(az.1 hn).elim (h n) (k n)
abbrev HP (x y:Int):={p:Rat×Rat // ht p.1≤10∧ht p.2≤10∧((p.1-x≠0∨p.2-y≠0)→(thr x y p.1 p.2).sm)}
def p0H {x y:Int}(hx:x.natAbs≤4) (hy:y.natAbs≤4):HP x y:=⟨(x,y),by have:=ol x om;simp only;omega,by have:=ol y om;simp only;omega,fun h=>by rcases h with h|h <;> exact absurd (by grind) h⟩
theorem HfS.half {x y:Int}{u v:Rat}(h:(u-x≠0∨v-y≠0)→(thr x y u v).sm):HfS [hNd (x:Rat) (y:Rat) u v]:=fun n hn _ hd=>by
 rw [au.1 hn]at hd⊢;unfold zz at hd;unfold wy;simp only [hNd,RQ.of_v]at hd⊢;refine h ?_;have hd:=lI hd;by_cases c:u-x=0
 ·exact .inr fun e=>hd ⟨c,e⟩
 ·exact .inl c
abbrev RI (x y:Int):SV:=ex fun p:HP x y=>rp p.1.1 p.1.2
abbrev Sx (x y:Int):SV:=ex fun p:HP x y=>pq p.1.1 p.1.2
theorem Pp {x y:Int}(hx:x.natAbs≤4) (hy:y.natAbs≤4):Pu Tryz.prog 34 [rp (x:Rat) (y:Rat),smallR,intV] (RI x y):=by
 refine Pu.exAt' [rp (x:Rat) (y:Rat)] [intV] ⟨0,by have:=kw;omega⟩ fun q=>?_
 refine Pu.exAt' [rp (x:Rat) (y:Rat),rq q.1] [] ⟨(1,0),⟨by decide,by decide⟩, .inl (by decide)⟩ fun v=>?_
 obtain⟨q,hq⟩:=q;obtain⟨⟨u,v⟩,⟨hu,hv⟩,_⟩:=v;simp only at hu hv;have h1:=ol x om;have h2:=ol y om;have h3:=ol u om;have h4:=ol v om;have h5:=bF q (u:Rat);have h6:=bF q (v:Rat);have h7:=fh (x:Rat) (q*(u:Rat));have h8:=fh (y:Rat) (q*(v:Rat));exact(qx (x:Rat) (y:Rat) q (u:Rat) (v:Rat) om om om om om).le (Le.ex ⟨(_,_),by simp only;omega,by simp only;omega,fun h=>OQ hx hy hu hv h⟩ Lr)
theorem MW {x y:Int}(hx:x.natAbs≤4) (hy:y.natAbs≤4):Pu Tryz.prog 33 [RI x y] (Sx x y) :=
 Pu.exAt [] [] (p0H hx hy) fun p=>El p.1.1 p.1.2 (by have:=p.2.1;omega) (by have:=p.2.2.1;omega)
theorem J2 (zs:List Int) (hz:zs.length≤400) (b:Nat):∀(m:Nat),m≤100→∀(ns:List Nd) (s:SV) (Hs:LH),ns.length≤10000-50*m→Own exT 19 ns.length (ns.map ndx).flatten s Hs→
  PuH Tryz.prog 15 [lit (.pointer (some ⟨b,0,none⟩)),s,lit (.int .i64 m)] ((b,tpT,mD zs)::Hs)
   (fun r H'=>∃(t:Ex) (ns2:List Nd) (Hs':LH),H'=(b,tpT,mD zs)::Hs'∧Own exT 19 (ns++ns2).length ((ns++ns2).map ndx).flatten r Hs'∧Wr ns2 ns.length t∧ns2.length≤2*m+1∧HfS ns2) noX:=by
 intro m;induction m using Nat.strongRecOn with
 |_ m ih =>
  intro hm ns s Hs hns hown;have hco:=hown.co;refine PuH.intro Tryz.func15 rfl kr fun C hC=>?_
  refine A2 ⟨?_⟩;intros;refine Wtx (f9 zs hz 10 om om) mmA fun k=>?_
  obtain⟨k,hk⟩:=k;simp only [];refine WPL.viaS1 (fun F H=>∃kk:Nat,kk<10∧(m=0→6≤kk)∧LeF F (fm [(0,lit (.pointer (some ⟨b,0,none⟩))),(1,s),(2,lit (.int .i64 m)),(7,lit (.int .i64 kk))])∧H=(b,tpT,mD zs)::Hs) ?_ ?_
  ·by_cases h0:m=0
   ·by_cases h6:k<6
    ·refine A2 ⟨?_⟩;intros;exact⟨6,om,fun _=>by omega,lfA,rfl⟩
    ·refine A2 ⟨?_⟩;intros;exact⟨k,om,fun _=>by omega,lfA,rfl⟩
   ·refine A2 ⟨?_⟩;intros;exact⟨k,om,fun h=>absurd h h0,lfA,rfl⟩
  rintro F H ⟨kk,hkk,h6,hF,rfl⟩;refine WP.le hF ?_;clear hF;by_cases h4:kk<4
  ·have hm1:1≤m:=by omega
   clear h6;refine A2 ⟨?_⟩;intros;rw [show((m:Int)-1)/2=(((m-1)/2:Nat):Int) by omega];refine WfT (ih ((m-1)/2) om om ns s Hs om hown) ?_;rintro s1 _ ⟨x,A,H1,rfl,hown1,hA,hAl,fA⟩;simp only [aa,a8];have hco1:=hown1.co;have e1:(ns++A).length=ns.length+A.length:=ac;refine A2 ⟨?_⟩;intros;refine Wo (be hown1 rfl) ?_;refine A2 ⟨?_⟩;intros;rw [show((m:Int)-1)/2=(((m-1)/2:Nat):Int) by omega];refine WfT (ih ((m-1)/2) om om (ns++A) s1 H1 om hown1) ?_;rintro s2 _ ⟨y,B,H2,rfl,hown2,hB,hBl,fB⟩;simp only [aa,a8];have hco2:=hown2.co;have e2:(ns++A++B).length=ns.length+A.length+B.length:=by rw [ac,e1]
   refine A2 ⟨?_⟩;intros;refine Wo (be hown2 rfl) ?_;refine A2 ⟨?_⟩;intros;refine WPL.lowB (bz.here _) (cs':=ndx (D8 (1+(kk:Nat)) ((ns++A).length-1) ((ns++A++B).length-1))) (by simp only [D8,Cf,aNd,zw];repeat(first|exact trivial|refine⟨?_,?_⟩|exact Le.refl _|exact gC)) ?_;refine oo hown2 om (fun s' H' hown'=>?_);simp only [aa,a8];refine A2 ⟨?_⟩;intros
   exact cD _ _ (bO (RV.tmp rfl) Lr) (fZ _ _) ⟨_,A++B++[D8 (1+(kk:Nat)) ((ns++A).length-1) ((ns++A++B).length-1)],H',rfl,by rw [←av,←av];exact hown'.snoc,
    Wr.bi hA (by rw [←e1];exact hB) (Qx om om) rfl (by show((ns++A).length:Int)-1=_;rw [e1]) (by show((ns++A++B).length:Int)-1=_;rw [e2]) (MK (by decide)),by simp;omega,(fA.app fB).app (HfS.one (show(6:Int)≠4 by decide))⟩
  by_cases k6:kk<6
  ·have hm1:1≤m:=by omega
   clear h6;refine A2 ⟨?_⟩;intros;rw [show((m:Int)-1)=((m-1:Nat):Int) by omega];refine WfT (ih (m-1) om om ns s Hs om hown) ?_;rintro s1 _ ⟨x,A,H1,rfl,hown1,hA,hAl,fA⟩;simp only [aa,a8];have hco1:=hown1.co;have e1:(ns++A).length=ns.length+A.length:=ac;refine A2 ⟨?_⟩;intros;refine Wo (be hown1 rfl) ?_;refine A2 ⟨?_⟩;intros;refine WPL.lowB (bz.here _) (cs':=ndx (Cf ((ns++A).length-1))) (by simp only [D8,Cf,aNd,zw];repeat(first|exact trivial|refine⟨?_,?_⟩|exact Le.refl _|exact gC)) ?_;refine oo hown1 om (fun s' H' hown'=>?_);simp only [aa,a8];refine A2 ⟨?_⟩;intros
   exact cD _ _ (bO (RV.tmp rfl) Lr) (fZ _ _) ⟨_,A++[Cf ((ns++A).length-1)],H',rfl,by rw [←av];exact hown'.snoc,
    Wr.un hA Qw rfl (by show((ns++A).length:Int)-1=_;rw [e1]) (MK (by decide)),by simp;omega,fA.app (HfS.one (show(5:Int)≠4 by decide))⟩
  clear ih h6;by_cases k6:kk=6
  ·subst k6;refine A2 ⟨?_⟩;intros;refine Wtx (f9 zs hz 2 om om) mmA fun k=>?_
   obtain⟨k,hk⟩:=k;simp only [];refine A2 ⟨?_⟩;intros;refine WPL.lowB (bz.here _) (cs':=ndx (aNd (2+(k:Nat)))) (by simp only [D8,Cf,aNd,zw];repeat(first|exact trivial|refine⟨?_,?_⟩|exact Le.refl _|exact gC)) ?_;refine oo hown om (fun s' H' hown'=>?_);simp only [aa,a8];refine A2 ⟨?_⟩;intros
   exact cD _ _ (bO (RV.tmp rfl) Lr) (fZ _ _) ⟨_,[aNd (2+(k:Nat))],H',rfl,hown'.snoc,
    Wr.leaf (RD om om) (show(2+(k:Nat):Int)≠5 by omega) (show(2+(k:Nat):Int)≠6 by omega) (QV om om) (MK (by decide)) (fun e=>absurd e (show(2+(k:Nat):Int)≠1 by omega)),by simp,HfS.one (show(2+(k:Nat):Int)≠4 by omega)⟩
  by_cases k7:kk=7
  ·subst k7;refine A2 ⟨?_⟩;intros;refine Wtx (zL zs hz) mmA fun p=>?_
   obtain⟨⟨x,y⟩,hx,hy⟩:=p;simp only at hx hy;simp only [];repeat(first|(refine AS ⟨?_⟩;intros)|(refine O1 ⟨?_⟩;intros))
   rename_i b9;have c1:=El (x:Rat) (y:Rat) (by have:=ol x om;omega) (by have:=ol y om;omega);have c2:=Pp hx hy;have c3:=MW hx hy;refine WdN 12 ?_;refine D1 c1 ⟨?_⟩;intros;refine Wdo (dS (Rl zs hz) rfl mmA) ?_;refine A2 ⟨?_⟩;intros;refine Wdo (dS (G4 zs hz) rfl mmA) ?_;refine D2 c2 c3 ⟨?_⟩;intros;refine Wdo (OpV.exd 85 (p0H hx hy) rfl (g:=fun p:HP x y=>ag (ndx (hNd (x:Rat) (y:Rat) p.1.1 p.1.2))) fun p=>Ov0) ?_;refine Wdo (OpV.exd 86 (p0H hx hy) rfl (g:=fun p:HP x y=>sl (ndx (hNd (x:Rat) (y:Rat) p.1.1 p.1.2)) 1) fun p=>oP (s:=ag (ndx (hNd (x:Rat) (y:Rat) p.1.1 p.1.2))) rfl inferInstance) ?_;refine A2 ⟨?_⟩;intros;refine WPL.exd (d:=87) rfl fun p=>?_
   obtain⟨⟨u,v⟩,hu,hv,hsm⟩:=p;simp only at hu hv hsm;simp only [];refine rx hown (Tk.skip _ (Tk.skip _ (Tk.same _))) om (fun s' H' hown'=>?_);simp only [aa,a8];refine A2 ⟨?_⟩;intros
   exact cD _ _ (bO (RV.tmp rfl) Lr) (fZ _ _) ⟨_,[hNd (x:Rat) (y:Rat) u v],H',rfl,hown'.snoc,
    Wr.leaf RC (show(4:Int)≠5 by decide) (show(4:Int)≠6 by decide) QU ⟨RQ.of_ok (by have:=ol x om;omega),RQ.of_ok (by have:=ol y om;omega),RQ.of_ok hu,RQ.of_ok hv,ak _⟩ (fun e=>absurd e (show(4:Int)≠1 by decide)),by simp,HfS.half hsm⟩
  ·refine A2 ⟨?_⟩;intros;refine Wtx (f9 zs hz 4 om om) mmA fun k=>?_
   obtain⟨k,hk⟩:=k;simp only [];refine A2 ⟨?_⟩;intros;refine Wo (eR rfl mmA (C7 hk).1) ?_;refine A2 ⟨?_⟩;intros;refine WPL.lowB (bz.here _) (cs':=ndx (zw (UInt8.ofNat (97+k)))) (by simp only [D8,Cf,aNd,zw];repeat(first|exact trivial|refine⟨?_,?_⟩|exact Le.refl _|exact gC)) ?_;refine oo hown om (fun s' H' hown'=>?_);simp only [aa,a8];refine A2 ⟨?_⟩;intros
   exact cD _ _ (bO (RV.tmp rfl) Lr) (Sc (fZ _ _)) ⟨_,[zw (UInt8.ofNat (97+k))],H',rfl,hown'.snoc,
    Wr.leaf Qy (show(1:Int)≠5 by decide) (show(1:Int)≠6 by decide) (C7 hk).2.1 (MK (by simp)) (fun _=>⟨k,hk,rfl⟩) (C7 hk).2.2,by simp,HfS.one (show(1:Int)≠4 by decide)⟩
theorem yG (zs:List Int) (hz:zs.length≤400) (b:Nat):PuH Tryz.prog 6 [lit (.pointer (some ⟨b,0,none⟩)),lit (.int .i64 4)] [(b,tpT,mD zs)]
  (fun r H'=>∃(t:Ex) (ns:List Nd) (Hs':LH),H'=(b,tpT,mD zs)::Hs'∧Own exT 19 ns.length (ns.map ndx).flatten r Hs'∧Wr ns 0 t∧ns.length≤9∧HfS ns) noX:=by
 have c:=J2 zs hz b 4 om [] (lit (.slice none 0 0)) [] (by simp) (Own.nil exT 19);refine PuH.intro Tryz.func6 rfl kr fun C hC=>?_
 refine A2 ⟨?_⟩;intros;refine WfT c ?_;rintro s' _ ⟨t,ns,H1,rfl,h1,h2,h3,h4⟩;simp only [aa,a8];have hco:=h1.co;refine A2 ⟨?_⟩;intros;exact cD _ _ (bO (RV.tmp rfl) Lr) Sr ⟨t,ns,H1,rfl,h1,h2,om,h4⟩
theorem DQ {nm:List (List UInt8)}{ts:List Tr}{b:Int}:∀{ns:List Nd}{out:List Tr}{c:Nat}{n:Nd},kX nm ts true b ns out = .error (c,n)→c=5∨c=3
 | [],out,c,n,h=>by
  unfold kX at h;cases h
 |m::ns,out,c,n,h=>by
  unfold kX at h;cases e:evP nm ts out m with
  |error d =>
   rw [e]at h;cases h;exact Hj e
  |ok t =>
   rw [e]at h;simp only at h;rw [if_neg (by unfold ug;simp)]at h;exact DQ h
theorem Lh:∀{l:List Nat},l≠[]→jp l∈l:=by
 intro l
 have key:∀(l:List Nat) (a:Nat),l.foldl max a=a∨l.foldl max a∈l:=by
  intro l;induction l with
  |nil=>intro a;exact .inl rfl
  |cons x l ih =>
   intro a;rw [fQ];rcases ih (max a x)with h|h
   ·rw [h];rcases Nat.le_total a x with c|c
    ·rw [Nat.max_eq_right c];exact .inr Ms
    ·rw [Nat.max_eq_left c];exact .inl rfl
   ·exact .inr (Mc h)
 intro hne;match l,hne with
 |x::l,_ =>
  unfold jp;rw [fQ,Nat.max_eq_right (ak x)];rcases key l x with h|h
  ·rw [h];exact Ms
  ·exact Mc h
theorem L1 (l:List Nat):nsl .i64 (l.map Int.ofNat)=sl (jW l) l.length:=by
 unfold nsl jW;rw [lp,cq];rfl
theorem IQ {ts:List Tr}{k:Nat}{t:Tr}(h:ts[k]? = some t):jW ((ts.map aH).take (k+1))=jW ((ts.map aH).take k)++[lit (.int .i64 (aH t:Nat))]:=by
 rw [nk,gG,h];unfold jW;rw [aB];rfl
theorem PX {l:List Tr}{k:Nat}{t:Tr}(h:l[k]? = some t):((l.map szI).drop (k*1)).take 1=[szI t]:=by
 rw [cw,←rB,mQ h];rfl
def evM (e:w6) (ns:List Nd):List Li:=e.L++hLs ns
theorem LX (e:w6){ns:List Nd}(hok:∀n∈ns,n.ok 10) (hl:ns.length≤9):Rf (evM e ns) 500 e.nm e.ts ns 10:=by
 have hll:=e.ll;have hhl:=OS ns;refine⟨e.evE ?_ ?_ om (ar _) ?_ (fun l hl=>bV _ hl),fun t ht=>?_,hok,om,om,fun n hn h4 hd=>cO _ (OR hn h4 hd)⟩
 ·intro l hl;rcases az.1 hl with h|h
  ·exact(e.sm l h).1
  ·exact QS l h
 ·intro l hl;rcases az.1 hl with h|h
  ·exact(e.sm l h).2.gr om
  ·exact QT hok om l h
 ·show(e.L++hLs ns).length≤100
  rw [ac];omega
 ·have g:=(e.gd t ht).size (B5 e.sm);have hm:e.L.length*(1+e.L.length)≤36*37:=dk hll om;omega
theorem OY (e:w6){ns:List Nd}(hok:∀n∈ns,n.ok 10) (hl:ns.length≤9){free:Bool}{bud:Int}{o:List Tr}(h:kX e.nm e.ts free bud ns [] = .ok o) (hn:1≤ns.length) :
  o.length=ns.length∧(∀t∈o,Gd (evM e ns) t)∧(∃t,o[o.length-1]? = some t∧t.all (fun l=>l.le 1000000)∧t.size≤1000000)∧∀u∈o,aH u≤10100:=by
 have hr:=LX e hok hl;obtain⟨h1,h2⟩:=Hk hr.e hr.hh (fun t ht=>by cases ht) h;simp only [br,aD]at h2;have hlt:o.length-1<o.length:=by omega
 have hz:∀u∈o,aH u≤10100:=fun u hu=>by
  have g:=(h1 u hu).size hr.e.ok;have hm:(evM e ns).length*(1+(evM e ns).length)≤100*101:=dk hr.e.len (by have:=hr.e.len;omega);omega
 refine⟨h2,h1,⟨o[o.length-1],ax hlt,?_,?_⟩,hz⟩
 ·exact Tr.lin.all (fun l hl=>(hr.e.le l hl).gr om) (h1 _ (fC hlt)).1
 ·rw [rM];have:=hz _ (fC hlt);omega
theorem LV [iO 3] [iO 0] [iO 5] [iO 4] [iO 1] [iO 2] [Dis 1 0] (zs:List Int) (hz:zs.length≤9223372036854775807) :
  Pu Tryz.prog 3 [nsl .i64 zs] (lit (.bool true)):=by
 have hk:(zs.take (min zs.length 400)).length≤400:=by simp;omega
 have hnew:=QB zs hz;generalize zs.take (min zs.length 400)=ys at *;have kn:=OF;have henv:=R0 ys hk;clear hz;refine Pi Tryz.func3 fun C=>?_
 refine A2 ⟨?_⟩;intros;refine WPL.callN hnew rfl rfl fun b=>?_
 refine A2 ⟨?_⟩;intros;refine Wtx henv mmA fun e=>?_
 refine A2 ⟨?_⟩;intros;rename_i b4;refine WfT (yG ys hk b) ?_;rintro s _ ⟨t,ns,H1,rfl,hown,hw,hl,hf⟩;simp only [aa,a8];have hpos:=hw.pos;have hr:=LX e hw.ok hl;have ho:=hw.otx;obtain⟨hcl,⟨h0,rfl,rfl⟩|⟨b2,c,hnc,hcm,rfl,rfl⟩⟩:=hown
 ·omega
 refine WPL.pub (d:=31) (s':=sl (ns.map ndx).flatten ns.length) (aq.there _ (aq.there _ (aq.here _))) rfl (fun m arr h1 h2=>nX h1 h2 hnc hcm) ?_;have hno:¬(otx ns=none):=by rw [ho];simp
 have run:=fun bud free=>K7 hr bud free
 simp only [if_neg hno,e.nml]at run;have cr:=run 0 true;cases hR:kX e.nm e.ts true 0 ns []with
 |error p =>
  obtain⟨c',n⟩:=p;rw [hR,s5]at cr;have cs:=HX cr;clear run cr hf hcl henv hnew;rcases DQ hR with rfl|rfl
  ·rw [show gOf 0 1 2 5=0 from rfl]at cs;refine D1 cs ⟨?_⟩;intros;refine Wo (wO (s:=pt _) kr rfl) ?_;refine D1 kn ⟨?_⟩;intros;refine iN (Fi _ _ _ _) ?_;exact Z1
  ·rw [show gOf 0 1 2 3=1 from rfl]at cs;refine D1 cs ⟨?_⟩;intros;refine Wo (wO (s:=pt _) kr rfl) ?_;refine D1 kn ⟨?_⟩;intros;refine iN (QP 1 0 _ _ _) ?_;refine A2 ⟨?_⟩;intros;refine iN (Fi _ _ _ _) ?_;exact Z1
 |ok outs =>
  rw [hR,tC]at cr;obtain⟨l1,l2,⟨t',t1,t2,t3⟩,l4⟩:=OY e hw.ok hl hR hpos;have cs:=JX om (fun u hu=>by have:=l4 u hu;omega) cr;have hlen3:=e.len;have hsz:∀u∈e.ts,aH u≤60000:=hr.sz
  have hzz:∀i,aH (e.ts.getD i (.leaf false))≤((((e.ts.map aH).map Int.ofNat)).getD i 0).toNat:=fun i=>by
   simp only [cL,gG];cases e.ts[i]? with
   |none=>exact ar _
   |some u=>exact ar _
  obtain⟨bs,hb1,hb2,hb3⟩:=LY hzz ns 0 [] [] [] [] outs (GJ ho) rfl rfl .nil (fun j t h=>by simp at h) hR (fun u hu=>by have:=l4 u hu;unfold su;omega)
  have hall:zh ns e.nm ((e.ts.map aH).map Int.ofNat)=some (some bs):=by
   unfold zh;rw [if_neg (by rw [ho,e.nml];simp),hb1]
  have cp:=Mn ns hw.ok om om e.nm (by rw [e.nml];omega) ((e.ts.map aH).map Int.ofNat) (by simp;omega) (fun z hz=>by
   obtain⟨x,hx,rfl⟩:=aj.1 hz;obtain⟨u,hu,rfl⟩:=aj.1 hx;have:=hsz u hu;exact⟨by show(-9223372036854775808:Int)≤((aH u:Nat):Int);omega,by show((aH u:Nat):Int)≤9223372036854775807;omega⟩)
  rw [hall,L1,cq,e.nml]at cp;have hm0:outs.map aH≠[]:=fun h=>by rw [lr]at h;rw [h]at l1;simp at l1;omega
  have hmm:=Lh hm0;have hge:∀u∈outs,aH u≤jp (outs.map aH):=fun u hu=>GT (aj.2 ⟨u,hu,rfl⟩)
  have hpk:∀u∈outs,aH u≤jp bs:=fun u hu=>by
   obtain⟨j,hj⟩:=List.getElem?_of_mem hu;obtain⟨v,hv,hv2⟩:=hb3 j u hj;exact aO hv2 (GT (bo hv))
  obtain⟨u0,hu0,hu1⟩:=aj.1 hmm;have hmp:jp (outs.map aH)≤jp bs:=by rw [←hu1];exact hpk u0 hu0
  have hmz:jp (outs.map aH)≤10100:=by rw [←hu1];exact l4 u0 hu0
  have hpz:jp bs≤9223372036854775807:=(Ee (fun z hz=>by
   obtain⟨x,hx,rfl⟩:=aj.1 hz;obtain⟨u,hu,rfl⟩:=aj.1 hx;have:=hsz u hu;exact⟨by show(-9223372036854775808:Int)≤((aH u:Nat):Int);omega,by show((aH u:Nat):Int)≤9223372036854775807;omega⟩) hall).2.2 |> fun h=>BC h
  obtain⟨j0,hj0⟩:=List.getElem?_of_mem hu0;have g1:=yH (bud:=(jp bs:Nat)) hR (fun u hu=>by have:=hpk u hu;omega);have g2:=yH (bud:=(jp (outs.map aH):Nat)) hR (fun u hu=>by have:=hge u hu;omega);obtain⟨n3,g3⟩:=AG (bud:=(jp (outs.map aH):Nat)-1) hR ⟨j0,u0,ak _,hj0,om⟩;have r1:=run (jp bs:Nat) false;have r2:=run (jp (outs.map aH):Nat) false;have r3:=run ((jp (outs.map aH):Nat)-1) false;rw [g1,tC]at r1;rw [g2,tC]at r2;rw [g3,s5,show gOf 0 1 2 7=2 from rfl]at r3;have e1:=BR om t1 t2 t3 r1;have e2:=BR om t1 t2 t3 r2;have e3:=LW r3;have hol:outs.length≤9:=by omega
  have hlm:∀k,jp ((outs.map aH).take k)≤10100:=fun k=>BC fun x hx=>by
   obtain⟨u,hu,rfl⟩:=aj.1 (fD hx);exact l4 u hu
  clear run cr hf hcl henv hnew hb1 hb2 hb3 hall hpk hge hu1 hu0 hj0 g1 g2 g3 r1 r2 r3 hmm hzz;unfold pkR at cp;simp only at cp;refine D1 cs ⟨?_⟩;intros
  refine WP.loopS (ι:=SzS) (fun y=>y.k≤e.ts.length∧Own 3 1 y.k (jW ((e.ts.map aH).take y.k)) y.s y.Hs) (fun y=>e.ts.length-y.k)
   (fun y=>fm [(4,lit (.pointer (some ⟨b4,0,none⟩))),(5,tqs e.ts),(6,sl (ns.map ndx).flatten ns.length),(7,sl (outs.map szI) outs.length),(9,y.s),(53,tqs e.ts),(54,lit (.int .i64 e.ts.length)),(55,lit (.int .i64 y.k))])
   (fun y=>(b4,xR,[sl (e.nm.map str) e.ts.length,sl (e.ts.map rt) e.ts.length])::y.Hs) ⟨0,lit (.slice none 0 0),[]⟩ ⟨ak _,Own.nil _ _⟩ lfA Sw ?_
  rintro ⟨k,s,Hs⟩ ⟨hk,hown⟩ K hK;simp only at hk hown⊢;have hco:=hown.co;by_cases hkl:k<e.ts.length
  ·obtain⟨u,hget,hmem,hat,hne⟩:=elt G6 om hkl;have hu:=hsz u hmem;have hsu:=rM u;have hgo:=fun s' H1 (h1:Own 3 1 (k+1) (jW ((e.ts.map aH).take k)++[lit (.int .i64 (aH u:Nat))]) s' H1) F' H'=>hK F' H' ⟨k+1,s',H1⟩ ⟨by simp only;omega,by simp only;rw [IQ hget];exact h1⟩ (by simp only;omega)
   clear hK hget hmem hsz;refine A2 ⟨?_⟩;intros;refine Wo (ae (cs':=tqx u) rfl rfl om om hat hne) ?_;refine A2 ⟨?_⟩;intros;rw [hsu];refine oo hown om (fun s' H1 hown'=>?_) (hsp:=Tk.skip _ (Tk.skip _ (Tk.skip _ (Tk.same _))));have hco':=hown'.co;replace hgo:=hgo s' H1 hown';clear hown hown';simp only [aa,a8];refine A2 ⟨?_⟩;intros;exact hgo _ _ lfA Sw
  ·have hke:k=e.ts.length:=by omega
   subst hke;rw [da (by simp)]at hown;refine WP.rowS 9 hown rfl (aC (l₁:=[(b4,xR,[sl (e.nm.map str) e.ts.length,sl (e.ts.map rt) e.ts.length])])) ?_;clear hK hown;refine D1 cp ⟨?_⟩;intros
   refine WP.loopS (ι:=Nat) (fun k=>k≤outs.length) (fun k=>outs.length-k)
    (fun k=>fm [(4,lit (.pointer (some ⟨b4,0,none⟩))),(5,tqs e.ts),(6,sl (ns.map ndx).flatten ns.length),(7,sl (outs.map szI) outs.length),(12,lit (.int .i64 (jp bs:Nat))),(13,lit .nilIface),(14,lit (.int .i64 (jp ((outs.map aH).take k):Nat))),(74,sl (outs.map szI) outs.length),(75,lit (.int .i64 outs.length)),(76,lit (.int .i64 k))])
    (fun _=>[(b4,xR,[sl (e.nm.map str) e.ts.length,sl (e.ts.map rt) e.ts.length])]) 0 (ak _) lfA Sw ?_
   rintro k hk K hK;by_cases hkl:k<outs.length
   ·have hget:=ax hkl;generalize outs[k]=u at hget;have hat:=PX hget;have hne:outs.map szI≠[]:=fun e=>by rw [lr]at e;rw [e]at hkl;simp at hkl
    have hu:=l4 u (bo hget);have hy:=hlm k;have hgo:=fun F' H'=>hK F' H' (k+1) om om
    rw [show jp ((outs.map aH).take (k+1))=max (jp ((outs.map aH).take k)) (aH u)from by rw [nk,gG,hget];exact Ao _ _]at hgo;clear hK hlm hget l4;generalize jp ((outs.map aH).take k)=y at *;refine A2 ⟨?_⟩;intros;refine Wo (ae (cs':=[szI u]) rfl rfl om om hat hne) ?_;refine A2 ⟨?_⟩;intros;refine Wo (lc rfl rfl (r:=((max y (aH u):Nat):Int)) (by split <;> omega)) ?_;refine A2 ⟨?_⟩;intros;exact hgo _ _ lfA Sw
   ·have hke:k=outs.length:=by omega
    subst hke;rw [da (by simp)];clear hK hlm;generalize jp (outs.map aH)=mo at *;generalize jp bs=pk at *;refine D4 e1 e2 e3 kn ⟨?_⟩;intros;refine iN (Fi _ _ _ _) ?_;exact Z1
open Go.ChangeShapes Go.WideShapes Go.ChangeAt Go.RowKit
section
variable {H:Type}{enc:TypeId×Value→H}{P:Program}{w:World}{sp:Nat→Bool}{held:Bool}
def wq (w:World):Mem:=fun b=>w.heap[b]?
theorem Lb (w:World) (h:Base.mem.le (wq w)):dB (wq w) w:=⟨fun _ _ h=>h,h⟩
def Opn (enc:TypeId×Value→H) (P:Program) (w:World) (sp:Nat→Bool) (held:Bool) (T:TypeId) (G:List SV→Prop):Prop :=
 ∀fuel cs x,DataW.trod enc P w 0 sp held fuel T cs=some x→∃svs,G svs∧bn (wq w) svs cs
def GInt (k:IntKind):List SV→Prop:=fun l=>∃n,(Lit.int k n).wf=true∧l=[lit (.int k n)]
def S7 (k:IntKind):List SV→Prop:=fun l=>∃zs:List Int,(∀z∈zs,(Lit.int k z).wf=true)∧zs.length≤maxLen∧l=[nsl k zs]
def GSl (k:Nat) (G:List SV→Prop):List SV→Prop:=fun l=>∃es:List (List SV),(∀e∈es,G e∧e.length=k)∧es.length≤maxLen∧l=[sl es.flatten es.length]
theorem zi {m:Mem}{s:SV}{v:Value}(h:s.p m v) (f:v.oneCell'=true):bn m [s] [v]:=⟨⟨h,f⟩,trivial⟩
theorem O6 {T:TypeId}{k:IntKind} [hT:TIn P T k]:Opn enc P w sp held T (GInt k):=fun fuel cs x h=>by
 obtain⟨n,rfl,_,hw⟩:=DataW.trod_int hT.h h;exact⟨_,⟨n,hw,rfl⟩,zi (ap.2 rfl) rfl⟩
theorem sf {a:Addr}{n:Nat}{cs:List Value}(h:w.cells? 0 a n=some cs):cs.length=n∧∀j,j<n→w.cell? (a.add j)=cs[j]?:=by
 unfold World.cells? at h;rw [if_pos (ak _)]at h;have hl:=mapM_some_length h;refine⟨by simpa using hl,fun j hj=>?_⟩;have:=mapM_some_get h j j (by simp [hj]);simpa using this
theorem yE {m:Mem}{f:Nat→List SV}{k:Nat}{vs:List Value}:∀{n:Nat},(∀i,i<n→(f i).length=k∧bn m (f i) ((vs.drop (i*k)).take k))→bn m ((List.range n).map f).flatten (vs.take (n*k))
 |0,_=>by simp [bn]
 |n+1,h=>by
  have h1:=yE (n:=n) fun i hi=>h i om
  have h2:=(h n om).2;have:=h1.append h2;rw [iQ,aB,cS,show(n+1)*k=n*k+k from by rw [aJ,aY],List.take_add];simpa using this
theorem Iv {T e:TypeId}{k:Nat}{G:List SV→Prop} [hT:TSl P T e] (hk:P.cellsOf e=k) (hk0:0<k) (hG:Opn enc P w sp held e G):Opn enc P w sp held T (GSl k G):=fun fuel cs x h=>by
 rcases Deep.open_slice hT.h h with⟨rfl,_⟩|⟨a,len,cap,m,n,Dd,Pl,rfl,_,hlc,hcm,hm,_,hx⟩
 ·exact⟨_,⟨[],by simp,by simp,rfl⟩,zi (js (by simp) (by simp [maxLen]) (.inl rfl)) rfl⟩
 ·have hlm:len≤m:=by rw [hm];split <;> omega
  have hcell:∀i,i<len→∃l,G l∧l.length=k∧∃cs',w.cells? 0 (a.add (i*k)) k=some cs'∧bn (wq w) l cs':=fun i hi=>by
   obtain⟨cs',h1,h2⟩:=hx i om;rw [hk]at h1;obtain⟨l,g1,g2⟩:=hG _ _ _ h2;exact⟨l,g1,by rw [←g2.length,(sf h1).1],cs',h1,g2⟩
  have hch:∀i:Nat,∃l,i<len→G l∧l.length=k∧∃cs',w.cells? 0 (a.add (i*k)) k=some cs'∧bn (wq w) l cs':=fun i=>by
   by_cases hi:i<len
   ·obtain⟨l,hl⟩:=hcell i hi;exact⟨l,fun _=>hl⟩
   ·exact⟨[],fun h=>absurd h hi⟩
  obtain⟨f,hf⟩:=Classical.axiomOfChoice hch;refine⟨_,⟨(List.range len).map f,fun l hl=>?_,by simp;omega,rfl⟩,zi (v := .slice (some a) len cap) ?_ rfl⟩
  ·obtain⟨i,hi,rfl⟩:=aj.1 hl;have:=hf i (by simpa using hi);exact⟨this.1,this.2.1⟩
  ·rw [cq,List.length_range];refine js hlc hcm ?_;rcases Nat.eq_zero_or_pos len with h0|h0
   ·left;subst h0;rfl
   ·right;obtain⟨_,hl0,cs0,hc0,_⟩:=hf 0 h0;have hcc:=(sf hc0).2 0 hk0;rw [bS]at hcc;have hcl:=(sf hc0).1;rw [ax om]at hcc;obtain⟨b,off,spot⟩:=a;have hs:spot=none:=by simpa [Addr.add] using World.cell?_spot hcc
    subst hs;simp only [cG,cA]at hcc
    have hb:∃arr T fz,w.heap[b]? = some (.cells arr T fz):=by
     unfold World.cell? at hcc;cases hbb:w.heap[b]? with
     |none=>simp [hbb]at hcc
     |some o=>cases o with
      |cells arr T fz=>exact⟨arr,T,fz,rfl⟩
      |_=>simp [hbb]at hcc
    obtain⟨arr,T',fz,hb⟩:=hb;refine⟨b,off,rfl,arr,T',fz,hb,?_⟩
    have hfl:((List.range len).map f).flatten.length=len*k:=by
     have:∀n,n≤len→((List.range n).map f).flatten.length=n*k:=by
      intro n;induction n with
      |zero=>intro _;simp
      |succ n ih=>intro hn;rw [iQ,aB,cS,ac,ih om];simp [(hf n om).2.1,aJ]
     exact this len (ar _)
    rw [hfl];refine yE fun i hi=>?_
    obtain⟨_,hl,cs',hc,ha⟩:=hf i hi;refine⟨hl,?_⟩
    have hcs:cs'=((arr.toList.drop off).drop (i*k)).take k:=by
     obtain⟨g1,g2⟩:=sf hc;apply q9;intro j;by_cases hj:j<k
     ·have h1:=g2 j hj;simp only [cG]at h1;rw [eB w b _ arr _ _ hb]at h1;rw [List.getElem?_take_of_lt hj,eD,eD,←h1];simp [jQ]
     ·rw [cM om,cM (by rw [aA];omega)]
    rw [←hcs];exact ha
theorem KX {T e:TypeId}{k:IntKind} [hT:TSl P T e] [hE:TIn P e k] (hk:P.cellsOf e=1):Opn enc P w sp held T (S7 k):=fun fuel cs x h=>by
 obtain⟨svs,⟨es,hes,hl,rfl⟩,ha⟩:=Iv (k:=1) hk om (O6 (k:=k)) fuel cs x h;refine⟨_,?_,ha⟩
 have:∃zs:List Int,(∀z∈zs,(Lit.int k z).wf=true)∧es=zs.map fun z=>[lit (.int k z)]:=by
  clear ha hl;induction es with
  |nil=>exact⟨[],by simp,rfl⟩
  |cons e es ih =>
   obtain⟨zs,h1,h2⟩:=ih fun x hx=>hes x (by simp [hx])
   obtain⟨⟨z,hz,rfl⟩,_⟩:=hes e (by simp);exact⟨z::zs,by simpa using ⟨hz,h1⟩,by rw [h2];rfl⟩
 obtain⟨zs,h1,rfl⟩:=this;refine⟨zs,h1,by simpa using hl,?_⟩
 have hfl:(zs.map fun z=>[lit (.int k z)]).flatten=zs.map fun z=>lit (.int k z):=by
  clear hl hes ha h1;induction zs with
  |nil=>rfl
  |cons z zs ih=>simp [ih]
 rw [hfl,cq];unfold nsl;rfl
end
end Go.Ab
namespace Go.Ab
open Go.Proofs
variable [Base]
open Go.ChangeShapes Go.WideShapes Go.ChangeAt Go.RowKit
theorem Mj {P:Program}{f:FuncId}{args:List SV}{W:World}{vs:List Value}(hB:Base.mem.le (wq W)) (h:Pu P f args (lit (.bool true))) (ha:dA (wq W) args vs) :
  Calls P f vs.toArray W fun e w'=>e = .returned (.bool true)∧Below W.heap.size W w':=by
 unfold Pu at h;refine(h.2 _ W vs (Lb W hB) ha).mono ?_;rintro e w' ⟨v,m',rfl,hv,_,hr⟩;rw [ap]at hv;subst hv;exact⟨rfl,hr.os,hr.tape,hr.output.1,hr.size,fun k hk=>hr.block k hk (by simp)⟩
theorem So:ownKnob Tryz.prog.godebug=none:=by kernel_rfl
theorem Lo:laidOutB Tryz.prog=true:=by kernel_rfl
section
variable {H:Type}{enc:TypeId×Value→H}{W:World}{sp:Nat→Bool}{held:Bool}
end
end Go.Ab
namespace Go.Ab
open Go.Proofs
variable [Base]
open Go.ChangeShapes Go.WideShapes Go.ChangeAt Go.RowKit
theorem Px : "*" ++ "errors.errorString" = "*errors.errorString" := by decide
theorem Ru (u:TypeId) (h:(Tryz.prog).typeName? 3 u=some "*errors.errorString"):u=435 :=
 typeName_ptr_named (nm := "errors.errorString") (by rw [Px];kernel_rfl) kr (by decide) u (by rw [Px];exact h)
theorem n8 {n:String}{text:List UInt8}{r:List (String×DataW Unit)}{W:World}{g:Nat}(h:laidMet Tryz.prog ((n, .iface "*errors.errorString" (.ptr (.agg [.lit (.string text)])))::r) W)
  (hg:(Tryz.prog).globalNamed n=some g) (ht:((Tryz.prog).globals[g]?).map (·.type)=some 35):∃(a:Addr) (T:TypeId) (fz:Nat×Nat),W.heap[g]? = some (.cells #[.iface 435 (.pointer (some a))] T fz):=by
 obtain⟨a,s,hv,_⟩:=laid_sentinel (tp:=435) h hg ht Tryz.underlying35 Ru Tryz.underlying435 Tryz.underlying459 rfl rfl Tryz.underlying9 kr kr;unfold World.var? at hv;rw [hg]at hv;simp only [vm]at hv;cases hh:W.heap[g]? with
 |none=>rw [hh]at hv;cases hv
 |some o =>
  rw [hh]at hv;cases o with
  |cells cs T fz =>
   simp only [bA]at hv;subst hv;exact⟨a,T,fz,rfl⟩
  |_=>cases hv
abbrev C5 (W:World):Base:=⟨wq W⟩
end Go.Ab
namespace Go.Ab
open Go.Proofs
variable [Base]
open Go.ChangeShapes Go.WideShapes Go.ChangeAt Go.RowKit
end Go.Ab
namespace Go.Ab
open Go.Proofs
variable [Base]
theorem zH {n:String}{W:World}{g:Nat}{v:Value}(hg:(Tryz.prog).globalNamed n=some g) (hv:W.var? Tryz.prog n=some #[v]):∃(T:TypeId) (fz:Nat×Nat),W.heap[g]? = some (.cells #[v] T fz):=by
 unfold World.var? at hv;rw [hg]at hv;simp only [vm]at hv;cases hh:W.heap[g]? with
 |none=>rw [hh]at hv;cases hv
 |some o =>
  rw [hh]at hv;cases o with
  |cells cs T fz =>
   simp only [bA]at hv;subst hv;exact⟨T,fz,rfl⟩
  |_=>cases hv
theorem Ma {n0 n1:String}{t0 t1:List UInt8}{r:List (String×DataW Unit)}{W:World}{g0 g1:Nat}(h:laidMet Tryz.prog ((n0, .iface "*errors.errorString" (.ptr (.agg [.lit (.string t0)])))::(n1, .iface "*errors.errorString" (.ptr (.agg [.lit (.string t1)])))::r) W)
  (hg0:(Tryz.prog).globalNamed n0=some g0) (ht0:((Tryz.prog).globals[g0]?).map (·.type)=some 35) (hg1:(Tryz.prog).globalNamed n1=some g1) (ht1:((Tryz.prog).globals[g1]?).map (·.type)=some 35):@Dis (C5 W) g1 g0:=by
 obtain⟨a0,a1,s0,s1,c0,c1,u0,u1,v0,v1,_,_,_,_,_,_,hne,b0,b1⟩:=laid_sentinels2 (tp:=435) h hg0 ht0 hg1 ht1 Tryz.underlying35 Ru Tryz.underlying435 Tryz.underlying459 rfl rfl Tryz.underlying9 kr kr;obtain⟨T0,z0,e0⟩:=zH hg0 v0;obtain⟨T1,z1,e1⟩:=zH hg1 v1;exact @Dis.mk (C5 W) _ _ ⟨a1,a0,T1,T0,z1,z0,c1,c0,u1,u0,e1,e0,fun e=>hne e.symm,b1,b0⟩
end Go.Ab
