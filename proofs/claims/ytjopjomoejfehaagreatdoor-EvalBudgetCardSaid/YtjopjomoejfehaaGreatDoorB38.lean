/- Texts laid one behind the other: BndA, EvX, EvR, PubK. -/
import Derived.Test.YtjopjomoejfehaaGreatDoorB37
set_option linter.all false
set_option maxHeartbeats 16000000
namespace Go.Ab
open Go.Proofs
variable [Base]
theorem KL {F:Fr}{H:LH}{ty T':TypeId}{x y:Operand}{u:TypeId}{v:Value}(hx:ev F x=lit .nilIface) (hy:ev F y=lit (.iface u v)):OpV Tryz.prog (.binOp .eql 35 x y T') ty F H (lit (.bool false)) :=
 eH hx hy (fun w=>run_eql_iface_nil_left w u v Tryz.underlying35) (fun w=>by simp [Go.eqGuard])
theorem DB (g:Nat):Pu Tryz.prog 9 [lit .nilIface,lit (jo g)] (lit (.bool false)):=by
 refine Pi Tryz.func9 fun C=>?_
 refine A2 ⟨?_⟩;intros;refine Wo (KL rfl rfl) ?_;exact Z1
def iP (names:List (List UInt8)) (zs:List Int) (s:List UInt8):Option Nat:=if sA names s<0 then none else some ((zs.getD (sA names s).toNat 0).toNat)
def zh (ns:List Nd) (names:List (List UInt8)) (zs:List Int):Option (Option (List Nat)) :=
 if otx ns=none∨names.length≠zs.length then none else some (vZ (iP names zs) ns [] [])
abbrev itT:TypeId:=3
def jW (l:List Nat):List SV:=l.map fun n:Nat=>lit (.int .i64 (n:Int))
theorem yr (l:List Nat):(jW l).length=l.length:=cq ..
def SB (gi gn:Nat) (o:Option (Option (List Nat))):SV→LH→Prop:=fun r H'=>match o with
 |none=>r=Ab.tup [lit (.slice none 0 0),lit (jo gi)]∧H'=[]
 |some none=>r=Ab.tup [lit (.slice none 0 0),lit (jo gn)]∧H'=[]
 |some (some out)=>∃s,r=Ab.tup [s,lit .nilIface]∧Own itT 1 out.length (jW out) s H'
theorem wj (A X Y:LH):(A++(X++Y)).Perm (X++(A++Y)):=by
 rw [←av,←av];exact aC.append_right Y
theorem CT (c:Nat×TypeId×List SV) (A X Y:LH):(c::(X++(A++Y))).Perm (Y++(c::(X++A))):=by
 rw [←av,←aa];exact aC
theorem CS (c:Nat×TypeId×List SV) (A X Y:LH):(Y++(c::(X++A))).Perm ((X++Y)++(c::A)):=by
 refine(wj Y [c] (X++A)).trans ?_;refine List.Perm.trans ?_ (wj [c] (X++Y) A);refine List.Perm.cons c ?_;rw [av];exact wj Y X A
structure BSt where
 k:Nat
 vs:List Nat
 out:List Nat
 s1:SV
 H1:LH
 s2:SV
 H2:LH
def BSt.ok (ns:List Nd) (env:List UInt8→Option Nat) (x:BSt):Prop :=
 x.k≤ns.length∧x.out.length=x.k∧(∃st,BS x.out st x.vs∧(stk (ns.drop x.k) x.k st).isSome=true)∧vZ env (ns.drop x.k) x.vs x.out=vZ env ns [] []∧
  Own itT 1 x.vs.length (jW x.vs.reverse) x.s1 x.H1∧Own itT 1 x.out.length (jW x.out) x.s2 x.H2∧(∀v∈x.vs,v≤9223372036854775807)∧(∀v∈x.out,v≤9223372036854775807)∧x.vs.length≤x.k
theorem Ra [iO 3] [iO 0] (ns:List Nd){L:Nat}(hok:∀n∈ns,n.ok L) (hL:L≤20) (hns:ns.length≤30) (names:List (List UInt8)) (hnl:names.length≤1000000) (zs:List Int) (hzl:zs.length≤1000000) (hz:∀z∈zs,IU z) :
  PuH Tryz.prog 21 [sl (ns.map ndx).flatten ns.length,sl (names.map str) names.length,nsl .i64 zs] [] (SB 3 0 (zh ns names zs)) noX:=by
 have c:=CR ns hok hL hns;have ci:=PD 3;have cn:=DB 3;cases ho:otx ns with
 |none =>
  rw [ho]at c;have he:zh ns names zs=none:=if_pos (.inl ho);rw [he];unfold CU at c;simp only at c;refine PuH.intro Tryz.func21 rfl kr fun C hC=>?_
  refine D2 c ci ⟨?_⟩;intros;exact cD _ [] (eJ (RV.tmp rfl) (RV.tmp rfl) Lr) Sr ⟨rfl,rfl⟩
 |some t =>
  rw [ho]at c;unfold CU at c;simp only at c;by_cases hl:names.length=zs.length
  case neg =>
   have he:zh ns names zs=none:=if_pos (.inr hl);rw [he];refine PuH.intro Tryz.func21 rfl kr fun C hC=>?_
   refine D2 c cn ⟨?_⟩;intros;exact cD _ [] (eJ (RV.tmp rfl) (RV.tmp rfl) Lr) Sr ⟨rfl,rfl⟩
  have he:zh ns names zs=some (vZ (iP names zs) ns [] []):=if_neg (by rw [ho];simp [hl]);rw [he];generalize hB:vZ (iP names zs) ns [] []=B;refine PuH.intro Tryz.func21 rfl kr fun C hC=>?_
  refine D2 c cn ⟨?_⟩;intros
  refine WP.loopS (ι:=BSt) (BSt.ok ns (iP names zs)) (fun x=>ns.length-x.k)
   (fun x=>fm [(0,sl (ns.map ndx).flatten ns.length),(1,sl (names.map str) names.length),(2,nsl .i64 zs),(10,x.s1),(11,x.s2),(32,sl (ns.map ndx).flatten ns.length),(33,lit (.int .i64 ns.length)),(34,lit (.int .i64 x.k))])
   (fun x=>x.H1++x.H2) ⟨0,[],[],lit (.slice none 0 0),[],lit (.slice none 0 0),[]⟩ ?_ lfA (aF _) ?_
  ·refine⟨ak _,rfl,⟨[], .nil,?_⟩,by rw [bG],Own.nil _ _,Own.nil _ _,(fun v h=>by cases h),(fun v h=>by cases h),ar _⟩;rw [bG];unfold otx at ho;cases hs:stk ns 0 []with
   |none=>rw [hs]at ho;cases ho
   |some st=>rfl
  rintro ⟨k,vs,out,s1,H1,s2,H2⟩ ⟨hk,hol,⟨st,hbs,hst⟩,hrun,hown1,hown2,hv1,hv2,hvk⟩ K hK;simp only at hk hol hbs hst hrun hown1 hown2 hv1 hv2 hvk;simp only;by_cases hkl:k<ns.length
  ·have hget:=ax hkl;have hdrop:=jf hkl;generalize ns[k]=nd at hget hdrop;have hat:=fV (f:=ndx) (n:=19) jV hget;have hne:(ns.map ndx).flatten≠[]:=gD jV om (fun e=>by rw [e]at hkl;simp at hkl);rw [hdrop]at hst hrun;rw [nQ]at hst;cases hs:stp k nd st with
   |none=>rw [hs]at hst;cases hst
   |some st' =>
   rw [hs]at hst;simp only at hst;have hstep:=Jh (env:=iP names zs) hs hbs hol;rw [sh]at hrun
   have hcont:∀v r s1' H1' s2' H2' F' H',gX (iP names zs) nd vs=some (v,r)→v≤9223372036854775807→(∀u∈r,u≤9223372036854775807)→r.length≤vs.length→Own itT 1 (r.length+1) (jW r.reverse++[lit (.int .i64 (v:Int))]) s1' H1'→Own itT 1 (out.length+1) (jW out++[lit (.int .i64 (v:Int))]) s2' H2'→
     LeF F' (fm [(0,sl (ns.map ndx).flatten ns.length),(1,sl (names.map str) names.length),(2,nsl .i64 zs),(10,s1'),(11,s2'),(32,sl (ns.map ndx).flatten ns.length),(33,lit (.int .i64 ns.length)),(34,lit (.int .i64 (k+1:Nat)))])→(H1'++H2').Sublist H'→K F' H':=by
    intro v r s1' H1' s2' H2' F' H' hb hv hr hrl h1 h2 hF hH;rw [hb]at hstep hrun;simp only at hstep hrun;refine hK F' H' ⟨k+1,v::r,out++[v],s1',H1',s2',H2'⟩ ⟨by simp only;omega,by simp only [ac,bh];omega,⟨st',hstep,hst⟩,hrun,?_,?_,?_,?_,?_⟩ (by simp only;omega) hF hH
    ·simp only [aE,nj,jW,aB,aG,fw];exact h1
    ·simp only [ac,bh,jW,aB,aG,fw];exact h2
    ·intro u hu;rcases an.1 hu with rfl|hu
     ·exact hv
     ·exact hr u hu
    ·intro u hu;rcases az.1 hu with hu|hu
     ·exact hv2 u hu
     ·rw [au.1 hu];exact hv
    ·simp only [aE];omega
   clear hK
   have hbe:∀o,gX (iP names zs) nd vs=o→(∃v r,o=some (v,r))∨o=none:=fun o _=>by cases o with
    |none=>exact .inr rfl
    |some q=>exact .inl ⟨q.1,q.2,rfl⟩
   have hkr:1≤nd.k∧nd.k≤6:=by
    unfold stp at hs;split at hs
    ·rename_i e;exact(Ae e).1
    ·cases hs
   obtain⟨hk1,hk6⟩:=hkr;have hvl:vs.length≤30:=by omega
   have hco1:=hown1.co;have hco2:=hown2.co;by_cases k1:nd.k=1
   ·have hnl1:nd.nm.length≤100:=(hok nd (bo hget)).nm;have cx:=DH names nd.nm om;rcases Hg names nd.nm with⟨hf,hf'⟩|⟨i,hf,hi⟩
    ·have hbs':gX (iP names zs) nd vs=none:=by unfold gX iP;rw [if_pos k1,if_pos hf]
     rw [hbs']at hrun;simp only at hrun;have hB':B=none:=by rw [←hB,←hrun]
     subst hB';rw [hf']at cx;clear hstep hrun hv1 hv2 hbe hs hst hbs' hbs hdrop hget hcont hB;refine A2 ⟨?_⟩;intros;refine Wo (ae (cs':=ndx nd) rfl rfl om om hat hne) ?_;refine D1 cx ⟨?_⟩;intros;exact cD _ [] (eJ (RV.tmp rfl) (RV.tmp rfl) Lr) (aF _) ⟨rfl,rfl⟩
    ·have hz1:=hz (zs.getD i 0) (by rw [List.getD,ax om];exact fC om);have hbs':gX (iP names zs) nd vs=some ((zs.getD i 0).toNat,vs):=by unfold gX iP;rw [if_pos k1,hf,if_neg om];rfl
     obtain⟨z1,z2⟩:=hz1;have cx2:i<zs.length:=by omega
     rw [hf]at cx;replace hcont:=fun s1' H1' s2' H2' F' H'=>hcont _ vs s1' H1' s2' H2' F' H' hbs' om hv1 om
     clear hstep hrun hv1 hv2 hbe hs hst hbs' hbs hdrop hget hf;obtain⟨z,hzz⟩:∃z,zs.getD i 0=z:=⟨_,rfl⟩
     rw [hzz]at z1 z2 hcont;refine A2 ⟨?_⟩;intros;refine Wo (ae (cs':=ndx nd) rfl rfl om om hat hne) ?_;refine D1 cx ⟨?_⟩;intros;rw [hzz];refine Wo (lc rfl rfl (r:=((z.toNat:Nat):Int)) (by rw [Fp];omega)) ?_;refine A2 ⟨?_⟩;intros;rename_i bE b9;refine qO hown1 (wj [(b9,_,_),(bE,_,_)] H1 H2) om (fun s1' H1' hown1'=>?_) (bV _ Ms);have hco1':=hown1'.co;refine A2 ⟨?_⟩;intros;rename_i b10;refine qO hown2 (CT _ _ H1' H2) om (fun s2' H2' hown2'=>?_) Ms;have hco2':=hown2'.co;refine WPL.perm (CS _ _ H1' H2') ?_;refine A2 ⟨?_⟩;intros;exact hcont s1' H1' s2' H2' _ _ hown1' hown2' lfA (f5 _ _)
   by_cases k4:nd.k=4
   ·have hbs':gX (iP names zs) nd vs=some (1,vs):=by unfold gX;rw [if_neg k1,if_pos k4]
    replace hcont:=fun s1' H1' s2' H2' F' H'=>hcont 1 vs s1' H1' s2' H2' F' H' hbs' om hv1 om
    clear hstep hrun hv1 hv2 hbe hs hst hbs' hbs hdrop hget;refine A2 ⟨?_⟩;intros;refine Wo (ae (cs':=ndx nd) rfl rfl om om hat hne) ?_;refine D1 Mv ⟨?_⟩;intros;rename_i bE b9;refine qO hown1 (wj [(b9,_,_),(bE,_,_)] H1 H2) om (fun s1' H1' hown1'=>?_) (bV _ Ms);have hco1':=hown1'.co;refine A2 ⟨?_⟩;intros;rename_i b10;refine qO hown2 (CT _ _ H1' H2) om (fun s2' H2' hown2'=>?_) Ms;have hco2':=hown2'.co;refine WPL.perm (CS _ _ H1' H2') ?_;refine A2 ⟨?_⟩;intros;exact hcont s1' H1' s2' H2' _ _ hown1' hown2' lfA (f5 _ _)
   by_cases k5:nd.k=5
   ·cases vs with
    |nil =>
     have:gX (iP names zs) nd []=none:=by unfold gX;rw [if_neg k1,if_neg k4,if_pos k5]
     rw [this]at hstep;exact absurd hstep.1 k1
    |cons v r =>
    have hbs':gX (iP names zs) nd (v::r)=some (v,r):=by unfold gX;rw [if_neg k1,if_neg k4,if_pos k5]
    have hvm:=hv1 v (by simp);replace hcont:=fun s1' H1' s2' H2' F' H'=>hcont v r s1' H1' s2' H2' F' H' hbs' hvm (fun u hu=>hv1 u (by simp [hu])) (by simp)
    have hlr:(v::r).length=r.length+1:=rfl;obtain⟨b1,c1,hnc,hcm,rfl,rfl⟩:=hown1.blk (by simp);have hil:(jW (v::r).reverse).length=(v::r).length*1:=by rw [yr];simp
    obtain⟨hownr,hle⟩:=Own.cut (T:=itT) (j:=r.length) (b:=b1) hil hnc hcm (by simp)
    have htk:(jW (v::r).reverse).take (r.length*1)=jW r.reverse:=by
     rw [nj,cw];unfold jW;rw [aB,ny (by simp)]
    have hgt:(jW (v::r).reverse++List.replicate (c1*1-(v::r).length*1) top)[(v::r).length-1]? = some (lit (.int .i64 (v:Int))):=by
     rw [dO (by rw [hil];simp),nj];unfold jW;rw [aB,gh (by simp)];simp
    rw [htk]at hownr hle;clear hstep hrun hv1 hv2 hbe hs hst hbs' hbs hdrop hget hown1 htk hil;simp only [aa,a8];refine A2 ⟨?_⟩;intros;refine Wo (ae (cs':=ndx nd) rfl rfl om om hat hne) ?_;refine A2 ⟨?_⟩;intros;refine Wo (eR rfl mmA hgt) ?_;have cc:=P9 v hvm;refine D1 cc ⟨?_⟩;intros;refine Wo (uh r.length rfl rfl om om) ?_;refine WPL.lowB (.there _ (.here _)) hle ?_;refine A2 ⟨?_⟩;intros;rename_i bE b9;refine qO hownr (wj [(b9,_,_),(bE,_,_)] [(b1,_,_)] H2) om (fun s1' H1' hown1'=>?_) (bV _ Ms);have hco1':=hown1'.co;refine A2 ⟨?_⟩;intros;rename_i b10;refine qO hown2 (CT _ _ H1' H2) om (fun s2' H2' hown2'=>?_) Ms;have hco2':=hown2'.co;refine WPL.perm (CS _ _ H1' H2') ?_;refine A2 ⟨?_⟩;intros;exact hcont s1' H1' s2' H2' _ _ hown1' hown2' lfA (f5 _ _)
   by_cases k6:nd.k=6
   ·cases vs with
    |nil =>
     have:gX (iP names zs) nd []=none:=by unfold gX;rw [if_neg k1,if_neg k4,if_neg k5,if_pos k6]
     rw [this]at hstep;exact absurd hstep.1 k1
    |cons v vs1 =>
    cases vs1 with
    |nil =>
     have:gX (iP names zs) nd [v]=none:=by unfold gX;rw [if_neg k1,if_neg k4,if_neg k5,if_pos k6]
     rw [this]at hstep;exact absurd hstep.1 k1
    |cons u r =>
    have hbs':gX (iP names zs) nd (v::u::r)=some (bnd u v,r):=by unfold gX;rw [if_neg k1,if_neg k4,if_neg k5,if_pos k6]
    have hvm:=hv1 v (by simp);have hum:=hv1 u (by simp);have hbm:bnd u v≤9223372036854775807:=Mo u v;replace hcont:=fun s1' H1' s2' H2' F' H'=>hcont (bnd u v) r s1' H1' s2' H2' F' H' hbs' hbm (fun x hx=>hv1 x (by simp [hx])) (by simp;omega)
    have cm:=IA u v ⟨om,om⟩ ⟨om,om⟩;rw [e9,e9]at cm;generalize bnd u v=q at *;have hlr:(v::u::r).length=r.length+2:=rfl;obtain⟨b1,c1,hnc,hcm,rfl,rfl⟩:=hown1.blk (by simp);have hil:(jW (v::u::r).reverse).length=(v::u::r).length*1:=by rw [yr];simp
    obtain⟨hownr,hle⟩:=Own.cut (T:=itT) (j:=r.length) (b:=b1) hil hnc hcm (by simp;omega)
    have hrev:jW (v::u::r).reverse=jW r.reverse++[lit (.int .i64 (u:Int)),lit (.int .i64 (v:Int))]:=by
     rw [nj,nj,av];unfold jW;rw [aB];rfl
    have hrl:(jW r.reverse).length=r.length:=by rw [yr,sH]
    have htk:(jW (v::u::r).reverse).take (r.length*1)=jW r.reverse:=by
     rw [hrev,cw,ny hrl]
    have hgt:(jW (v::u::r).reverse++List.replicate (c1*1-(v::u::r).length*1) top)[(v::u::r).length-1]? = some (lit (.int .i64 (v:Int))):=by
     rw [dO (by rw [hil,hlr];omega),hrev,gh (by rw [hrl,hlr];omega),hrl,show(v::u::r).length-1-r.length=1 by rw [hlr];omega];rfl
    have hgt2:(jW (v::u::r).reverse++List.replicate (c1*1-(v::u::r).length*1) top)[(v::u::r).length-2]? = some (lit (.int .i64 (u:Int))):=by
     rw [dO (by rw [hil,hlr];omega),hrev,gh (by rw [hrl,hlr];omega),hrl,show(v::u::r).length-2-r.length=0 by rw [hlr];omega];rfl
    rw [htk]at hownr hle;clear hstep hrun hv1 hv2 hbe hs hst hbs' hbs hdrop hget hown1 htk hil hrev hrl;simp only [aa,a8];refine A2 ⟨?_⟩;intros;refine Wo (ae (cs':=ndx nd) rfl rfl om om hat hne) ?_;refine D1 cm ⟨?_⟩;intros;refine Wdo (eR rfl mmA hgt2) ?_;refine D1 cm ⟨?_⟩;intros;refine Wdo (eR rfl mmA hgt) ?_;refine D1 cm ⟨?_⟩;intros;refine Wo (uh r.length rfl rfl om om) ?_;refine WPL.lowB (.there _ (.here _)) hle ?_;refine A2 ⟨?_⟩;intros;rename_i bE b9;refine qO hownr (wj [(b9,_,_),(bE,_,_)] [(b1,_,_)] H2) om (fun s1' H1' hown1'=>?_) (bV _ Ms);have hco1':=hown1'.co;refine A2 ⟨?_⟩;intros;rename_i b10;refine qO hown2 (CT _ _ H1' H2) om (fun s2' H2' hown2'=>?_) Ms;have hco2':=hown2'.co;refine WPL.perm (CS _ _ H1' H2') ?_;refine A2 ⟨?_⟩;intros;exact hcont s1' H1' s2' H2' _ _ hown1' hown2' lfA (f5 _ _)
   have hbs':gX (iP names zs) nd vs=some (0,vs):=by unfold gX;rw [if_neg k1,if_neg k4,if_neg k5,if_neg k6]
   replace hcont:=fun s1' H1' s2' H2' F' H'=>hcont 0 vs s1' H1' s2' H2' F' H' hbs' om hv1 om
   clear hstep hrun hv1 hv2 hbe hs hst hbs' hbs hdrop hget;refine A2 ⟨?_⟩;intros;refine Wo (ae (cs':=ndx nd) rfl rfl om om hat hne) ?_;refine A2 ⟨?_⟩;intros;rename_i bE b9;refine qO hown1 (wj [(b9,_,_),(bE,_,_)] H1 H2) om (fun s1' H1' hown1'=>?_) (bV _ Ms);have hco1':=hown1'.co;refine A2 ⟨?_⟩;intros;rename_i b10;refine qO hown2 (CT _ _ H1' H2) om (fun s2' H2' hown2'=>?_) Ms;have hco2':=hown2'.co;refine WPL.perm (CS _ _ H1' H2') ?_;refine A2 ⟨?_⟩;intros;exact hcont s1' H1' s2' H2' _ _ hown1' hown2' lfA (f5 _ _)
  ·obtain rfl:k=ns.length:=by omega
   rw [fv]at hrun;have hB':B=some out:=by rw [←hB,←hrun];rfl
   have hco2:=hown2.co;clear hK hrun hB;subst hB';refine A2 ⟨?_⟩;intros;exact cD _ H2 (eJ (RV.tmp rfl) (RV.tmp rfl) Lr) (xc _ _) ⟨s2,rfl,hown2⟩
theorem HD {env:List UInt8→Option Nat}(hE:∀s v,env s=some v→v≤su):∀{ns:List Nd}{st out o:List Nat},(∀x∈st,x≤su)→(∀x∈out,x≤su)→vZ env ns st out=some o→∀x∈o,x≤su
 | [],st,out,o,_,h2,h=>by obtain rfl:=bk h;exact h2
 |n::ns,st,out,o,h1,h2,h=>by
  rw [sh]at h;cases hb:gX env n st with
  |none=>rw [hb]at h;cases h
  |some q =>
   obtain⟨v,r⟩:=q;rw [hb]at h;obtain⟨g1,g2⟩:=Ml hE h1 hb;refine HD (st:=v::r) hE ?_ ?_ h
   ·intro x hx;rcases an.1 hx with rfl|hx
    ·exact g1
    ·exact g2 x hx
   ·intro x hx;rcases az.1 hx with hx|hx
    ·exact h2 x hx
    ·rw [au.1 hx];exact g1
theorem M1 {names:List (List UInt8)}{zs:List Int}(hz:∀z∈zs,IU z):∀s v,iP names zs s=some v→v≤su:=by
 intro s v h;unfold iP at h;split at h
 ·cases h
 ·obtain rfl:=bk h;by_cases hk:(sA names s).toNat<zs.length
  ·rw [List.getD,ax hk];obtain⟨_,h2⟩:=hz _ (fC hk);show(_:Int).toNat≤su
   unfold su;simp only [jR];omega
  ·rw [List.getD,cM om];decide
theorem Lz {l:List Nat}{m:Mem}{b c:Nat}{arr:Array Value}{T:TypeId}(hb:m b=some (.cells arr T (0,0))) (h:bn m (jW l++List.replicate (c*1-l.length*1) top) arr.toList) (h1:l.length≤c) (h2:c≤maxLen):(nsl .i64 (l.map Int.ofNat)).p m (.slice (some ⟨b,0,none⟩) l.length c):=by
 have:=nX (cs:=jW l) (n:=l.length) hb h h1 h2
 have e:nsl .i64 (l.map Int.ofNat)=sl (jW l) l.length:=by
  unfold nsl jW;rw [lp,cq];rfl
 rw [e];exact this
theorem Jl {ns:List Nd}{names:List (List UInt8)}{zs:List Int}{o:Option (List Nat)}(h:zh ns names zs=some o):(∃t,otx ns=some t)∧names.length=zs.length∧o=vZ (iP names zs) ns [] []∧ns≠[]:=by
 unfold zh at h;split at h
 ·cases h
 ·rename_i hn;have ho:¬otx ns=none:=fun e=>hn (.inl e)
  refine⟨?_,Decidable.not_not.1 fun e=>hn (.inr e),(bk h).symm,?_⟩
  ·cases he:otx ns with
   |none=>exact absurd he ho
   |some t=>exact⟨t,rfl⟩
  ·rintro rfl;exact ho rfl
theorem Ee {ns:List Nd}{names:List (List UInt8)}{zs:List Int}(hz:∀z∈zs,IU z){out:List Nat}(h:zh ns names zs=some (some out)):out.length=ns.length∧0<out.length∧∀x∈out,x≤9223372036854775807:=by
 obtain⟨_,_,h2,h3⟩:=Jl h;have h4:=Ea h2.symm;simp only [br,aD]at h4;exact⟨h4,by rw [h4];exact ez.2 h3,HD (M1 hz) (fun x hx=>by cases hx) (fun x hx=>by cases hx) h2.symm⟩
def pkR (gi gn:Nat):Option (Option (List Nat))→SV
 |none=>Ab.tup [lit (.int .i64 0),lit (jo gi)]
 |some none=>Ab.tup [lit (.int .i64 0),lit (jo gn)]
 |some (some out)=>Ab.tup [lit (.int .i64 (jp out:Nat)),lit .nilIface]
theorem Mn [iO 3] [iO 0] (ns:List Nd){L:Nat}(hok:∀n∈ns,n.ok L) (hL:L≤20) (hns:ns.length≤30) (names:List (List UInt8)) (hnl:names.length≤1000000) (zs:List Int) (hzl:zs.length≤1000000) (hz:∀z∈zs,IU z) :
  Pu Tryz.prog 10 [sl (ns.map ndx).flatten ns.length,sl (names.map str) names.length,nsl .i64 zs] (pkR 3 0 (zh ns names zs)):=by
 have c:=Ra ns hok hL hns names hnl zs hzl hz;match ho:zh ns names zs,c with
 |none,c =>
  unfold pkR;refine Pi Tryz.func10 fun C=>?_
  refine A2 ⟨?_⟩;intros;refine WfT c ?_;rintro _ _ ⟨rfl,rfl⟩;refine A2 ⟨?_⟩;intros;exact G2
 |some none,c =>
  unfold pkR;refine Pi Tryz.func10 fun C=>?_
  refine A2 ⟨?_⟩;intros;refine WfT c ?_;rintro _ _ ⟨rfl,rfl⟩;refine A2 ⟨?_⟩;intros;exact G2
 |some (some out),c =>
  unfold pkR;refine Pi Tryz.func10 fun C=>?_
  refine A2 ⟨?_⟩;intros;refine WfT c ?_;rintro _ H' ⟨s,rfl,hown⟩;obtain⟨o1,o2,o3⟩:=Ee hz ho;obtain⟨b,c1,hnc,hcm,rfl,rfl⟩:=hown.blk o2;have cm:=QF out (ez.1 o2) om o3;clear hown;simp only [a8];refine A2 ⟨?_⟩;intros;refine WPL.pub (d:=20) (s':=nsl .i64 (out.map Int.ofNat)) (aq.here _) rfl (fun m arr h1 h2=>Lz h1 h2 hnc hcm) ?_;refine D1 cm ⟨?_⟩;intros;exact G2
def gOf (gn gr gb:Nat) (e:Nat):Nat:=if e=5 then gn else if e=7 then gb else gr
def evR (gn gr gb:Nat):Except (Nat×Nd) (List Tr)→SV
 | .ok out=>Ab.tup [sl (out.map bt) out.length,lit .nilIface]
 | .error (e,n)=>Ab.tup [lit (.slice none 0 0),erA (gOf gn gr gb e) (lit (.int .i64 n.ln)) (lit (.int .i64 n.cl)) (str (Oz n))]
theorem s5 {a b c e:Nat}{n:Nd}:evR a b c (.error (e,n))=Ab.tup [lit (.slice none 0 0),erA (gOf a b c e) (lit (.int .i64 n.ln)) (lit (.int .i64 n.cl)) (str (Oz n))]:=rfl
theorem tC {a b c:Nat}{out:List Tr}:evR a b c (.ok out)=Ab.tup [sl (out.map bt) out.length,lit .nilIface]:=rfl
structure EvS where
 k:Nat
 out:List Tr
 s:SV
 Hs:LH
theorem Nx {out:List Tr}{t:Tr}{s:SV}{H:LH}(h:Own ptT 1 (out.length+1) (out.map bt++[bt t]) s H):Own ptT 1 (out++[t]).length ((out++[t]).map bt) s H:=by
 rw [aB,ac,bh];exact h
theorem Hj {nm:List (List UInt8)}{ts out:List Tr}{n:Nd}{e:Nat}(h:evP nm ts out n = .error e):e=5∨e=3:=by
 unfold evP at h;split at h
 ·split at h
  ·cases h;exact .inl rfl
  ·cases h
 ·split at h
  ·split at h
   ·cases h;exact .inr rfl
   ·cases h
  ·split at h
   ·cases h
   ·split at h <;> cases h
theorem M4 [iO 0] [iO 1] [iO 2]{L:List Li}{LL:Nat}{nm:List (List UInt8)}{ts:List Tr}(h:EvE L LL nm ts){ns:List Nd}{N:Nat}(hok:∀n∈ns,n.ok N) (hN:N≤1000) (hns:ns.length≤100) (hst:(stk ns 0 []).isSome=true) (hh:∀n∈ns,n.k=4→zz n=false→wy n∈L) (bud:Int) (free:Bool) :
  Pu Tryz.prog 39 [R2 nm ts,sl (ns.map ndx).flatten ns.length,lit (.int .i64 bud),lit (.bool free)] (evR 0 1 2 (kX nm ts free bud ns [])):=by
 have hvv:=JO hst (fun p hp=>by cases hp);generalize hR:kX nm ts free bud ns []=R;refine PuH.toPu ?_;refine PuH.intro Tryz.func39 rfl kr fun C hC=>?_
 refine A2 ⟨?_⟩;intros;rename_i b4
 refine WP.loopS (ι:=EvS) (fun y=>y.k≤ns.length∧y.out.length=y.k∧(∀t∈y.out,Gd L t)∧kX nm ts free bud (ns.drop y.k) y.out=R∧Own ptT 1 y.out.length (y.out.map bt) y.s y.Hs) (fun y=>ns.length-y.k)
  (fun y=>fm [(2,lit (.int .i64 bud)),(3,lit (.bool free)),(4,lit (.pointer (some ⟨b4,0,none⟩))),(10,y.s),(15,sl (ns.map ndx).flatten ns.length),(16,lit (.int .i64 ns.length)),(17,lit (.int .i64 y.k))])
  (fun y=>(b4,102,[sl (nm.map str) nm.length,sl (ts.map bt) ts.length])::y.Hs) ⟨0,[],lit (.slice none 0 0),[]⟩ ⟨ak _,rfl,(fun t ht=>by cases ht),by rw [bG];exact hR,Own.nil _ _⟩ lfA Sr ?_
 rintro ⟨k,out,s,Hs⟩ ⟨hk,hol,hog,hgo,hown⟩ K hK;simp only at hk hol hog hgo hown⊢;have hco:=hown.co;by_cases hkl:k<ns.length
 ·obtain⟨n,hget,hmem,hat,hne⟩:=elt jV om hkl;have hn:=hok n hmem;have hv:=hvv k n hget;rw [aD,←hol]at hv;rw [mQ hget]at hgo;have cp:=M0 h hog om hn hN hv hown;have cl:=Lp n hv.ok;have hnext:=fun t s' H1 (e:evP nm ts out n = .ok t) (h2:kX nm ts free bud (ns.drop (k+1)) (out++[t])=R) (h1:Own ptT 1 (out.length+1) (out.map bt++[bt t]) s' H1) F' H'=>hK F' H' ⟨k+1,out++[t],s',H1⟩ ⟨by simp only;omega,by simp only [ac,bh];omega,fun u hu=>(az.1 hu).elim (hog u) fun hu=>by rw [au.1 hu];exact FD h hog (hh n hmem) e,h2,Nx h1⟩ (by simp only;omega)
  have hsz:∀t,evP nm ts out n = .ok t→aH t≤100000000:=fun t e=>by
   have g:=(FD h hog (hh n hmem) e).size h.ok;have hm:L.length*(1+L.length)≤100*101:=dk h.len (by have:=h.len;omega);omega
  unfold kX at hgo;clear hK hvv hst hok hh hR hmem h;cases hp:evP nm ts out n with
  |error e =>
   have he:=Hj hp;rw [hp]at hgo cp;simp only at hgo;subst hgo
   obtain⟨g,hg1,hg2⟩:∃g:Nat,Ky 0 1 (.error e)=Ab.tup [lit (.pointer none),lit (jo g)]∧gOf 0 1 2 e=g:=by
    rcases he with rfl|rfl
    ·exact⟨_,rfl,rfl⟩
    ·exact⟨_,rfl,rfl⟩
   rw [hg1]at cp;show WP _ _ _ _ _ _ _
   rw [s5,hg2];clear hnext hsz hv hg1 hg2;refine A2 ⟨?_⟩;intros;refine Wo (ae (cs':=ndx n) rfl rfl om om hat hne) ?_;refine A2 ⟨?_⟩;intros;rename_i b12;refine WfT cp ?_ (hs:=Tk.skip _ (Tk.skip _ (Tk.same _)));rintro _ _ ⟨rfl,rfl⟩;simp only [aa,a8];repeat(first|(refine AS ⟨?_⟩;intros)|(refine O1 ⟨?_⟩;intros))
   refine WdZ 11 [0,1,2,3,4,5,6,7,8,9,10] [] [] _ ?_;refine ZkD 11 ?_;repeat(first|(refine A1 ⟨?_⟩;intros)|(refine Wo (cQ (sv:=ag _) rfl) ?_)|(refine Wdo (cQ (sv:=ag _) rfl) ?_)|(refine Wog (cQ (sv:=ag _) rfl) ?_)|(refine fO (cQ (sv:=ag _) rfl) ?_)|(refine Wo (gB (s:=pt _) kr rfl) ?_)|(refine Wdo (gB (s:=pt _) kr rfl) ?_)|(refine Wog (gB (s:=pt _) kr rfl) ?_)|(refine fO (gB (s:=pt _) kr rfl) ?_)|refine W4 cl ⟨?_⟩)
   refine Bx ?_;refine ZkN ?_;refine A2 ⟨?_⟩;intros;exact cD _ _ (eJ (RV.tmp rfl) (RV.tmp rfl) Lr) (aF _) rfl
  |ok t =>
   have cz:=z9 t (hsz t hp);have hz:=hsz t hp;rw [hp]at hgo cp;simp only at hgo;unfold Ky at cp;unfold ug at hgo;cases free with
   |true =>
    simp only [kR,aZ,bJ,aQ]at hgo;have hx:=fun s' H1=>hnext t s' H1 hp hgo
    clear hnext hsz hv hgo cz hp;refine A2 ⟨?_⟩;intros;refine Wo (ae (cs':=ndx n) rfl rfl om om hat hne) ?_;refine A2 ⟨?_⟩;intros;refine WfT cp ?_ (hs:=Tk.skip _ (Tk.skip _ (Tk.same _)));rintro _ _ ⟨rfl,rfl⟩;simp only [aa,a8];refine A2 ⟨?_⟩;intros;refine oo hown om (fun s' H1 hown'=>?_) (hsp:=Tk.skip _ (Tk.skip _ (Tk.skip _ (Tk.same _))));have hco':=hown'.co;replace hx:=hx s' H1 hown';clear hown hown';simp only [aa,a8];refine A2 ⟨?_⟩;intros;exact hx _ _ lfA Sw
   |false =>
    simp only [Bool.not_false,bd,df]at hgo;by_cases hb:bud<(aH t:Nat)
    ·rw [if_pos hb]at hgo;subst hgo;show WP _ _ _ _ _ _ _
     rw [s5,show gOf 0 1 2 7=2 from rfl];clear hnext hsz hv hp;generalize aH t=zt at *;refine A2 ⟨?_⟩;intros;refine Wo (ae (cs':=ndx n) rfl rfl om om hat hne) ?_;refine A2 ⟨?_⟩;intros;refine WfT cp ?_ (hs:=Tk.skip _ (Tk.skip _ (Tk.same _)));rintro _ _ ⟨rfl,rfl⟩;simp only [aa,a8];repeat(first|(refine AS ⟨?_⟩;intros)|(refine O1 ⟨?_⟩;intros)|(refine Wcx (cz) ?_)|(refine iN (cz) ?_))
     refine WdZ 11 [0,1,2,3,4,5,6,7,8,9,10] [] [] _ ?_;refine ZkD 11 ?_;repeat(first|(refine A1 ⟨?_⟩;intros)|(refine Wo (cQ (sv:=ag _) rfl) ?_)|(refine Wdo (cQ (sv:=ag _) rfl) ?_)|(refine Wog (cQ (sv:=ag _) rfl) ?_)|(refine fO (cQ (sv:=ag _) rfl) ?_)|(refine Wo (gB (s:=pt _) kr rfl) ?_)|(refine Wdo (gB (s:=pt _) kr rfl) ?_)|(refine Wog (gB (s:=pt _) kr rfl) ?_)|(refine fO (gB (s:=pt _) kr rfl) ?_)|refine W4 cl ⟨?_⟩)
     refine Bx ?_;refine ZkN ?_;refine A2 ⟨?_⟩;intros;exact cD _ _ (eJ (RV.tmp rfl) (RV.tmp rfl) Lr) (aF _) rfl
    ·rw [if_neg hb]at hgo;have hx:=fun s' H1=>hnext t s' H1 hp hgo
     clear hnext hsz hv hgo hp;generalize aH t=zt at *;refine A2 ⟨?_⟩;intros;refine Wo (ae (cs':=ndx n) rfl rfl om om hat hne) ?_;refine A2 ⟨?_⟩;intros;refine WfT cp ?_ (hs:=Tk.skip _ (Tk.skip _ (Tk.same _)));rintro _ _ ⟨rfl,rfl⟩;simp only [aa,a8];refine D1 cz ⟨?_⟩;intros;refine oo hown om (fun s' H1 hown'=>?_) (hsp:=Tk.skip _ (Tk.skip _ (Tk.skip _ (Tk.same _))));have hco':=hown'.co;replace hx:=hx s' H1 hown';clear hown hown';simp only [aa,a8];refine A2 ⟨?_⟩;intros;exact hx _ _ lfA Sw
 ·have hke:k=ns.length:=by omega
  subst hke;rw [fv]at hgo;have hR2:R = .ok out:=hgo.symm;subst hR2;rw [tC];refine WP.rowS 10 hown rfl (aC (l₁:=[(b4,102,[sl (nm.map str) nm.length,sl (ts.map bt) ts.length])])) ?_;clear hK hown hvv hst hok hh h hgo hog;refine A2 ⟨?_⟩;intros;exact cD _ _ (eJ (RV.tmp rfl) (RV.tmp rfl) Lr) (aF _) rfl
abbrev tqx (t:Tr):List SV:=[lit (.int .i64 (t.root 0)),sl (t.rows 0) t.size]
theorem G6 (t:Tr):(tqx t).length=2:=rfl
abbrev tqs (ts:List Tr):SV:=sl (ts.map tqx).flatten ts.length
theorem rM:∀t:Tr,t.size=aH t
 | .leaf _=>rfl
 | .node l a b=>by rw [Tr.size_node,rM a,rM b];rfl
abbrev Sy:TypeId:=102
structure EnS where
 k:Nat
 s:SV
 Hs:LH
theorem Pf {ts:List Tr}{k:Nat}{t:Tr}(h:ts[k]? = some t):(ts.take (k+1)).map bt=(ts.take k).map bt++[bt t]:=by
 rw [jh h,aB];rfl
structure Rf (L:List Li) (LL:Nat) (nm:List (List UInt8)) (ts:List Tr) (ns:List Nd) (N:Nat):Prop where
 e:EvE L LL nm ts
 sz:∀t∈ts,aH t≤60000
 ok:∀n∈ns,n.ok N
 Nl:N≤20
 nsl:ns.length≤30
 hh:∀n∈ns,n.k=4→zz n=false→wy n∈L
theorem K7 [iO 3] [iO 0] [iO 1] [iO 2]{L:List Li}{LL:Nat}{nm:List (List UInt8)}{ts:List Tr}{ns:List Nd}{N:Nat}(h:Rf L LL nm ts ns N) (bud:Int) (free:Bool) :
  Pu Tryz.prog 16 [sl (ns.map ndx).flatten ns.length,sl (nm.map str) nm.length,tqs ts,lit (.int .i64 bud),lit (.bool free)]
   (if otx ns=none then Ab.tup [lit (.slice none 0 0),lit (jo 3)]else evR 0 1 2 (kX nm ts free bud ns [])):=by
 have cx:=CR ns h.ok h.Nl h.nsl;have ci:=PD 3;have cn:=DB 3;have hnl:=h.e.nl;have hnm:=h.e.ns;have ce:=fun hst=>M4 h.e h.ok (by have:=h.Nl;omega) (by have:=h.nsl;omega) hst h.hh bud free
 refine PuH.toPu ?_;refine PuH.intro Tryz.func16 rfl kr fun C hC=>?_
 refine A2 ⟨?_⟩;intros;rename_i b12
 refine WP.loopS (ι:=EnS) (fun y=>y.k≤ts.length∧Own ptT 1 y.k ((ts.take y.k).map bt) y.s y.Hs) (fun y=>ts.length-y.k)
  (fun y=>fm [(0,sl (ns.map ndx).flatten ns.length),(1,sl (nm.map str) nm.length),(2,tqs ts),(3,lit (.int .i64 bud)),(4,lit (.bool free)),(12,lit (.pointer (some ⟨b12,0,none⟩))),(21,tqs ts),(22,lit (.int .i64 ts.length)),(23,lit (.int .i64 y.k))])
  (fun y=>(b12,Sy,[sl (nm.map str) nm.length,y.s])::y.Hs) ⟨0,lit (.slice none 0 0),[]⟩ ⟨ak _,Own.nil _ _⟩ lfA Sr ?_
 rintro ⟨k,s,Hs⟩ ⟨hk,hown⟩ K hK;simp only at hk hown⊢;have hco:=hown.co;by_cases hkl:k<ts.length
 ·obtain⟨t,hget,hmem,hat,hne⟩:=elt G6 om hkl;have c0:=R8 t (Tr.lin.all (p:=fun l=>l.ok∧l.le 100000) (fun l hl=>⟨h.e.ok l hl,(h.e.le l hl).gr (by have:=h.e.l2;omega)⟩) (h.e.tl t hmem)) (by rw [rM];exact h.sz t hmem);have hgo:=fun s' H1 (h1:Own ptT 1 (k+1) ((ts.take k).map bt++[bt t]) s' H1) F' H'=>hK F' H' ⟨k+1,s',H1⟩ ⟨by simp only;omega,by simp only;rw [Pf hget];exact h1⟩ (by simp only;omega)
  clear hK h ce cx hget hmem;refine A2 ⟨?_⟩;intros;refine Wo (ae (cs':=tqx t) rfl rfl om om hat hne) ?_;refine D1 c0 ⟨?_⟩;intros;refine oo hown om (fun s' H1 hown'=>?_) (hsp:=Tk.skip _ (Tk.skip _ (Tk.skip _ (Tk.same _))));have hco':=hown'.co;replace hgo:=hgo s' H1 hown';clear hown hown';simp only [aa,a8];refine A2 ⟨?_⟩;intros;refine WPL.store (b:=b12) (o:=1) (sv:=s') (cs':=[sl (nm.map str) nm.length,s']) rfl rfl rfl (.there _ (.there _ (.here _))) rfl rfl ?_;refine A2 ⟨?_⟩;intros;exact hgo _ _ lfA Sw
 ·have hke:k=ts.length:=by omega
  subst hke;rw [aX]at hown;cases ho:otx ns with
  |none =>
   rw [ho]at cx;unfold CU at cx;simp only at cx;rw [if_pos rfl];clear hK hown h ce;refine D2 cx ci ⟨?_⟩;intros;exact cD _ _ (eJ (RV.tmp rfl) (RV.tmp rfl) Lr) (aF _) rfl
  |some tx =>
   rw [ho]at cx;unfold CU at cx;simp only at cx;rw [if_neg (by simp)];replace ce:=ce (GJ ho);generalize kX nm ts free bud ns []=R at *;clear hK h;obtain⟨hlen,⟨h0,rfl,rfl⟩|⟨b,cc,h1,h2,rfl,rfl⟩⟩:=hown
   ·have hle:Le (ag [sl (nm.map str) nm.length,lit (.slice none 0 0)]) (R2 nm ts):=by
     have e0:ts=[]:=cU h0;subst e0;exact Le.ag ⟨Le.refl _,iC,trivial⟩
    have ce':=ce.arg (l':=[ag [sl (nm.map str) nm.length,lit (.slice none 0 0)],sl (ns.map ndx).flatten ns.length,lit (.int .i64 bud),lit (.bool free)]) ⟨hle,Le.refl _,Le.refl _,Le.refl _,trivial⟩;rcases R with⟨e,n⟩|out
    ·rw [s5]at *;refine D3 cx cn ce' ⟨?_⟩;intros;exact cD _ _ (eJ (RV.tmp rfl) (RV.tmp rfl) Lr) (aF _) rfl
    ·rw [tC]at *;refine D3 cx cn ce' ⟨?_⟩;intros;exact cD _ _ (eJ (RV.tmp rfl) (RV.tmp rfl) Lr) (aF _) rfl
   ·refine D1 cx ⟨?_⟩;intros;refine WPL.pubC (c1:=[sl (nm.map str) nm.length]) (c2:=[]) (s':=sl (ts.map bt) ts.length) (.there _ (.here _)) (.here _) (fun m arr hm ha=>wG hm ha h1 h2) ?_;simp only [aa,a8];rcases R with⟨e,n⟩|out
    ·rw [s5]at *;refine D2 cn ce ⟨?_⟩;intros;exact cD _ _ (eJ (RV.tmp rfl) (RV.tmp rfl) Lr) (aF _) rfl
    ·rw [tC]at *;refine D2 cn ce ⟨?_⟩;intros;exact cD _ _ (eJ (RV.tmp rfl) (RV.tmp rfl) Lr) (aF _) rfl
section
variable {P:Program}{C:Ctx}{n:Nat}{F:Fr}{H:LH}{ops:Array Oper}{K:Fr→LH→Prop}{Q:Exit→Fr→LH→Prop}
theorem bn.replK {m:Mem}{v:Value}{s':SV}{c2:List SV}(h:∀u,(lit v).p m u→s'.p m u):∀{c1:List SV}{l:List Value},bn m (c1++lit v::c2) l→bn m (c1++s'::c2) l
 | [],[],k=>k.elim
 | [],_::_,k=>⟨⟨h _ k.1.1,k.1.2⟩,k.2⟩
 |_::_,[],k=>k.elim
 |_::_,_::_,k=>⟨k.1,bn.replK h k.2⟩
theorem St.pubK {H1 H':LH}{a:Act}{w:World}{b o:Nat}{T To:TypeId}{cs c1 c2:List SV}{v:Value}{s':SV}(hs:St C n F H a w) (hdel:aq b T cs H H1)
  (hu:bz o To (c1++lit v::c2) (c1++s'::c2) H1 H') (hsv:∀(m:Mem) (arr:Array Value),m b=some (.cells arr T (0,0))→bn m cs arr.toList→s'.p m v):St C n F H' a w:=by
 obtain⟨hdef,hn,m,h1,h2,h3,h4,h5⟩:=hs;obtain⟨hmb,arr,hb,hall⟩:=h2.2 _ hdel.mem
 have hle:m.le (fun x=>if x=b then w.heap[b]? else m x):=fun x o hx=>by
  show(if x=b then w.heap[b]? else m x)=some o
  rw [if_neg (fun e=>by rw [e]at hx;rw [hmb]at hx;cases hx)];exact hx
 have hk:=hdel.keys h2.1;have hval:s'.p (fun x=>if x=b then w.heap[b]? else m x) v:=hsv _ arr (by show(if b=b then w.heap[b]? else m b)=_;rw [if_pos rfl];exact hb) (hall.mono hle)
 refine⟨hdef,hn,(fun x=>if x=b then w.heap[b]? else m x),⟨fun x o hx=>?_,Mem.le_trans h1.base hle⟩,⟨hu.keys▸hk.1,fun e he=>?_⟩,⟨Mem.le_trans h3.le hle,fun x hx hnx=>?_,h3.os,h3.tape,h3.output,h3.size,h3.block⟩,
  fun e he=>?_,fun t=>(F t).mono hle (h5 t)⟩
 ·by_cases hxb:x=b
  ·subst hxb;simp only [aV]at hx;exact hx
  ·simp only [if_neg hxb]at hx;exact h1 x o hx
 ·rcases hu.mem' hk.1 e he with rfl|⟨he',hne⟩
  ·obtain⟨q1,arr',q2,q3⟩:=h2.2 _ (hdel.sub _ hu.mem);refine⟨?_,arr',q2,(q3.mono hle).replK fun u hu'=>?_⟩
   ·show(if o=b then w.heap[b]? else m o)=none
    rw [if_neg (hk.2 _ hu.mem)];exact q1
   ·rw [ap]at hu';subst hu';exact hval
  ·obtain⟨q1,arr',q2,q3⟩:=h2.2 e (hdel.sub e he');exact⟨by show(if e.1=b then w.heap[b]? else m e.1)=none;rw [if_neg (hk.2 e he')];exact q1,arr',q2,q3.mono hle⟩
 ·have hxb:x≠b:=fun e=>by
   subst e;rcases h4 _ hdel.mem with h|h
   ·exact hnx h
   ·exact absurd hx (iG.2 h)
  show(if x=b then w.heap[b]? else m x)=_
  rw [if_neg hxb];exact h3.old x hx hnx
 ·have:e.1∈H'.map (·.1):=aj.2 ⟨e,he,rfl⟩;rw [hu.keys]at this;obtain⟨e',he',hk'⟩:=aj.1 this;exact hk'▸h4 e' (hdel.sub e' he')
theorem Ox:Le (lit (.slice none 0 0)) (sl [] 0):=fun m v hv=>by
 rw [ap]at hv;subst hv;exact js (ar _) (by decide) (.inl rfl)
theorem Own.nilE {T:TypeId}{sz k:Nat}{cs:List SV}{s:SV}{Hs:LH}(h:Own T sz k cs s Hs) (hk:k=0):cs=[]:=by
 have:=h.1;rw [hk,bS]at this;exact cU this
theorem St.pubOwnC {a:Act}{w:World}{o:Nat}{T To:TypeId}{sz k:Nat}{cs c1 c2:List SV}{s:SV}{Hs Rs:LH}(hown:Own T sz k cs s Hs) (hp:H.Perm ((o,To,c1++s::c2)::(Hs++Rs))) (hs:St C n F H a w) :
  St C n F ((o,To,c1++sl cs k::c2)::Rs) a w:=by
 have hs1:=hs.perm hp;have hown':=hown;obtain⟨_,⟨h0,rfl,rfl⟩|⟨b,c,hnc,hcm,rfl,rfl⟩⟩:=hown
 ·have hcs:=hown'.nilE h0;subst hcs;subst h0;rw [a8]at hs1;exact hs1.lowB (.here _) (LeL.app (LeL.refl _) (show LeL (lit (.slice none 0 0)::c2) (sl [] 0::c2)from⟨Ox,LeL.refl _⟩))
 ·exact St.pubK (hs1.perm (List.Perm.swap _ _ _)) (.here _) (.here _) fun m arr h1 h2=>nX h1 h2 hnc hcm
theorem WP.pubOwnC {c:Code}{o:Nat}{T To:TypeId}{sz k:Nat}{cs c1 c2:List SV}{s:SV}{Hs Rs:LH}(hown:Own T sz k cs s Hs) (hp:H.Perm ((o,To,c1++s::c2)::(Hs++Rs)))
  (h:WP P C n c Q F ((o,To,c1++sl cs k::c2)::Rs)):WP P C n c Q F H:=by
 unfold WP at *;exact fun a w hs=>h a w (hs.pubOwnC hown hp)
end
end Go.Ab
