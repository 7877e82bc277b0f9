/- Texts laid one behind the other: KaP, PLaw, EvK, EvH, IsN, ExTape, ImS, HalfS. -/
import Derived.Test.YtjopjomoejfehaaGreatDoorB39
import Derived.LaidSub
import Derived.Stop.LaidTwo
set_option linter.all false
set_option maxHeartbeats 16000000
namespace Go.Ab
open Go.Proofs
variable [Base]
abbrev kpT:TypeId:=234
abbrev keT:TypeId:=92
abbrev kbT:TypeId:=174
abbrev kpC (ts:List Tq) (s:SV):List SV:=[kts ts,lit (.int .i64 0),s]
theorem Lq (a:Tq) (r:List Tq):((a::r).map ktx).flatten≠[]:=by
 rw [aG,bP];exact fun h=>by cases h
theorem Ls (a:Tq) (r:List Tq):(((a::r).map ktx).flatten.drop (0*4)).take 4=ktx a:=by
 rw [bS,bG,aG,bP];rfl
theorem QJ (a:Tq) (r:List Tq):((a::r).map ktx).flatten.drop (1*4)=(r.map ktx).flatten:=by
 rw [aG,bP];rfl
theorem OD (ts:List Tq):(ts.map ktx).flatten.length=ts.length*4:=by
 induction ts with
 |nil=>rfl
 |cons a r ih=>simp only [aG,bP,ac,aE,br,ih];omega
theorem pu (s:SV) (hco:CO s [s]) (a:Tq) (r:List Tq) (hr:r.length≤1000000):PuM Tryz.prog 116 kpT (fun p=>[kh p]) (kpC (a::r) s) (fun _:Unit=>kpC (a::r) s) (fun _=>ag (ktx a)):=by
 have hl:(a::r).length=r.length+1:=rfl;refine PuM.intro Tryz.func116 rfl kr fun C b=>?_
 refine A2 ⟨?_⟩;intros;refine Wo (ae (cs':=ktx a) (i:=0) rfl rfl om om (Ls a r) (Lq a r)) ?_;refine A2 ⟨?_⟩;intros;exact fG () _ (bO (RV.cellA rfl mmA rfl rfl) Lr) mmA (LeL.refl _)
theorem Aq (s:SV) (hco:CO s [s]) (p:Nat) (a:Tq) (r:List Tq) (hr:r.length≤1000000):PuH Tryz.prog 222 [kh p] [(p,kpT,kpC (a::r) s)] (fun v H=>v=ag (ktx a)∧H=[(p,kpT,kpC r s)]) noX:=by
 have hl:(a::r).length=r.length+1:=rfl;refine PuH.intro Tryz.func222 rfl kr fun C hC=>?_
 refine A2 ⟨?_⟩;intros;refine Wo (ae (cs':=ktx a) (i:=0) rfl rfl om om (Ls a r) (Lq a r)) ?_;refine A2 ⟨?_⟩;intros;refine Wo (l8 (cs:=((a::r).map ktx).flatten) (sz:=4) 1 rfl rfl rfl (OD _) om) ?_;rw [QJ,show(a::r).length-1=r.length from rfl];refine A2 ⟨?_⟩;intros;exact cD _ _ (bO (RV.cellA rfl mmA rfl rfl) Lr) Sq ⟨rfl,rfl⟩
theorem mr (s:SV) (hco:CO s [s]) (a:Tq) (r:List Tq) (hr:r.length≤1000000) (w:List UInt8) (hw:a.t≠w) :
  PuM Tryz.prog 166 kpT (fun p=>[kh p,str w]) (kpC (a::r) s) (fun _:Unit=>kpC (a::r) s) (fun _=>lit (.bool false)):=by
 have c:=pu s hco a r hr;refine PuM.intro Tryz.func166 rfl kr fun C b=>?_
 refine A2 ⟨?_⟩;intros;refine Wo (dS c rfl mmA) ?_;refine A2 ⟨?_⟩;intros;exact fG () _ (bO (RV.tmp rfl) Lr) mmA (LeL.refl _)
theorem Lv (s:SV) (hco:CO s [s]) (a:Tq) (r:List Tq) (hr:r.length≤1000000) (w:List UInt8) (hw:a.t=w) (hk:a.k=3) :
  PuM Tryz.prog 166 kpT (fun p=>[kh p,str w]) (kpC (a::r) s) (fun _:Unit=>kpC (a::r) s) (fun _=>lit (.bool true)):=by
 have c:=pu s hco a r hr;refine PuM.intro Tryz.func166 rfl kr fun C b=>?_
 refine A2 ⟨?_⟩;intros;refine Wo (dS c rfl mmA) ?_;refine A2 ⟨?_⟩;intros;exact fG () _ (bO (RV.tmp rfl) Lr) mmA (LeL.refl _)
theorem ym (s:SV) (hco:CO s [s]) (a:Tq) (r:List Tq) (hr:r.length≤1000000) (w:List UInt8) (hw:a.t≠w) :
  PuM Tryz.prog 261 kpT (fun p=>[kh p,str w]) (kpC (a::r) s) (fun _:Unit=>kpC (a::r) s) (fun _=>lit (.bool false)):=by
 have c:=mr s hco a r hr w hw;refine PuM.intro Tryz.func261 rfl kr fun C b=>?_
 refine A2 ⟨?_⟩;intros;refine Wo (dS c rfl mmA) ?_;refine A2 ⟨?_⟩;intros;exact fG () _ (bO (RV.tmp rfl) Lr) mmA (LeL.refl _)
theorem Dx (s:SV) (hco:CO s [s]) (a:Tq) (r:List Tq) (hr:r.length≤1000000) (hk:a.k=1) (hv:xQ a.t=false):PuM Tryz.prog 285 kpT (fun p=>[kh p]) (kpC (a::r) s) (fun _:Unit=>kpC (a::r) s) (fun _=>lit (.bool true)):=by
 have c:=pu s hco a r hr;have c2:=we a.t;rw [hv]at c2;refine PuM.intro Tryz.func285 rfl kr fun C b=>?_
 refine A2 ⟨?_⟩;intros;refine Wo (dS c rfl mmA) ?_;refine A2 ⟨?_⟩;intros;refine WgE ?_;refine Wo (dS c rfl mmA) ?_;refine D1 c2 ⟨?_⟩;intros;exact fG () _ (bO (RV.tmp rfl) Lr) mmA (LeL.refl _)
theorem IH (s:SV) (hco:CO s [s]) (p:Nat) (a:Tq) (r:List Tq) (hr:r.length≤1000000) (hk:a.k=1) (hv:xQ a.t=false):PuH Tryz.prog 263 [kh p] [(p,kpT,kpC (a::r) s)] (fun v H=>v=str a.t∧H=[(p,kpT,kpC r s)]) noX:=by
 have c:=Dx s hco a r hr hk hv;refine PuH.intro Tryz.func263 rfl kr fun C hC=>?_
 refine A2 ⟨?_⟩;intros;refine Wo (dS c rfl mmA) ?_;refine A2 ⟨?_⟩;intros;refine WfT (Aq s hco p a r hr) ?_;rintro _ _ ⟨rfl,rfl⟩;simp only [aa,a8];refine A2 ⟨?_⟩;intros;exact cD _ _ (bO (RV.tmp rfl) Lr) Sr ⟨rfl,rfl⟩
abbrev kzz:RQ:=⟨false,[],[]⟩
theorem Fa (l:List Nd) (n:Nd):((l++[n]).map ndx).flatten=(l.map ndx).flatten++ndx n:=by
 rw [aB,cS];simp only [aG,fw,bP,iX,bw]
def Nd.atK (n:Nd) (a:Tq):Nd:={n with ln:=1,cl:=a.c}
theorem Dy (p:Nat) (ts:List Tq) (ns:List Nd) (s:SV) (Hs:LH) (hown:Own keT 19 ns.length (ns.map ndx).flatten s Hs) (hns:ns.length≤1000000) (n:Nd) (a:Tq) :
  PuH Tryz.prog 223 [kh p,ag (ndx n),ag (ktx a)] ((p,kpT,kpC ts s)::Hs)
   (fun v H=>v=lit (.int .i64 ns.length)∧∃s' Hs',Own keT 19 (ns++[n.atK a]).length ((ns++[n.atK a]).map ndx).flatten s' Hs'∧H=(p,kpT,kpC ts s')::Hs') noX:=by
 have hco:=hown.co;refine PuH.intro Tryz.func223 rfl kr fun C hC=>?_
 repeat(first|(refine AS ⟨?_⟩;intros)|(refine O1 ⟨?_⟩;intros))
 rename_i b4 b5;refine WP.perm (List.Perm.swap _ _ _) ?_;refine WdM [5,7] ((b5,ktT,ktx a)::(p,kpT,kpC ts s)::Hs) (fun k=>[(b4,keT,ndx (if k=0 then n else if k=1 then {n with ln:=1}else n.atK a))]) ?_;refine MkD 5 ?_;refine A2 ⟨?_⟩;intros;refine zx ?_;refine MkR (sv:=top) (TS.store (sv:=lit (.int .i64 1)) (ds:=[lit (.int .i64 1)]) rfl rfl rfl rfl (bz.here _) rfl rfl) ?_;refine MkD 1 ?_;refine A2 ⟨?_⟩;intros;refine zx ?_;refine MkR (sv:=top) (TS.store (sv:=lit (.int .i64 a.c)) (ds:=[lit (.int .i64 a.c)]) rfl rfl rfl rfl (bz.here _) rfl rfl) ?_;refine MkN ?_;simp only [aa,a8];rw [show(if [5,7].length=0 then n else if [5,7].length=1 then {n with ln:=1}else n.atK a)=n.atK a from rfl];generalize n.atK a=na at *;repeat(first|(refine AS ⟨?_⟩;intros)|(refine O1 ⟨?_⟩;intros))
 refine WdL 7 1 ?_;refine A2 ⟨?_⟩;intros;refine dL1 (fun b19=>?_);refine SK hown om (by(repeat(first|exact LOk.nil|refine Lsk ?_|refine Lcv ?_))) (fun s' H1 hown'=>?_) (Tk.skip _ (Tk.skip _ (Tk.skip _ (Tk.skip _ (Tk.same _))))) Ms;refine Gn (by(repeat(first|exact LOk.nil|refine Lsk ?_|refine Lcv ?_))) ?_
 have hown'':Own keT 19 (ns++[na]).length ((ns++[na]).map ndx).flatten s' H1:=by
  rw [Fa,ac,bh];exact hown'
 have hco':=hown''.co;have hlen:(ns++[na]).length=ns.length+1:=by simp
 simp only [aa,a8];refine A2 ⟨?_⟩;intros;refine Ss ?_;refine Ws (sv:=s') ?_;refine A2 ⟨?_⟩;intros;refine Wo (be hown'' rfl) ?_;refine A2 ⟨?_⟩;intros;exact cD _ _ (bO (RV.tmp (s:=lit (.int .i64 (((ns++[na]).length:Nat)-1))) rfl) Lr) Sq ⟨by rw [ac,bh,show((ns.length+1:Nat):Int)-1=(ns.length:Int) by omega],s',H1,hown'',rfl⟩
section
variable {P:Program}{C:Ctx}{n:Nat}{F:Fr}{H:LH}{ops:Array Oper}{K:Fr→LH→Prop}{rest:List Oper}{ty:TypeId}{pos:String}{aft:Array Edge}
theorem WfK {f:FuncId}{d:Nat}{l:List Operand}{tys:Array TypeId}{svs:List SV}{Hin Rs Hout H2:LH}{res:SV}(hc:PuH P f svs Hin (fun v H'=>v=res∧H'=Hout) noX) (hs:Tk H Hin Rs) (hp:(Rs++Hout).Perm H2) (k:WPL P C n ops rest K (upd F d res) H2)
  (ha:l.map (ev F)=svs:=by exact rfl) (hd:Nat.blt d n=true:=by exact rfl):WPL P C n ops (⟨some d, .call ⟨.value (.func f),l.toArray,tys⟩,ty,pos,aft,none⟩::rest) K F H :=
 WfT hc (fun _ _ ⟨e1,e2⟩=>by subst e1;subst e2;exact WPL.perm hp k) ha hs hd
end
def kn0:Nd:=⟨1,[97],kzz,kzz,kzz,kzz,0,0,0,0,0⟩
def kb0:Nd:=⟨6,[],kzz,kzz,kzz,kzz,3,0,1,0,0⟩
def KPs (p:Nat) (ts:List Tq) (ns:List Nd) (H:LH):Prop:=∃s Hs,Own keT 19 ns.length (ns.map ndx).flatten s Hs∧H=(p,kpT,kpC ts s)::Hs
def KLv (fn:FuncId) (p:Nat) (a:Tq) (r:List Tq) (ns:List Nd):Prop:=∀H,KPs p (a::r) ns H→PuH Tryz.prog fn [kh p] H (fun v H'=>v=lit (.int .i64 ns.length)∧KPs p r (ns++[kn0.atK a]) H') noX
theorem Fb (p c:Nat) (r:List Tq) (hr:r.length≤1000000) (ns:List Nd) (hn:ns.length≤1000000):KLv 224 p ⟨1,[97],c⟩ r ns:=by
 rintro _ ⟨s,Hs,hown,rfl⟩;have hco:=hown.co;have c0:=pu s hco ⟨1,[97],c⟩ r hr;have h1:([97]:List UInt8)≠[126]:=by decide
 have h2:([97]:List UInt8)≠[40]:=by decide
 have h3:([97]:List UInt8)≠[97,108,108]:=by decide
 have h4:([97]:List UInt8)≠[110,111,110,101]:=by decide
 have h5:([97]:List UInt8)≠[104,97,108,102]:=by decide
 have hv:xQ [97]=false:=by decide +kernel
 have c1:=mr s hco ⟨1,[97],c⟩ r hr [126] h1;have c2:=mr s hco ⟨1,[97],c⟩ r hr [40] h2;have c3:=ym s hco ⟨1,[97],c⟩ r hr [97,108,108] h3;have c4:=ym s hco ⟨1,[97],c⟩ r hr [110,111,110,101] h4;have c5:=ym s hco ⟨1,[97],c⟩ r hr [104,97,108,102] h5;have c6:=IH s hco p ⟨1,[97],c⟩ r hr rfl hv;have c7:=Dy p r ns s Hs hown hn kn0 ⟨1,[97],c⟩;refine PuH.intro Tryz.func224 rfl kr fun C hC=>?_
 refine A2 ⟨?_⟩;intros;refine Wo (dS c0 rfl mmA) ?_;refine A2 ⟨?_⟩;intros;refine Wo (dS c1 rfl mmA) ?_;refine A2 ⟨?_⟩;intros;refine Wo (dS c2 rfl mmA) ?_;refine A2 ⟨?_⟩;intros;refine Wo (dS c3 rfl mmA) ?_;refine A2 ⟨?_⟩;intros;refine Wo (dS c4 rfl mmA) ?_;refine A2 ⟨?_⟩;intros;refine Wo (dS c5 rfl mmA) ?_;repeat(first|(refine AS ⟨?_⟩;intros)|(refine O1 ⟨?_⟩;intros))
 refine WdA ?_;repeat' (first|(refine A1 ⟨?_⟩;intros)|exact WPI.nil|refine And.intro ?_ ?_|refine WfK c6 (Tk.skip _ (Tk.cons (aq.here _) (Tk.nil _))) (aC.trans (List.Perm.swap _ _ _)) ?_)
 all_goals
  refine WPL.low 60 rfl (Le.ag (b:=ndx kn0) (by repeat(first|exact trivial|refine⟨?_,?_⟩|exact Le.refl _|exact gC|exact Le.int om))) ?_;refine WfT c7 ?_ (hs:=Tk.skip _ (Tk.same _));rintro _ _ ⟨rfl,s4,H4,hown4,rfl⟩;simp only [aa,a8];repeat' (first|(refine A1 ⟨?_⟩;intros)|exact WPI.nil|refine And.intro ?_ ?_)
  exact cD _ _ (bO (RV.tmp (s:=lit (.int .i64 ns.length)) rfl) Lr) (fZ _ _) ⟨rfl,s4,H4,hown4,rfl⟩
theorem IG (p b:Nat) (a:Tq) (r:List Tq) (s:SV) (hco:CO s [s]) (Hs:LH) (hr:r.length≤1000000) (ha:a.t≠[42]) :
  PuH Tryz.prog 225 [kh b] ((b,kbT,[kh p])::(p,kpT,kpC (a::r) s)::Hs) (fun v H=>v=lit (.int .i64 0)∧H=(b,kbT,[kh p])::(p,kpT,kpC (a::r) s)::Hs) noX:=by
 have c1:=mr s hco a r hr [42] ha;refine PuH.intro Tryz.func225 rfl kr fun C hC=>?_
 refine A2 ⟨?_⟩;intros;refine Wo (dS c1 rfl mmA) ?_;refine A2 ⟨?_⟩;intros;exact cD _ _ (bO (RV.tmp rfl) Lr) Sr ⟨rfl,rfl⟩
theorem Dv (p b:Nat) (s:SV) (hco:CO s [s]) (Hs:LH) (a:Tq) (r:List Tq) (z:Int) (h:a=kqM∧r=[kqB,kqE]∧z=3∨a=kqE∧r=[]∧z=0) :
  PuH Tryz.prog 165 [kh b] ((b,kbT,[kh p])::(p,kpT,kpC (a::r) s)::Hs) (fun v H=>v=lit (.int .i64 z)∧H=(b,kbT,[kh p])::(p,kpT,kpC (a::r) s)::Hs) noX:=by
 rcases h with⟨rfl,rfl,rfl⟩|⟨rfl,rfl,rfl⟩
 ·have c1:=mr s hco kqM [kqB,kqE] (by decide) [43] (by decide);have c2:=Lv s hco kqM [kqB,kqE] (by decide) [45] rfl rfl;refine PuH.intro Tryz.func165 rfl kr fun C hC=>?_
  refine A2 ⟨?_⟩;intros;refine Wo (dS c1 rfl mmA) ?_;refine A2 ⟨?_⟩;intros;refine Wo (dS c2 rfl mmA) ?_;refine A2 ⟨?_⟩;intros;exact cD _ _ (bO (RV.tmp rfl) Lr) Sr ⟨rfl,rfl⟩
 ·have c1:=mr s hco kqE [] (by decide) [43] (by decide);have c2:=mr s hco kqE [] (by decide) [45] (by decide);have c3:=mr s hco kqE [] (by decide) [94] (by decide);refine PuH.intro Tryz.func165 rfl kr fun C hC=>?_
  refine A2 ⟨?_⟩;intros;refine Wo (dS c1 rfl mmA) ?_;refine A2 ⟨?_⟩;intros;refine Wo (dS c2 rfl mmA) ?_;refine A2 ⟨?_⟩;intros;refine Wo (dS c3 rfl mmA) ?_;refine A2 ⟨?_⟩;intros;exact cD _ _ (bO (RV.tmp rfl) Lr) Sr ⟨rfl,rfl⟩
theorem Dw (p c:Nat) (b:Tq) (r:List Tq) (hr:r.length≤100000) (hb:b.t≠[42]) (ns:List Nd) (hn:ns.length≤1000000):KLv 164 p ⟨1,[97],c⟩ (b::r) ns:=by
 intro H hH;have hlr:(b::r).length=r.length+1:=rfl;have c0:=Fb p c (b::r) om ns hn H hH
 have cb:∀q,PuH Tryz.prog 163 [kh p,fnv 224 [kh p] [],fnv 225 [] [kh q]] ((q,kbT,[kh p])::H) (fun v H'=>v=lit (.int .i64 ns.length)∧∃H2,H'=(q,kbT,[kh p])::H2∧KPs p (b::r) (ns++[kn0.atK ⟨1,[97],c⟩]) H2) noX:=by
  intro q;generalize kn0.atK ⟨1,[97],c⟩=na at *;refine PuH.intro Tryz.func163 rfl kr fun C hC=>?_
  refine A2 ⟨?_⟩;intros;refine WvT c0 ?_ (hs:=Tk.skip _ (Tk.same _));rintro _ _ ⟨rfl,s1,H1,o1,rfl⟩;simp only [aa,a8];have hco:=o1.co;refine A2 ⟨?_⟩;intros;refine WvT (IG p q b r s1 hco H1 om hb) ?_;rintro _ _ ⟨rfl,rfl⟩;simp only [a8];refine A2 ⟨?_⟩;intros;refine WP.unroll 1 (WPR.succ ?_);refine A2 ⟨?_⟩;intros;exact cD _ _ (bO (RV.tmp rfl) Lr) Sr ⟨rfl,_,rfl,s1,H1,o1,rfl⟩
 clear c0;generalize kn0.atK ⟨1,[97],c⟩=na at *;refine PuH.intro Tryz.func164 rfl kr fun C hC=>?_
 refine A2 ⟨?_⟩;intros;refine WfT (cb _) ?_;rintro _ _ ⟨rfl,H2,rfl,hps⟩;simp only [aa,a8,bw];refine A2 ⟨?_⟩;intros;exact cD _ _ (bO (RV.tmp rfl) Lr) (fZ _ _) ⟨rfl,hps⟩
abbrev kNs:List Nd:=[kn0.atK kqA,kn0.atK kqB,kb0.atK kqM]
theorem OE (p:Nat):PuH Tryz.prog 118 [kh p] [(p,kpT,kpC kTs (lit (.slice none 0 0)))] (fun v H'=>v=lit (.int .i64 2)∧KPs p [kqE] kNs H') noX:=by
 have c0:=Dw p 1 kqM [kqB,kqE] (by decide) (by decide) [] (by decide) _ ⟨_,_,Own.nil keT 19,rfl⟩;have c1:=fun H h=>Dw p 5 kqE [] (by decide) (by decide) [kn0.atK kqA] (by decide) H h
 have cb:∀q,PuH Tryz.prog 163 [kh p,fnv 164 [kh p] [],fnv 165 [] [kh q]] [(q,kbT,[kh p]),(p,kpT,kpC kTs (lit (.slice none 0 0)))] (fun v H'=>v=lit (.int .i64 2)∧∃H2,H'=(q,kbT,[kh p])::H2∧KPs p [kqE] kNs H2) noX:=by
  intro q;refine PuH.intro Tryz.func163 rfl kr fun C hC=>?_
  refine A2 ⟨?_⟩;intros;refine WvT c0 ?_ (hs:=Tk.skip _ (Tk.same _));rintro _ _ ⟨rfl,s1,H1,o1,rfl⟩;simp only [aa,a8];have hco:=o1.co;refine A2 ⟨?_⟩;intros;refine WvT (Dv p q s1 hco H1 kqM [kqB,kqE] 3 (by simp)) ?_;rintro _ _ ⟨rfl,rfl⟩;simp only [a8];refine A2 ⟨?_⟩;intros;refine WP.unroll 2 (WPR.succ ?_);refine A2 ⟨?_⟩;intros;refine WfT (Aq s1 hco p kqM [kqB,kqE] (by decide)) ?_ (hs:=Tk.skip _ (Tk.cons (aq.here _) (Tk.nil _)));rintro _ _ ⟨rfl,rfl⟩;refine WPL.perm aC ?_;refine WPL.perm (List.Perm.swap _ _ _) ?_;refine A2 ⟨?_⟩;intros;refine WvT (c1 _ ⟨s1,H1,o1,rfl⟩) ?_ (hs:=Tk.skip _ (Tk.skip _ (Tk.same _)));rintro _ _ ⟨rfl,s3,H3,o3,rfl⟩;simp only [aa,a8];have hco3:=o3.co;have c2:=Dy p [kqE] _ s3 H3 o3 (by decide) kb0 kqM;refine A2 ⟨?_⟩;intros;refine WPL.low 27 rfl (Le.ag (b:=ndx kb0) (by repeat(first|exact trivial|refine⟨?_,?_⟩|exact Le.refl _|exact gC|exact Le.int (by decide)))) ?_;refine WfT c2 ?_ (hs:=Tk.skip _ (Tk.skip _ (Tk.same _)));rintro _ _ ⟨rfl,s4,H4,o4,rfl⟩;simp only [aa,a8];have hco4:=o4.co;refine A2 ⟨?_⟩;intros;refine WvT (Dv p q s4 hco4 H4 kqE [] 0 (by simp)) ?_ (hs:=Tk.skip _ (Tk.same _));rintro _ _ ⟨rfl,rfl⟩;simp only [aa,a8];refine A2 ⟨?_⟩;intros;exact cD _ _ (bO (RV.tmp rfl) Lr) (fZ _ _) ⟨rfl,_,rfl,s4,H4,o4,rfl⟩
 clear c0 c1;refine PuH.intro Tryz.func118 rfl kr fun C hC=>?_
 refine A2 ⟨?_⟩;intros;refine WfT (cb _) ?_;rintro _ _ ⟨rfl,H2,rfl,hps⟩;simp only [aa,a8,bw];refine A2 ⟨?_⟩;intros;exact cD _ _ (bO (RV.tmp rfl) Lr) (fZ _ _) ⟨rfl,hps⟩
theorem yn (p:Nat) :
  PuH Tryz.prog 73 [kh p] [(p,kpT,kpC kTs (lit (.slice none 0 0)))] (fun v H'=>∃Hs,Own keT 19 kNs.length (kNs.map ndx).flatten v Hs∧H'=(p,kpT,kpC [kqE] v)::Hs) noX:=by
 have c:=OE p;refine PuH.intro Tryz.func73 rfl kr fun C hC=>?_
 refine A2 ⟨?_⟩;intros;refine WfT c ?_;rintro _ _ ⟨rfl,s,Hs,hown,rfl⟩;have hco:=hown.co;simp only [aa,a8,bw];refine A2 ⟨?_⟩;intros;exact cD _ _ (bO (RV.tmp rfl) Lr) Sr ⟨Hs,hown,rfl⟩
section
variable {P:Program}{C:Ctx}{n:Nat}{F:Fr}{H:LH}{Post:Exit→Act→World→Prop}
def onR (C:Ctx) (n:Nat) (Post:Exit→Act→World→Prop) (K:Fr→LH→Prop):Exit→Fr→LH→Prop
 | .normal,F,H=>K F H
 | .ret,F,H=>∀a w,St C n F H a w→Post .ret a w
 |_,_,_=>False
theorem onR.i {K:Fr→LH→Prop}(h:K F H):onR C n Post K .normal F H:=h
theorem WPT.seqR {x y:Code}(hpan:∀pv H,¬C.pan pv H) (h:WP P C n x (onR C n Post fun F H=>WPT P C n y Post F H) F H):WPT P C n (.seq x y) Post F H:=by
 intro a w hs;unfold WP at h;refine wp_seq (wp_mono (h a w hs) ?_);rintro e a' w' (⟨F',H',hs',hq⟩|⟨ch,rfl,_,m,v,pv,H',_,_,_,_,_,_,hx⟩)
 ·cases e with
  |normal=>exact hq a' w' hs'
  |ret=>exact hq a' w' hs'
  |_=>exact hq.elim
 ·exact absurd hx (hpan _ _)
theorem WTL.wpl {ops:Array Oper}{l:List Oper}{y:Code}(hpan:∀pv H,¬C.pan pv H) (h:WPL P C n ops l (fun F H=>WPT P C n y Post F H) F H):WTL P C n ops l (Exit.then (y.wp P Post) Post) F H:=by
 unfold WPL at h;intro a w hs;refine h a w hs _ ⟨fun a' w' F' H' hs' hk=>hk a' w' hs',fun ch a' w' hp=>?_⟩;obtain⟨_,_,_,_,_,_,_,_,_,_,_,hx⟩:=hp;exact absurd hx (hpan _ _)
end
abbrev QK:FuncId:=72
abbrev QL:FuncId:=115
theorem Dz (p q:Addr) (w:World):CallsD Tryz.prog QL #[.pointer (some p), .pointer (some q)] .returning w fun e u' w'=>(∃v,e = .returned v)∧u' = .returning∧w'=w:=by
 refine callsD_of_wpS Tryz.func115 rfl fun c₀ cs hu=>?_
 apply wpS_seq;apply wpS_region;simp [wpOpsS,go_sem,recoverD,hu,Exit.thenS];apply wpS_seq;apply wpS_region;simp [wpOpsS,go_sem,Exit.thenS];refine wpS_cond (t:=false) (by simp [Act.eval,Array.replicate]) ?_;simp only [bJ,aQ];refine wpS_of_wp (wp_skip ?_);cases c₀;simp_all [bodyPostS,results,Exit.thenS]
def QM:SV→LH→Prop:=fun r H'=>∃s,r=Ab.tup [s,lit .nilIface]∧Own keT 19 kNs.length (kNs.map ndx).flatten s H'
theorem Lu:PuH Tryz.prog QK [str kTx,lit (.func (.func 73) #[] #[])] [] QM noX:=by
 have c0:=F9;refine PuH.introD Tryz.func72 rfl kr fun C hC0 hC1=>?_
 refine WPT.seqR hC0 ?_;refine A2 ⟨?_⟩;intros;rename_i b4 b5;refine onR.i ?_;refine WPT.seqR hC0 ?_;refine D1 c0 ⟨?_⟩;intros;refine onR.i ?_;refine WPT.seqR hC0 ?_;refine A2 ⟨?_⟩;intros;refine onR.i ?_;refine WPT.defer (cv:=[.pointer (some ⟨b4,0,none⟩), .pointer (some ⟨b5,0,none⟩)]) (X1:=noX) rfl rfl fun C1 hC=>?_
 rw [hC1]at hC;have hC2:∀pv H,¬C1.pan pv H:=fun pv H h=>by rw [hC]at h;exact h
 refine WPT.seq hC2 ?_;refine A2 ⟨?_⟩;intros;rename_i p;refine onN.i ?_;refine WPT.reg ?_;refine WTL.val (op := .move _) Ov0 ?_ rfl;refine WTL.val (op := .move _) Ov0 ?_ rfl;refine WTL.call (s:=lit (.func (.func 73) #[] #[])) (l:=[.tmp 22]) rfl (yn p) (Tk.perm (Tk.cons (aq.here _) (Tk.nil _))) rfl rfl ?_ (fun _ _ _ _ _ _ h=>h.elim);rintro v H' ⟨Hs,hown,rfl⟩;have hco:=hown.co;have c1:=pu v hco kqE [] (by decide);refine WTL.wpl hC2 ?_;refine WPL.perm (H':=(p,kpT,kpC [kqE] v)::(b5,35,[lit Value.nilIface])::(b4,32,[lit (.slice none 0 0)])::Hs) (List.Perm.cons _ aC) ?_;refine Ss ?_;refine Ws (sv:=v) ?_;refine A2 ⟨?_⟩;intros;refine WPT.fin (Q:=DU Tryz.prog Tryz.f72.results _) ?_ (RM ⟨_,hC⟩ kr hC2 fun w=>Dz _ _ w);refine A2 ⟨?_⟩;intros;refine Wo (dS c1 rfl mmA) ?_;refine A2 ⟨?_⟩;intros;refine Ss ?_;refine Ws (sv:=v) ?_;refine A2 ⟨?_⟩;intros;exact cD _ Hs (eJ (RV.cell1 (b:=b4) rfl (Mc (Mc Ms)) rfl) (RV.cell1 (b:=b5) rfl (Mc Ms) rfl) Lr) Sq ⟨v,rfl,hown⟩
theorem IJ:PuH Tryz.prog 43 [str kTx] [] QM noX:=by
 have c:=Lu;refine PuH.intro Tryz.func43 rfl kr fun C hC=>?_
 refine A2 ⟨?_⟩;intros;refine WfT c ?_;rintro r H' hr;obtain⟨s,rfl,hown⟩:=id hr;have hco:=hown.co;refine A2 ⟨?_⟩;intros;exact cD _ H' (eJ (RV.tmp rfl) (RV.tmp rfl) Lr) Sr hr
theorem II:PuH Tryz.prog 18 [str kTx] [] QM noX:=by
 have c:=IJ;refine PuH.intro Tryz.func18 rfl kr fun C hC=>?_
 refine A2 ⟨?_⟩;intros;refine WfT c ?_;rintro r H' hr;obtain⟨s,rfl,hown⟩:=id hr;have hco:=hown.co;refine A2 ⟨?_⟩;intros;exact cD _ H' (eJ (RV.tmp rfl) (RV.tmp rfl) Lr) Sr hr
def zw (c:UInt8):Nd:=⟨1,[c],⟨false,[],[]⟩,⟨false,[],[]⟩,⟨false,[],[]⟩,⟨false,[],[]⟩,0,0,0,0,0⟩
def D8 (op x y:Int):Nd:=⟨6,[],⟨false,[],[]⟩,⟨false,[],[]⟩,⟨false,[],[]⟩,⟨false,[],[]⟩,op,x,y,0,0⟩
theorem w7 {L:Nat}:(⟨false,[],[]⟩:RQ).ok L:=⟨D.nil,D.nil,ak _,ak _⟩
theorem Le.slL {a b:List SV}{k:Nat}(h:LeL a b):Le (sl a k) (sl b k):=fun m v hv=>by
 obtain⟨ad,cap,rfl,h1,h2,h3⟩:=fk hv;refine js h1 h2 ?_;rcases h3 with rfl|⟨b',off,rfl,arr,T,fz,h4,h5⟩
 ·left;cases b with
  |nil=>rfl
  |cons _ _=>exact h.elim
 ·right
  have hlen:a.length=b.length:=by
   clear h4 h5 hv;induction a generalizing b with
   |nil=>cases b with
    |nil=>rfl
    |cons _ _=>exact h.elim
   |cons x a ih=>cases b with
    |nil=>exact h.elim
    |cons y b=>simp [ih h.2]
  exact⟨b',off,rfl,arr,T,fz,h4,by rw [←hlen];exact bn.le h h5⟩
abbrev yp:List Nd:=kNs
theorem OG:∀n∈yp,n.ok 4:=by
 intro n hn;simp only [yp,kNs,an,fE,eN]at hn;rcases hn with rfl|rfl|rfl <;> exact⟨w7,w7,w7,w7,by decide⟩
theorem RF:otx yp≠none:=by
 intro h;have:(otx yp).isSome=true:=by decide +kernel
 rw [h]at this;cases this
theorem Sv:kX [[97]] [.leaf true] false 10 yp [] = .ok [.leaf true, .leaf true, .leaf false]:=by rfl
theorem OZ (L:List Li) (hL:∀l∈L,l.ok) (hl:∀l∈L,l.le 500) (hn:L.length≤100) (i:Bool):EvE L 500 [[97]] [.leaf i] :=
 ⟨hL,hl,om,om,hn,(fun t ht=>by rw [au.1 ht];trivial),(fun t ht=>by rw [au.1 ht];exact ak _),rfl,by decide⟩
theorem QO [iO 3] [iO 0] [iO 1] [iO 2]:Pu Tryz.prog 11 [sl (yp.map ndx).flatten yp.length,sl ([[97]].map str) 1,sl (tqx (.leaf true)) 1,lit (.int .i64 10)] (Ab.tup [tq (.leaf false),lit .nilIface]):=by
 have h:Rf [] 500 [[97]] [.leaf true] yp 4:=⟨OZ [] (by simp) (by simp) (by simp) true,(fun t ht=>by rw [au.1 ht];decide),OG,om,by decide,fun n hn h4=>by
  simp only [yp,kNs,an,fE,eN]at hn;rcases hn with rfl|rfl|rfl <;> exact absurd h4 (by decide)⟩
 have c:=K7 h 10 false;rw [if_neg RF,Sv,tC]at c;exact BR (by decide) (t := .leaf false) rfl trivial (by decide) c
theorem OF [iO 3] [iO 0] [iO 5] [iO 4] [iO 1] [iO 2]:Pu Tryz.prog 8 [] (lit (.bool true)):=by
 have c:=II;have ce:=QO;refine Pi Tryz.func8 fun C=>?_
 refine A2 ⟨?_⟩;intros;refine WfT c ?_;rintro r H' ⟨s,rfl,hown⟩;obtain⟨b1,c1,hnc,hcm,rfl,rfl⟩:=hown.blk (by decide);refine A2 ⟨?_⟩;intros;simp only [a8];refine HH 11 rfl (aq.there _ (aq.here _)) om om ?_;refine HH 13 rfl (aq.here _) om om ?_;refine WPL.low 13 rfl (s':=sl (tqx (.leaf true)) 1) (Le.slL ⟨Le.refl _,iC,trivial⟩) ?_;refine WPL.pub (d:=10) (s':=sl (yp.map ndx).flatten yp.length) (aq.here _) rfl (fun m arr h1 h2=>nX h1 h2 hnc hcm) ?_;exact Y1 ce
def hLs (ns:List Nd):List Li:=(ns.filter fun n=>decide (n.k=4) && !zz n).map wy
theorem OR {ns:List Nd}{n:Nd}(h:n∈ns) (h4:n.k=4) (hd:zz n=false):wy n∈hLs ns :=
 aj.2 ⟨n,dp.2 ⟨h,by rw [a9 h4,hd];rfl⟩,rfl⟩
theorem OS (ns:List Nd):(hLs ns).length≤ns.length:=by
 unfold hLs;rw [cq];exact lL ..
theorem QS {ns:List Nd}:∀l∈hLs ns,l.ok:=fun l h=>by
 obtain⟨n,hn,rfl⟩:=aj.1 h;obtain⟨_,h2⟩:=dp.1 hn;simp only [bX,gF]at h2;have hd:=lI h2.2;refine wJ ?_;by_cases e:n.c.v-n.a.v=0
 ·left;intro e2;exact hd ⟨e,by grind⟩
 ·exact .inr e
theorem OP {x y u v:Rat}{L:Nat}(hx:ht x≤L) (hy:ht y≤L) (hu:ht u≤L) (hv:ht v≤L):ht (-(v-y))≤6*L+5∧ht (u-x)≤6*L+5∧ht (-(-(v-y)*x+(u-x)*y))≤6*L+5:=by
 have h1:=gU u x;have h2:=gU v y;have h3:=gq (v-y);have h4:=bF (-(v-y)) x;have h5:=bF (u-x) y;have h6:=fh (-(v-y)*x) ((u-x)*y);have h7:=gq (-(v-y)*x+(u-x)*y);omega
theorem QT {ns:List Nd}{N:Nat}(hok:∀n∈ns,n.ok N) (hN:N≤10):∀l∈hLs ns,l.le 500:=fun l h=>by
 obtain⟨n,hn,rfl⟩:=aj.1 h;obtain⟨a,b,c,d,e⟩:=hok n (dp.1 hn).1;have v1:=uH a;have v2:=uH b;have v3:=uH c;have v4:=uH d;obtain⟨h1,h2,h3⟩:=OP (L:=11) (by omega:ht n.a.v≤11) (by omega:ht n.b.v≤11) (by omega:ht n.c.v≤11) (by omega:ht n.e.v≤11);exact(Ns h1 h2 h3).gr om
class Dis (g k:Nat):Prop where
 h:∃(a b:Addr) (T T':TypeId) (fz fz':Nat×Nat) (ca cb:Array Value) (ta tb:TypeId),
  Base.mem g=some (.cells #[.iface 435 (.pointer (some a))] T fz)∧Base.mem k=some (.cells #[.iface 435 (.pointer (some b))] T' fz')∧a≠b∧
  Base.mem a.block=some (.cells ca ta (0,0))∧Base.mem b.block=some (.cells cb tb (0,0))
theorem DL {g:Nat}{a:Addr}{T:TypeId}{fz:Nat×Nat}(h:Base.mem g=some (.cells #[.iface 435 (.pointer (some a))] T fz)):H8 g=a:=by
 unfold H8;rw [h];rfl
section
variable {F:Fr}{H:LH}{ty:TypeId}
theorem KS {g k:Nat} [hd:Dis g k]{x y:Operand}{T':TypeId}(hx:ev F x=lit (jo g)) (hy:ev F y=lit (jo k)):OpV Tryz.prog (.binOp .eql 35 x y T') ty F H (lit (.bool false)) :=
 OpV.pure fun m w o a ho _ hm _ h=>by
  have h0:=h x (by simp [Op.operands]);rw [hx,ap]at h0;have h1:=h y (by simp [Op.operands]);rw [hy,ap]at h1;obtain⟨p,q,_,_,_,_,ca,cb,ta,tb,e1,e2,hne,b1,b2⟩:=hd.h;rw [jo,DL e1]at h0;rw [jo,DL e2]at h1;obtain⟨i,hi,hc⟩:=fp.1 (show((Tryz.prog).info? 435).map (·.comparable)=some true by kernel_rfl);obtain⟨j,hj,hz⟩:=fp.1 (show((Tryz.prog).info? 459).map (·.size)=some 1 by kernel_rfl);have hr:=run_eql_iface_ptr_other (w:=w) Tryz.underlying35 Tryz.underlying435 hi hc hj om hne (hm _ _ (hm.base _ _ b1)) (hm _ _ (hm.base _ _ b2));exact⟨.bool false,by simp [execOp,ho,h0,h1,hr,Go.eqGuard],ap.2 rfl⟩
theorem NM {v:Value}{x:Operand}(hx:ev F x=lit (.iface 435 v)):OpV Tryz.prog (.typeAssert x 35 113 true) ty F H (Ab.tup [lit .nilIface,lit (.bool false)]) :=
 OpV.pure fun m w o a ho _ _ _ h=>by
  have h0:=h x (by simp [Op.operands]);rw [hx,ap]at h0;have hrun:(Instr.typeAssert (.iface 435 v) 35 113 true).run Tryz.prog w = .ok (.tuple #[.nilIface, .bool false]) w:=run_typeAssert_lacksB Tryz.underlying113 kr kr v _ w;refine⟨.tuple #[.nilIface, .bool false],by simp [execOp,ho,h0,hrun],?_⟩;unfold Ab.tup;exact⟨_,rfl,ap.2 rfl,ap.2 rfl,trivial⟩
theorem NL {v:Value}{x:Operand}(hx:ev F x=lit (.iface 435 v)):OpV Tryz.prog (.typeAssert x 35 116 true) ty F H (Ab.tup [lit .nilIface,lit (.bool false)]) :=
 OpV.pure fun m w o a ho _ _ _ h=>by
  have h0:=h x (by simp [Op.operands]);rw [hx,ap]at h0;have hrun:(Instr.typeAssert (.iface 435 v) 35 116 true).run Tryz.prog w = .ok (.tuple #[.nilIface, .bool false]) w:=run_typeAssert_lacksB Tryz.underlying116 kr kr v _ w;refine⟨.tuple #[.nilIface, .bool false],by simp [execOp,ho,h0,hrun],?_⟩;unfold Ab.tup;exact⟨_,rfl,ap.2 rfl,ap.2 rfl,trivial⟩
theorem NK {v:Value}{x:Operand}(hx:ev F x=lit (.iface 435 v)):OpV Tryz.prog (.typeAssert x 35 118 true) ty F H (Ab.tup [lit .nilIface,lit (.bool false)]) :=
 OpV.pure fun m w o a ho _ _ _ h=>by
  have h0:=h x (by simp [Op.operands]);rw [hx,ap]at h0;have hrun:(Instr.typeAssert (.iface 435 v) 35 118 true).run Tryz.prog w = .ok (.tuple #[.nilIface, .bool false]) w:=run_typeAssert_lacksB Tryz.underlying118 kr kr v _ w;refine⟨.tuple #[.nilIface, .bool false],by simp [execOp,ho,h0,hrun],?_⟩;unfold Ab.tup;exact⟨_,rfl,ap.2 rfl,ap.2 rfl,trivial⟩
end
theorem OH (g k:Nat) [Dis g k] (l c s:SV):Pu Tryz.prog 20 [erA g l c s,lit (jo k),lit (.bool true)] (lit (.bool false)):=by
 have c:=G0 g l c s;refine Pi Tryz.func20 fun C=>?_
 refine A2 ⟨?_⟩;intros;refine WP.unroll 3 ?_;refine WPR.succ ?_;refine A2 ⟨?_⟩;intros;refine WgE ?_;refine Wo (GD Tryz.underlying35 (by decide) rfl rfl) ?_;refine A2 ⟨?_⟩;intros;refine Wo (GG rfl) ?_;refine A2 ⟨?_⟩;intros;refine Wo (GF rfl) ?_;refine A2 ⟨?_⟩;intros;refine Wo (pe Rk c rfl rfl) ?_;refine A2 ⟨?_⟩;intros;refine WgE ?_;refine Wo (KS (g:=g) (k:=k) rfl rfl) ?_;refine A2 ⟨?_⟩;intros;refine Wo (NM rfl) ?_;refine A2 ⟨?_⟩;intros;refine Wo (NL rfl) ?_;refine A2 ⟨?_⟩;intros;refine Wo (NK rfl) ?_;exact Z1
theorem QP (g k:Nat) [Dis g k] (l c s:SV):Pu Tryz.prog 9 [erA g l c s,lit (jo k)] (lit (.bool false)):=by
 have c:=OH g k l c s;refine Pi Tryz.func9 fun C=>?_
 refine A2 ⟨?_⟩;intros;refine Wo (GE (s:=pt _) kr rfl) ?_;refine A2 ⟨?_⟩;intros;refine Wo (vJ rfl) ?_;refine Wo (vL rfl) ?_;exact Y1 c
theorem tg (i:Nat) (A B:List Nd):∀(i:Nat) (st:List (Ex×Nat)),stk (A++B) i st=match stk A i st with
  |some st'=>stk B (i+A.length) st'
  |none=>none:=by
 induction A with
 |nil=>intro i st;rfl
 |cons n A ih =>
  intro i st;rw [aa,nQ,nQ];cases stp i n st with
  |none=>rfl
  |some st' =>
   simp only;rw [ih,aE,show i+1+A.length=i+(A.length+1) by omega]
structure Wr (ns:List Nd) (i:Nat) (t:Ex):Prop where
 st:∀s,stk ns i s=some ((t,i+ns.length-1)::s)
 pos:1≤ns.length
 good:t.good=true
 ok:∀n∈ns,n.ok 10
 nm:∀n∈ns,n.nm.all (fun b=>decide (yW b.toNat=3))=true
 nq:∀n∈ns,n.k=1→∃k,k<4∧n.nm=[UInt8.ofNat (97+k)]
theorem B2 {n:Nd}{i:Nat}{s s':List (Ex×Nat)}(h:stp i n s=some s'):stk [n] i s=some s':=by rw [nQ,h];rfl
theorem Wr.leaf {n:Nd}{i:Nat}(h1:okN n=true) (h5:n.k≠5) (h6:n.k≠6) (hg:(Ex.leaf n).good=true) (hok:n.ok 10) (hq:n.k=1→∃k,k<4∧n.nm=[UInt8.ofNat (97+k)]) (hn:n.nm.all (fun b=>decide (yW b.toNat=3))=true:=by rfl):Wr [n] i (.leaf n) :=
 ⟨fun s=>B2 (by unfold stp;rw [if_pos h1,if_neg h5,if_neg h6];rfl),ar _,hg,fun m hm=>by rw [au.1 hm];exact hok,fun m hm=>by rw [au.1 hm];exact hn,fun m hm=>by rw [au.1 hm];exact hq⟩
theorem Wr.un {A:List Nd}{n:Nd}{i:Nat}{x:Ex}(h:Wr A i x) (h1:okN n=true) (h5:n.k=5) (hx:n.x=(i+A.length:Nat)-1) (hok:n.ok 10) (hn:n.nm.all (fun b=>decide (yW b.toNat=3))=true:=by rfl):Wr (A++[n]) i (.un n x):=by
 have hp:=h.pos;refine⟨fun s=>?_,by simp,h.good,fun m hm=>?_,fun m hm=>?_,fun m hm=>?_⟩
 ·rw [tg i,h.st];simp only;rw [B2 (s':=(.un n x,i+A.length)::s) (by unfold stp;rw [if_pos h1,if_pos h5];simp only;rw [if_pos om]),ac,bh,show i+(A.length+1)-1=i+A.length by omega]
 ·rcases az.1 hm with hm|hm
  ·exact h.ok m hm
  ·rw [au.1 hm];exact hok
 ·rcases az.1 hm with hm|hm
  ·exact h.nm m hm
  ·rw [au.1 hm];exact hn
 ·rcases az.1 hm with hm|hm
  ·exact h.nq m hm
  ·rw [au.1 hm];exact fun e=>by omega
theorem Wr.bi {A B:List Nd}{n:Nd}{i:Nat}{x y:Ex}(h:Wr A i x) (k:Wr B (i+A.length) y) (h1:okN n=true) (h6:n.k=6) (hx:n.x=(i+A.length:Nat)-1) (hy:n.y=(i+A.length+B.length:Nat)-1) (hok:n.ok 10) (hn:n.nm.all (fun b=>decide (yW b.toNat=3))=true:=by rfl):Wr (A++B++[n]) i (.bi n x y):=by
 have hp:=h.pos;have kp:=k.pos;refine⟨fun s=>?_,by simp;omega,by show(x.good&&y.good)=true;rw [h.good,k.good];rfl,fun m hm=>?_,fun m hm=>?_,fun m hm=>?_⟩
 ·rw [tg i,tg i,h.st];simp only;rw [k.st];simp only;rw [ac,B2 (s':=(.bi n x y,i+(A.length+B.length))::s) (by unfold stp;rw [if_pos h1,if_neg om,if_pos h6];simp only;rw [if_pos ⟨om,om⟩]),ac,ac,bh,show i+(A.length+B.length+1)-1=i+(A.length+B.length) by omega]
 ·rcases az.1 hm with hm|hm
  ·rcases az.1 hm with hm|hm
   ·exact h.ok m hm
   ·exact k.ok m hm
  ·rw [au.1 hm];exact hok
 ·rcases az.1 hm with hm|hm
  ·rcases az.1 hm with hm|hm
   ·exact h.nm m hm
   ·exact k.nm m hm
  ·rw [au.1 hm];exact hn
 ·rcases az.1 hm with hm|hm
  ·rcases az.1 hm with hm|hm
   ·exact h.nq m hm
   ·exact k.nq m hm
  ·rw [au.1 hm];exact fun e=>by omega
theorem Wr.otx {ns:List Nd}{t:Ex}(h:Wr ns 0 t):otx ns=some t.txt:=by
 unfold Ab.otx;rw [h.st];simp only;rw [if_pos h.good]
abbrev z0:RQ:=⟨false,[],[]⟩
def Cf (x:Int):Nd:=⟨5,[],z0,z0,z0,z0,0,x,0,0,0⟩
def aNd (k:Int):Nd:=⟨k,[],z0,z0,z0,z0,0,0,0,0,0⟩
def hNd (a b c e:Rat):Nd:=⟨4,[],RQ.of a,RQ.of b,RQ.of c,RQ.of e,0,0,0,0,0⟩
theorem MK {k:Int}{nm:List UInt8}{op x y:Int}(h:nm.length≤100):(⟨k,nm,z0,z0,z0,z0,op,x,y,0,0⟩:Nd).ok 10:=⟨w7,w7,w7,w7,h⟩
theorem Qx {op x y:Int}(h1:1≤op) (h4:op≤4):okN (D8 op x y)=true:=by
 unfold okN D8;simp [zp,zq,h1,h4]
theorem Qw {x:Int}:okN (Cf x)=true:=by
 unfold okN Cf;simp [zp,zq]
theorem RD {k:Int}(h1:2≤k) (h3:k≤3):okN (aNd k)=true:=by
 have:k=2∨k=3:=by omega
 rcases this with rfl|rfl <;> rfl
theorem QV {k:Int}(h1:2≤k) (h3:k≤3):(Ex.leaf (aNd k)).good=true:=by
 have:k=2∨k=3:=by omega
 rcases this with rfl|rfl <;> rfl
theorem RC {a b c e:Rat}:okN (hNd a b c e)=true:=by
 unfold okN hNd;simp
theorem Qy {c:UInt8}:okN (zw c)=true:=by
 unfold okN zw;simp [zp,zq]
theorem wP (x:Rat):j9 (RQ.of x)=true:=by
 unfold j9;rw [RQ.of_v];exact a9 ⟨rfl,rfl,rfl⟩
theorem QU {a b c e:Rat}:(Ex.leaf (hNd a b c e)).good=true:=by
 show(if(4:Int)=1 then _ else if(4:Int)=4 then(j9 (RQ.of a)&&j9 (RQ.of b)&&(j9 (RQ.of c)&&j9 (RQ.of e)))else true)=true
 rw [if_neg (by decide),if_pos rfl,wP,wP,wP,wP];rfl
abbrev SC:List SV:=[str [97],str [98],str [99],str [100]]
theorem C7 {k:Nat}(h:k<4):SC[k]? = some (str [UInt8.ofNat (97+k)])∧(Ex.leaf (zw (UInt8.ofNat (97+k)))).good=true∧(zw (UInt8.ofNat (97+k))).nm.all (fun b=>decide (yW b.toNat=3))=true:=by
 have:k=0∨k=1∨k=2∨k=3:=by omega
 rcases this with rfl|rfl|rfl|rfl <;> exact⟨rfl,by decide +kernel,by decide +kernel⟩
theorem IY (l:List Nd) (n:Nd):((l++[n]).map ndx).flatten=(l.map ndx).flatten++ndx n:=by
 rw [aB,cS];simp only [aG,fw,bP,iX,bw]
theorem Own.snoc {T:TypeId}{l:List Nd}{n:Nd}{s:SV}{H:LH}(h:Own T 19 (l.length+1) ((l.map ndx).flatten++ndx n) s H):Own T 19 (l++[n]).length ((l++[n]).map ndx).flatten s H:=by
 rw [IY,ac,bh];exact h
abbrev exT:TypeId:=92
abbrev tpT:TypeId:=49
def p0:{p:Rat×Rat // ht p.1≤10∧ht p.2≤10}:=⟨(0,0),by have:=kw;simp only;omega,by have:=kw;simp only;omega⟩
theorem Kt {x y z:Int}{k:Nat}(h:x≠0∨y≠0) (hx:il x≤k) (hy:il y≤k) (hz:il z≤k):(jw (x:Rat) (y:Rat) (z:Rat)).le k:=by
 obtain⟨a,b,c⟩:=xW z h;exact⟨aO (cH a) hx,aO (cH b) hy,aO (cH c) hz⟩
theorem QR {z:Int}(h:z.natAbs≤1000):il z≤1:=dU (k:=1) (by
 simpa using (show z.natAbs<4294967296 by omega))
theorem CM {a b c:Int}(h:a≠0∨b≠0) (ha:a.natAbs≤1000) (hb:b.natAbs≤1000) (hc:c.natAbs≤1000):(jw (a:Rat) (b:Rat) (c:Rat)).sm :=
 ⟨wJ (h.elim (fun h => .inl (by exact_mod_cast h)) fun h => .inr (by exact_mod_cast h)),Kt h (QR ha) (QR hb) (QR hc)⟩
theorem Dn {a b:Int}(ha:a.natAbs≤4) (hb:b.natAbs≤4):(a*b).natAbs≤16:=by
 rw [fq];exact dk ha hb
theorem OQ {x y v w:Int}{q:Rat}(hx:x.natAbs≤4) (hy:y.natAbs≤4) (hv:v.natAbs≤4) (hw:w.natAbs≤4) (h:(x:Rat)+q*v-x≠0∨(y:Rat)+q*w-y≠0):(thr x y ((x:Rat)+q*v) ((y:Rat)+q*w)).sm:=by
 have hq:q≠0:=fun e=>by
  rw [e]at h;rcases h with h|h <;> exact h (by grind)
 have hvw:v≠0∨w≠0:=by
  by_cases c:v=0
  ·by_cases d:w=0
   ·rw [c,d]at h;rcases h with h|h <;> exact absurd (by grind) h
   ·exact .inr d
  ·exact .inl c
 have b1:=Dn hw hx;have b2:=Dn hv hy;unfold thr;by_cases hp:0<q
 ·have e:=xV q ((-w:Int):Rat) (v:Rat) ((w*x-v*y:Int):Rat) hp
  rw [show -((y:Rat)+q*w-y)=q*((-w:Int):Rat) by rw [gJ];grind,show(x:Rat)+q*v-x=q*(v:Rat) by grind,
   show -(q*((-w:Int):Rat)*x+q*(v:Rat)*y)=q*((w*x-v*y:Int):Rat) by rw [gJ,Rat.intCast_sub,iS,iS];grind,e]
  exact CM om om om om
 ·have hn:0 < -q:=by grind
  have e:=xV (-q) (w:Rat) ((-v:Int):Rat) ((v*y-w*x:Int):Rat) hn
  rw [show -((y:Rat)+q*w-y) = -q*(w:Rat) by grind,show(x:Rat)+q*v-x = -q*((-v:Int):Rat) by rw [gJ];grind,
   show -(-q*(w:Rat)*x + -q*((-v:Int):Rat)*y) = -q*((v*y-w*x:Int):Rat) by rw [gJ,Rat.intCast_sub,iS,iS];grind,e]
  exact CM om om om om
end Go.Ab
