/- Texts laid one behind the other: KaP, EvK, EvH, RLnF. -/
import Derived.Test.YtpeidlcjlfkpcaaGreatDoorB39
set_option linter.all false
set_option maxHeartbeats 16000000
namespace Go.Ab
open Go.Proofs
variable [Base]
abbrev kpT:TypeId:=282
abbrev keT:TypeId:=68
abbrev kbT:TypeId:=223
abbrev kpC (ts:List Tq) (s:SV):List SV:=[kts ts,lit (.int .i64 0),s]
theorem M2 (a:Tq) (r:List Tq):((a::r).map ktx).flatten≠[]:=by
 rw [aD,bw];exact fun h=>by cases h
theorem M3 (a:Tq) (r:List Tq):(((a::r).map ktx).flatten.drop (0*4)).take 4=ktx a:=by
 rw [bQ,bD,aD,bw];rfl
theorem Ru (a:Tq) (r:List Tq):((a::r).map ktx).flatten.drop (1*4)=(r.map ktx).flatten:=by
 rw [aD,bw];rfl
theorem Pp (ts:List Tq):(ts.map ktx).flatten.length=ts.length*4:=by
 induction ts with
 |nil=>rfl
 |cons a r ih=>simp only [aD,bw,ac,aF,bq,ih];omega
theorem pE (s:SV) (hco:CO s [s]) (a:Tq) (r:List Tq) (hr:r.length≤1000000):PuM Tryz.prog 148 kpT (fun p=>[ke p]) (kpC (a::r) s) (fun _:Unit=>kpC (a::r) s) (fun _=>ag (ktx a)):=by
 have hl:(a::r).length=r.length+1:=rfl;refine PuM.intro Tryz.func148 rfl kr fun C b=>?_
 refine A2 ⟨?_⟩;intros;refine Wo (ae (cs':=ktx a) (i:=0) rfl rfl om om (M3 a r) (M2 a r)) ?_;refine A2 ⟨?_⟩;intros;exact fK () _ (bJ (RV.cellA rfl mmA rfl rfl) Lr) mmA (LeL.refl _)
theorem AF (s:SV) (hco:CO s [s]) (p:Nat) (a:Tq) (r:List Tq) (hr:r.length≤1000000):PuH Tryz.prog 240 [ke p] [(p,kpT,kpC (a::r) s)] (fun v H=>v=ag (ktx a)∧H=[(p,kpT,kpC r s)]) noX:=by
 have hl:(a::r).length=r.length+1:=rfl;refine PuH.intro Tryz.func240 rfl kr fun C hC=>?_
 refine A2 ⟨?_⟩;intros;refine Wo (ae (cs':=ktx a) (i:=0) rfl rfl om om (M3 a r) (M2 a r)) ?_;refine A2 ⟨?_⟩;intros;refine Wo (ld (cs:=((a::r).map ktx).flatten) (sz:=4) 1 rfl rfl rfl (Pp _) om) ?_;rw [Ru,show(a::r).length-1=r.length from rfl];refine A2 ⟨?_⟩;intros;exact ct _ _ (bJ (RV.cellA rfl mmA rfl rfl) Lr) Sq ⟨rfl,rfl⟩
theorem mo (s:SV) (hco:CO s [s]) (a:Tq) (r:List Tq) (hr:r.length≤1000000) (w:List UInt8) (hw:a.t≠w) :
  PuM Tryz.prog 201 kpT (fun p=>[ke p,str w]) (kpC (a::r) s) (fun _:Unit=>kpC (a::r) s) (fun _=>lit (.bool false)):=by
 have c:=pE s hco a r hr;refine PuM.intro Tryz.func201 rfl kr fun C b=>?_
 refine A2 ⟨?_⟩;intros;refine Wo (dS c rfl mmA) ?_;refine A2 ⟨?_⟩;intros;exact fK () _ (bJ (RV.tmp rfl) Lr) mmA (LeL.refl _)
theorem M6 (s:SV) (hco:CO s [s]) (a:Tq) (r:List Tq) (hr:r.length≤1000000) (w:List UInt8) (hw:a.t=w) (hk:a.k=3) :
  PuM Tryz.prog 201 kpT (fun p=>[ke p,str w]) (kpC (a::r) s) (fun _:Unit=>kpC (a::r) s) (fun _=>lit (.bool true)):=by
 have c:=pE s hco a r hr;refine PuM.intro Tryz.func201 rfl kr fun C b=>?_
 refine A2 ⟨?_⟩;intros;refine Wo (dS c rfl mmA) ?_;refine A2 ⟨?_⟩;intros;exact fK () _ (bJ (RV.tmp rfl) Lr) mmA (LeL.refl _)
theorem yE (s:SV) (hco:CO s [s]) (a:Tq) (r:List Tq) (hr:r.length≤1000000) (w:List UInt8) (hw:a.t≠w) :
  PuM Tryz.prog 271 kpT (fun p=>[ke p,str w]) (kpC (a::r) s) (fun _:Unit=>kpC (a::r) s) (fun _=>lit (.bool false)):=by
 have c:=mo s hco a r hr w hw;refine PuM.intro Tryz.func271 rfl kr fun C b=>?_
 refine A2 ⟨?_⟩;intros;refine Wo (dS c rfl mmA) ?_;refine A2 ⟨?_⟩;intros;exact fK () _ (bJ (RV.tmp rfl) Lr) mmA (LeL.refl _)
theorem DL (s:SV) (hco:CO s [s]) (a:Tq) (r:List Tq) (hr:r.length≤1000000) (hk:a.k=1) (hv:yc a.t=false):PuM Tryz.prog 295 kpT (fun p=>[ke p]) (kpC (a::r) s) (fun _:Unit=>kpC (a::r) s) (fun _=>lit (.bool true)):=by
 have c:=pE s hco a r hr;have c2:=ww a.t;rw [hv]at c2;refine PuM.intro Tryz.func295 rfl kr fun C b=>?_
 refine A2 ⟨?_⟩;intros;refine Wo (dS c rfl mmA) ?_;refine A2 ⟨?_⟩;intros;refine WgE ?_;refine Wo (dS c rfl mmA) ?_;refine D1 c2 ⟨?_⟩;intros;exact fK () _ (bJ (RV.tmp rfl) Lr) mmA (LeL.refl _)
theorem J5 (s:SV) (hco:CO s [s]) (p:Nat) (a:Tq) (r:List Tq) (hr:r.length≤1000000) (hk:a.k=1) (hv:yc a.t=false):PuH Tryz.prog 273 [ke p] [(p,kpT,kpC (a::r) s)] (fun v H=>v=str a.t∧H=[(p,kpT,kpC r s)]) noX:=by
 have c:=DL s hco a r hr hk hv;refine PuH.intro Tryz.func273 rfl kr fun C hC=>?_
 refine A2 ⟨?_⟩;intros;refine Wo (dS c rfl mmA) ?_;refine A2 ⟨?_⟩;intros;refine WfT (AF s hco p a r hr) ?_;rintro _ _ ⟨rfl,rfl⟩;simp only [ab,a8];refine A2 ⟨?_⟩;intros;exact ct _ _ (bJ (RV.tmp rfl) Lr) Sr ⟨rfl,rfl⟩
abbrev kzz:RQ:=⟨false,[],[]⟩
theorem Fv (l:List Nd) (n:Nd):((l++[n]).map ndx).flatten=(l.map ndx).flatten++ndx n:=by
 rw [aH,cH];simp only [aD,iz,bw,j4,bd]
def Nd.atK (n:Nd) (a:Tq):Nd:={n with ln:=1,cl:=a.c}
theorem DM (p:Nat) (ts:List Tq) (ns:List Nd) (s:SV) (Hs:LH) (hown:Own keT 19 ns.length (ns.map ndx).flatten s Hs) (hns:ns.length≤1000000) (n:Nd) (a:Tq) :
  PuH Tryz.prog 241 [ke p,ag (ndx n),ag (ktx a)] ((p,kpT,kpC ts s)::Hs)
   (fun v H=>v=lit (.int .i64 ns.length)∧∃s' Hs',Own keT 19 (ns++[n.atK a]).length ((ns++[n.atK a]).map ndx).flatten s' Hs'∧H=(p,kpT,kpC ts s')::Hs') noX:=by
 have hco:=hown.co;refine PuH.intro Tryz.func241 rfl kr fun C hC=>?_
 repeat(first|(refine AS ⟨?_⟩;intros)|(refine O1 ⟨?_⟩;intros))
 rename_i b4 b5;refine WP.perm (List.Perm.swap _ _ _) ?_;refine WdM [5,7] ((b5,ktT,ktx a)::(p,kpT,kpC ts s)::Hs) (fun k=>[(b4,keT,ndx (if k=0 then n else if k=1 then {n with ln:=1}else n.atK a))]) ?_;refine MkD 5 ?_;refine A2 ⟨?_⟩;intros;refine zL ?_;refine MkR (sv:=top) (TS.store (sv:=lit (.int .i64 1)) (ds:=[lit (.int .i64 1)]) rfl rfl rfl rfl (br.here _) rfl rfl) ?_;refine MkD 1 ?_;refine A2 ⟨?_⟩;intros;refine zL ?_;refine MkR (sv:=top) (TS.store (sv:=lit (.int .i64 a.c)) (ds:=[lit (.int .i64 a.c)]) rfl rfl rfl rfl (br.here _) rfl rfl) ?_;refine MkN ?_;simp only [ab,a8];rw [show(if [5,7].length=0 then n else if [5,7].length=1 then {n with ln:=1}else n.atK a)=n.atK a from rfl];generalize n.atK a=na at *;repeat(first|(refine AS ⟨?_⟩;intros)|(refine O1 ⟨?_⟩;intros))
 refine WdL 7 1 ?_;refine A2 ⟨?_⟩;intros;refine dL1 (fun b19=>?_);refine TU hown om (by(repeat(first|exact LOk.nil|refine Lsk ?_|refine Lcv ?_))) (fun s' H1 hown'=>?_) (Tk.skip _ (Tk.skip _ (Tk.skip _ (Tk.skip _ (Tk.same _))))) Ms;refine Gn (by(repeat(first|exact LOk.nil|refine Lsk ?_|refine Lcv ?_))) ?_
 have hown'':Own keT 19 (ns++[na]).length ((ns++[na]).map ndx).flatten s' H1:=by
  rw [Fv,ac,bH];exact hown'
 have hco':=hown''.co;have hlen:(ns++[na]).length=ns.length+1:=by simp
 simp only [ab,a8];refine A2 ⟨?_⟩;intros;refine Ss ?_;refine Ws (sv:=s') ?_;refine A2 ⟨?_⟩;intros;refine Wo (bh hown'' rfl) ?_;refine A2 ⟨?_⟩;intros;exact ct _ _ (bJ (RV.tmp (s:=lit (.int .i64 (((ns++[na]).length:Nat)-1))) rfl) Lr) Sq ⟨by rw [ac,bH,show((ns.length+1:Nat):Int)-1=(ns.length:Int) by omega],s',H1,hown'',rfl⟩
section
variable {P:Program}{C:Ctx}{n:Nat}{F:Fr}{H:LH}{ops:Array Oper}{K:Fr→LH→Prop}{rest:List Oper}{ty:TypeId}{pos:String}{aft:Array Edge}
theorem WfK {f:FuncId}{d:Nat}{l:List Operand}{tys:Array TypeId}{svs:List SV}{Hin Rs Hout H2:LH}{res:SV}(hc:PuH P f svs Hin (fun v H'=>v=res∧H'=Hout) noX) (hs:Tk H Hin Rs) (hp:(Rs++Hout).Perm H2) (k:WPL P C n ops rest K (upd F d res) H2)
  (ha:l.map (ev F)=svs:=by exact rfl) (hd:Nat.blt d n=true:=by exact rfl):WPL P C n ops (⟨some d, .call ⟨.value (.func f),l.toArray,tys⟩,ty,pos,aft,none⟩::rest) K F H :=
 WfT hc (fun _ _ ⟨e1,e2⟩=>by subst e1;subst e2;exact WPL.perm hp k) ha hs hd
end
def kn0:Nd:=⟨1,[97],kzz,kzz,kzz,kzz,0,0,0,0,0⟩
def kb0:Nd:=⟨6,[],kzz,kzz,kzz,kzz,3,0,1,0,0⟩
def KPs (p:Nat) (ts:List Tq) (ns:List Nd) (H:LH):Prop:=∃s Hs,Own keT 19 ns.length (ns.map ndx).flatten s Hs∧H=(p,kpT,kpC ts s)::Hs
def KLv (fn:FuncId) (p:Nat) (a:Tq) (r:List Tq) (ns:List Nd):Prop:=∀H,KPs p (a::r) ns H→PuH Tryz.prog fn [ke p] H (fun v H'=>v=lit (.int .i64 ns.length)∧KPs p r (ns++[kn0.atK a]) H') noX
theorem Fw (p c:Nat) (r:List Tq) (hr:r.length≤1000000) (ns:List Nd) (hn:ns.length≤1000000):KLv 242 p ⟨1,[97],c⟩ r ns:=by
 rintro _ ⟨s,Hs,hown,rfl⟩;have hco:=hown.co;have c0:=pE s hco ⟨1,[97],c⟩ r hr;have h1:([97]:List UInt8)≠[126]:=by decide
 have h2:([97]:List UInt8)≠[40]:=by decide
 have h3:([97]:List UInt8)≠[97,108,108]:=by decide
 have h4:([97]:List UInt8)≠[110,111,110,101]:=by decide
 have h5:([97]:List UInt8)≠[104,97,108,102]:=by decide
 have hv:yc [97]=false:=by decide +kernel
 have c1:=mo s hco ⟨1,[97],c⟩ r hr [126] h1;have c2:=mo s hco ⟨1,[97],c⟩ r hr [40] h2;have c3:=yE s hco ⟨1,[97],c⟩ r hr [97,108,108] h3;have c4:=yE s hco ⟨1,[97],c⟩ r hr [110,111,110,101] h4;have c5:=yE s hco ⟨1,[97],c⟩ r hr [104,97,108,102] h5;have c6:=J5 s hco p ⟨1,[97],c⟩ r hr rfl hv;have c7:=DM p r ns s Hs hown hn kn0 ⟨1,[97],c⟩;refine PuH.intro Tryz.func242 rfl kr fun C hC=>?_
 refine A2 ⟨?_⟩;intros;refine Wo (dS c0 rfl mmA) ?_;refine A2 ⟨?_⟩;intros;refine Wo (dS c1 rfl mmA) ?_;refine A2 ⟨?_⟩;intros;refine Wo (dS c2 rfl mmA) ?_;refine A2 ⟨?_⟩;intros;refine Wo (dS c3 rfl mmA) ?_;refine A2 ⟨?_⟩;intros;refine Wo (dS c4 rfl mmA) ?_;refine A2 ⟨?_⟩;intros;refine Wo (dS c5 rfl mmA) ?_;repeat(first|(refine AS ⟨?_⟩;intros)|(refine O1 ⟨?_⟩;intros))
 refine WdA ?_;repeat' (first|(refine A1 ⟨?_⟩;intros)|exact WPI.nil|refine And.intro ?_ ?_|refine WfK c6 (Tk.skip _ (Tk.cons (aq.here _) (Tk.nil _))) (aG.trans (List.Perm.swap _ _ _)) ?_)
 all_goals
  refine WPL.low 60 rfl (Le.ag (b:=ndx kn0) (by repeat(first|exact trivial|refine⟨?_,?_⟩|exact Le.refl _|exact gz|exact Le.int om))) ?_;refine WfT c7 ?_ (hs:=Tk.skip _ (Tk.same _));rintro _ _ ⟨rfl,s4,H4,hown4,rfl⟩;simp only [ab,a8];repeat' (first|(refine A1 ⟨?_⟩;intros)|exact WPI.nil|refine And.intro ?_ ?_)
  exact ct _ _ (bJ (RV.tmp (s:=lit (.int .i64 ns.length)) rfl) Lr) (fZ _ _) ⟨rfl,s4,H4,hown4,rfl⟩
theorem J4 (p b:Nat) (a:Tq) (r:List Tq) (s:SV) (hco:CO s [s]) (Hs:LH) (hr:r.length≤1000000) (ha:a.t≠[42]) :
  PuH Tryz.prog 243 [ke b] ((b,kbT,[ke p])::(p,kpT,kpC (a::r) s)::Hs) (fun v H=>v=lit (.int .i64 0)∧H=(b,kbT,[ke p])::(p,kpT,kpC (a::r) s)::Hs) noX:=by
 have c1:=mo s hco a r hr [42] ha;refine PuH.intro Tryz.func243 rfl kr fun C hC=>?_
 refine A2 ⟨?_⟩;intros;refine Wo (dS c1 rfl mmA) ?_;refine A2 ⟨?_⟩;intros;exact ct _ _ (bJ (RV.tmp rfl) Lr) Sr ⟨rfl,rfl⟩
theorem DJ (p b:Nat) (s:SV) (hco:CO s [s]) (Hs:LH) (a:Tq) (r:List Tq) (z:Int) (h:a=kqM∧r=[kqB,kqE]∧z=3∨a=kqE∧r=[]∧z=0) :
  PuH Tryz.prog 200 [ke b] ((b,kbT,[ke p])::(p,kpT,kpC (a::r) s)::Hs) (fun v H=>v=lit (.int .i64 z)∧H=(b,kbT,[ke p])::(p,kpT,kpC (a::r) s)::Hs) noX:=by
 rcases h with⟨rfl,rfl,rfl⟩|⟨rfl,rfl,rfl⟩
 ·have c1:=mo s hco kqM [kqB,kqE] (by decide) [43] (by decide);have c2:=M6 s hco kqM [kqB,kqE] (by decide) [45] rfl rfl;refine PuH.intro Tryz.func200 rfl kr fun C hC=>?_
  refine A2 ⟨?_⟩;intros;refine Wo (dS c1 rfl mmA) ?_;refine A2 ⟨?_⟩;intros;refine Wo (dS c2 rfl mmA) ?_;refine A2 ⟨?_⟩;intros;exact ct _ _ (bJ (RV.tmp rfl) Lr) Sr ⟨rfl,rfl⟩
 ·have c1:=mo s hco kqE [] (by decide) [43] (by decide);have c2:=mo s hco kqE [] (by decide) [45] (by decide);have c3:=mo s hco kqE [] (by decide) [94] (by decide);refine PuH.intro Tryz.func200 rfl kr fun C hC=>?_
  refine A2 ⟨?_⟩;intros;refine Wo (dS c1 rfl mmA) ?_;refine A2 ⟨?_⟩;intros;refine Wo (dS c2 rfl mmA) ?_;refine A2 ⟨?_⟩;intros;refine Wo (dS c3 rfl mmA) ?_;refine A2 ⟨?_⟩;intros;exact ct _ _ (bJ (RV.tmp rfl) Lr) Sr ⟨rfl,rfl⟩
theorem DK (p c:Nat) (b:Tq) (r:List Tq) (hr:r.length≤100000) (hb:b.t≠[42]) (ns:List Nd) (hn:ns.length≤1000000):KLv 199 p ⟨1,[97],c⟩ (b::r) ns:=by
 intro H hH;have hlr:(b::r).length=r.length+1:=rfl;have c0:=Fw p c (b::r) om ns hn H hH
 have cb:∀q,PuH Tryz.prog 198 [ke p,fnv 242 [ke p] [],fnv 243 [] [ke q]] ((q,kbT,[ke p])::H) (fun v H'=>v=lit (.int .i64 ns.length)∧∃H2,H'=(q,kbT,[ke p])::H2∧KPs p (b::r) (ns++[kn0.atK ⟨1,[97],c⟩]) H2) noX:=by
  intro q;generalize kn0.atK ⟨1,[97],c⟩=na at *;refine PuH.intro Tryz.func198 rfl kr fun C hC=>?_
  refine A2 ⟨?_⟩;intros;refine WvT c0 ?_ (hs:=Tk.skip _ (Tk.same _));rintro _ _ ⟨rfl,s1,H1,o1,rfl⟩;simp only [ab,a8];have hco:=o1.co;refine A2 ⟨?_⟩;intros;refine WvT (J4 p q b r s1 hco H1 om hb) ?_;rintro _ _ ⟨rfl,rfl⟩;simp only [a8];refine A2 ⟨?_⟩;intros;refine WP.unroll 1 (WPR.succ ?_);refine A2 ⟨?_⟩;intros;exact ct _ _ (bJ (RV.tmp rfl) Lr) Sr ⟨rfl,_,rfl,s1,H1,o1,rfl⟩
 clear c0;generalize kn0.atK ⟨1,[97],c⟩=na at *;refine PuH.intro Tryz.func199 rfl kr fun C hC=>?_
 refine A2 ⟨?_⟩;intros;refine WfT (cb _) ?_;rintro _ _ ⟨rfl,H2,rfl,hps⟩;simp only [ab,a8,bd];refine A2 ⟨?_⟩;intros;exact ct _ _ (bJ (RV.tmp rfl) Lr) (fZ _ _) ⟨rfl,hps⟩
abbrev kNs:List Nd:=[kn0.atK kqA,kn0.atK kqB,kb0.atK kqM]
theorem Pr (p:Nat):PuH Tryz.prog 150 [ke p] [(p,kpT,kpC kTs (lit (.slice none 0 0)))] (fun v H'=>v=lit (.int .i64 2)∧KPs p [kqE] kNs H') noX:=by
 have c0:=DK p 1 kqM [kqB,kqE] (by decide) (by decide) [] (by decide) _ ⟨_,_,Own.nil keT 19,rfl⟩;have c1:=fun H h=>DK p 5 kqE [] (by decide) (by decide) [kn0.atK kqA] (by decide) H h
 have cb:∀q,PuH Tryz.prog 198 [ke p,fnv 199 [ke p] [],fnv 200 [] [ke q]] [(q,kbT,[ke p]),(p,kpT,kpC kTs (lit (.slice none 0 0)))] (fun v H'=>v=lit (.int .i64 2)∧∃H2,H'=(q,kbT,[ke p])::H2∧KPs p [kqE] kNs H2) noX:=by
  intro q;refine PuH.intro Tryz.func198 rfl kr fun C hC=>?_
  refine A2 ⟨?_⟩;intros;refine WvT c0 ?_ (hs:=Tk.skip _ (Tk.same _));rintro _ _ ⟨rfl,s1,H1,o1,rfl⟩;simp only [ab,a8];have hco:=o1.co;refine A2 ⟨?_⟩;intros;refine WvT (DJ p q s1 hco H1 kqM [kqB,kqE] 3 (by simp)) ?_;rintro _ _ ⟨rfl,rfl⟩;simp only [a8];refine A2 ⟨?_⟩;intros;refine WP.unroll 2 (WPR.succ ?_);refine A2 ⟨?_⟩;intros;refine WfT (AF s1 hco p kqM [kqB,kqE] (by decide)) ?_ (hs:=Tk.skip _ (Tk.cons (aq.here _) (Tk.nil _)));rintro _ _ ⟨rfl,rfl⟩;refine WPL.perm aG ?_;refine WPL.perm (List.Perm.swap _ _ _) ?_;refine A2 ⟨?_⟩;intros;refine WvT (c1 _ ⟨s1,H1,o1,rfl⟩) ?_ (hs:=Tk.skip _ (Tk.skip _ (Tk.same _)));rintro _ _ ⟨rfl,s3,H3,o3,rfl⟩;simp only [ab,a8];have hco3:=o3.co;have c2:=DM p [kqE] _ s3 H3 o3 (by decide) kb0 kqM;refine A2 ⟨?_⟩;intros;refine WPL.low 27 rfl (Le.ag (b:=ndx kb0) (by repeat(first|exact trivial|refine⟨?_,?_⟩|exact Le.refl _|exact gz|exact Le.int (by decide)))) ?_;refine WfT c2 ?_ (hs:=Tk.skip _ (Tk.skip _ (Tk.same _)));rintro _ _ ⟨rfl,s4,H4,o4,rfl⟩;simp only [ab,a8];have hco4:=o4.co;refine A2 ⟨?_⟩;intros;refine WvT (DJ p q s4 hco4 H4 kqE [] 0 (by simp)) ?_ (hs:=Tk.skip _ (Tk.same _));rintro _ _ ⟨rfl,rfl⟩;simp only [ab,a8];refine A2 ⟨?_⟩;intros;exact ct _ _ (bJ (RV.tmp rfl) Lr) (fZ _ _) ⟨rfl,_,rfl,s4,H4,o4,rfl⟩
 clear c0 c1;refine PuH.intro Tryz.func150 rfl kr fun C hC=>?_
 refine A2 ⟨?_⟩;intros;refine WfT (cb _) ?_;rintro _ _ ⟨rfl,H2,rfl,hps⟩;simp only [ab,a8,bd];refine A2 ⟨?_⟩;intros;exact ct _ _ (bJ (RV.tmp rfl) Lr) (fZ _ _) ⟨rfl,hps⟩
theorem yF (p:Nat) :
  PuH Tryz.prog 104 [ke p] [(p,kpT,kpC kTs (lit (.slice none 0 0)))] (fun v H'=>∃Hs,Own keT 19 kNs.length (kNs.map ndx).flatten v Hs∧H'=(p,kpT,kpC [kqE] v)::Hs) noX:=by
 have c:=Pr p;refine PuH.intro Tryz.func104 rfl kr fun C hC=>?_
 refine A2 ⟨?_⟩;intros;refine WfT c ?_;rintro _ _ ⟨rfl,s,Hs,hown,rfl⟩;have hco:=hown.co;simp only [ab,a8,bd];refine A2 ⟨?_⟩;intros;exact ct _ _ (bJ (RV.tmp rfl) Lr) Sr ⟨Hs,hown,rfl⟩
section
variable {P:Program}{C:Ctx}{n:Nat}{F:Fr}{H:LH}{Post:Exit→Act→World→Prop}
def onR (C:Ctx) (n:Nat) (Post:Exit→Act→World→Prop) (K:Fr→LH→Prop):Exit→Fr→LH→Prop
 | .normal,F,H=>K F H
 | .ret,F,H=>∀a w,St C n F H a w→Post .ret a w
 |_,_,_=>False
theorem onR.i {K:Fr→LH→Prop}(h:K F H):onR C n Post K .normal F H:=h
theorem WPT.seqR {x y:Code}(hpan:∀pv H,¬C.pan pv H) (h:WP P C n x (onR C n Post fun F H=>WPT P C n y Post F H) F H):WPT P C n (.seq x y) Post F H:=by
 intro a w hs;unfold WP at h;refine wp_seq (wp_mono (h a w hs) ?_);rintro e a' w' (⟨F',H',hs',hq⟩|⟨ch,rfl,_,m,v,pv,H',_,_,_,_,_,_,hx⟩)
 ·cases e with
  |normal=>exact hq a' w' hs'
  |ret=>exact hq a' w' hs'
  |_=>exact hq.elim
 ·exact absurd hx (hpan _ _)
theorem WTL.wpl {ops:Array Oper}{l:List Oper}{y:Code}(hpan:∀pv H,¬C.pan pv H) (h:WPL P C n ops l (fun F H=>WPT P C n y Post F H) F H):WTL P C n ops l (Exit.then (y.wp P Post) Post) F H:=by
 unfold WPL at h;intro a w hs;refine h a w hs _ ⟨fun a' w' F' H' hs' hk=>hk a' w' hs',fun ch a' w' hp=>?_⟩;obtain⟨_,_,_,_,_,_,_,_,_,_,_,hx⟩:=hp;exact absurd hx (hpan _ _)
end
abbrev Rv:FuncId:=103
abbrev Rw:FuncId:=147
theorem DN (p q:Addr) (w:World):CallsD Tryz.prog Rw #[.pointer (some p), .pointer (some q)] .returning w fun e u' w'=>(∃v,e = .returned v)∧u' = .returning∧w'=w:=by
 refine callsD_of_wpS Tryz.func147 rfl fun c₀ cs hu=>?_
 apply wpS_seq;apply wpS_region;simp [wpOpsS,go_sem,recoverD,hu,Exit.thenS];apply wpS_seq;apply wpS_region;simp [wpOpsS,go_sem,Exit.thenS];refine wpS_cond (t:=false) (by simp [Act.eval,Array.replicate]) ?_;simp only [bE,aO];refine wpS_of_wp (wp_skip ?_);cases c₀;simp_all [bodyPostS,results,Exit.thenS]
def Rx:SV→LH→Prop:=fun r H'=>∃s,r=Ab.tup [s,lit .nilIface]∧Own keT 19 kNs.length (kNs.map ndx).flatten s H'
theorem M5:PuH Tryz.prog Rv [str kTx,lit (.func (.func 104) #[] #[])] [] Rx noX:=by
 have c0:=Fu;refine PuH.introD Tryz.func103 rfl kr fun C hC0 hC1=>?_
 refine WPT.seqR hC0 ?_;refine A2 ⟨?_⟩;intros;rename_i b4 b5;refine onR.i ?_;refine WPT.seqR hC0 ?_;refine D1 c0 ⟨?_⟩;intros;refine onR.i ?_;refine WPT.seqR hC0 ?_;refine A2 ⟨?_⟩;intros;refine onR.i ?_;refine WPT.defer (cv:=[.pointer (some ⟨b4,0,none⟩), .pointer (some ⟨b5,0,none⟩)]) (X1:=noX) rfl rfl fun C1 hC=>?_
 rw [hC1]at hC;have hC2:∀pv H,¬C1.pan pv H:=fun pv H h=>by rw [hC]at h;exact h
 refine WPT.seq hC2 ?_;refine A2 ⟨?_⟩;intros;rename_i p;refine onN.i ?_;refine WPT.reg ?_;refine WTL.val (op := .move _) Ov0 ?_ rfl;refine WTL.val (op := .move _) Ov0 ?_ rfl;refine WTL.call (s:=lit (.func (.func 104) #[] #[])) (l:=[.tmp 22]) rfl (yF p) (Tk.perm (Tk.cons (aq.here _) (Tk.nil _))) rfl rfl ?_ (fun _ _ _ _ _ _ h=>h.elim);rintro v H' ⟨Hs,hown,rfl⟩;have hco:=hown.co;have c1:=pE v hco kqE [] (by decide);refine WTL.wpl hC2 ?_;refine WPL.perm (H':=(p,kpT,kpC [kqE] v)::(b5,39,[lit Value.nilIface])::(b4,32,[lit (.slice none 0 0)])::Hs) (List.Perm.cons _ aG) ?_;refine Ss ?_;refine Ws (sv:=v) ?_;refine A2 ⟨?_⟩;intros;refine WPT.fin (Q:=E5 Tryz.prog Tryz.f103.results _) ?_ (SS ⟨_,hC⟩ kr hC2 fun w=>DN _ _ w);refine A2 ⟨?_⟩;intros;refine Wo (dS c1 rfl mmA) ?_;refine A2 ⟨?_⟩;intros;refine Ss ?_;refine Ws (sv:=v) ?_;refine A2 ⟨?_⟩;intros;exact ct _ Hs (eJ (RV.cell1 (b:=b4) rfl (Mc (Mc Ms)) rfl) (RV.cell1 (b:=b5) rfl (Mc Ms) rfl) Lr) Sq ⟨v,rfl,hown⟩
theorem J7:PuH Tryz.prog 71 [str kTx] [] Rx noX:=by
 have c:=M5;refine PuH.intro Tryz.func71 rfl kr fun C hC=>?_
 refine A2 ⟨?_⟩;intros;refine WfT c ?_;rintro r H' hr;obtain⟨s,rfl,hown⟩:=id hr;have hco:=hown.co;refine A2 ⟨?_⟩;intros;exact ct _ H' (eJ (RV.tmp rfl) (RV.tmp rfl) Lr) Sr hr
theorem J6:PuH Tryz.prog 32 [str kTx] [] Rx noX:=by
 have c:=J7;refine PuH.intro Tryz.func32 rfl kr fun C hC=>?_
 refine A2 ⟨?_⟩;intros;refine WfT c ?_;rintro r H' hr;obtain⟨s,rfl,hown⟩:=id hr;have hco:=hown.co;refine A2 ⟨?_⟩;intros;exact ct _ H' (eJ (RV.tmp rfl) (RV.tmp rfl) Lr) Sr hr
abbrev yH:List Nd:=kNs
theorem Pt:∀n∈yH,n.ok 4:=by
 intro n hn;simp only [yH,kNs,ak,fG,eP]at hn;rcases hn with rfl|rfl|rfl <;> exact⟨wr,wr,wr,wr,by decide⟩
theorem SJ:otx yH≠none:=by
 intro h;have:(otx yH).isSome=true:=by decide +kernel
 rw [h]at this;cases this
theorem TD:kS [[97]] [.leaf true] false 10 yH [] = .ok [.leaf true, .leaf true, .leaf false]:=by rfl
theorem PO (L:List Li) (hL:∀l∈L,l.ok) (hl:∀l∈L,l.le 500) (hn:L.length≤100) (i:Bool):EvE L 500 [[97]] [.leaf i] :=
 ⟨hL,hl,om,om,hn,(fun t ht=>by rw [ar.1 ht];trivial),(fun t ht=>by rw [ar.1 ht];exact an _),rfl,by decide⟩
theorem RC [iF 0] [iF 6] [iF 4] [iF 8]:Pu Tryz.prog 8 [sl (yH.map ndx).flatten yH.length,sl ([[97]].map str) 1,sl (tqx (.leaf true)) 1,lit (.int .i64 10)] (Ab.tup [tq (.leaf false),lit .nilIface]):=by
 have h:S8 [] 500 [[97]] [.leaf true] yH 4:=⟨PO [] (by simp) (by simp) (by simp) true,(fun t ht=>by rw [ar.1 ht];decide),Pt,om,by decide,fun n hn h4=>by
  simp only [yH,kNs,ak,fG,eP]at hn;rcases hn with rfl|rfl|rfl <;> exact absurd h4 (by decide)⟩
 have c:=Kz h 10 false;rw [if_neg SJ,TD,w7]at c;exact HC (by decide) (t := .leaf false) rfl trivial (by decide) c
theorem Ps [iF 0] [iF 6] [iF 2] [iF 3] [iF 4] [iF 8]:Pu Tryz.prog 13 [] (lit (.bool true)):=by
 have c:=J6;have ce:=RC;refine Pi Tryz.func13 fun C=>?_
 refine A2 ⟨?_⟩;intros;refine WfT c ?_;rintro r H' ⟨s,rfl,hown⟩;obtain⟨b1,c1,hnc,hcm,rfl,rfl⟩:=hown.blk (by decide);refine A2 ⟨?_⟩;intros;simp only [a8];refine I1 11 rfl (aq.there _ (aq.here _)) om om ?_;refine I1 13 rfl (aq.here _) om om ?_;refine WPL.low 13 rfl (s':=sl (tqx (.leaf true)) 1) (Le.slL ⟨Le.refl _,i5,trivial⟩) ?_;refine WPL.pub (d:=10) (s':=sl (yH.map ndx).flatten yH.length) (aq.here _) rfl (fun m arr h1 h2=>pn h1 h2 hnc hcm) ?_;exact Y1 ce
def hLs (ns:List Nd):List Li:=(ns.filter fun n=>decide (n.k=4) && !wi n).map re
theorem PG {ns:List Nd}{n:Nd}(h:n∈ns) (h4:n.k=4) (hd:wi n=false):re n∈hLs ns :=
 aj.2 ⟨n,cW.2 ⟨h,by rw [a9 h4,hd];rfl⟩,rfl⟩
theorem Ht (ns:List Nd):(hLs ns).length≤ns.length:=by
 unfold hLs;rw [cK];exact lK ..
theorem Mt {ns:List Nd}:∀l∈hLs ns,l.ok:=fun l h=>by
 obtain⟨n,hn,rfl⟩:=aj.1 h;obtain⟨_,h2⟩:=cW.1 hn;simp only [bG,fw]at h2;have hd:=kX h2.2;refine wY ?_;by_cases e:n.c.v-n.a.v=0
 ·left;intro e2;exact hd ⟨e,by grind⟩
 ·exact .inr e
theorem PE {x y u v:Rat}{L:Nat}(hx:ht x≤L) (hy:ht y≤L) (hu:ht u≤L) (hv:ht v≤L):ht (-(v-y))≤6*L+5∧ht (u-x)≤6*L+5∧ht (-(-(v-y)*x+(u-x)*y))≤6*L+5:=by
 have h1:=gh u x;have h2:=gh v y;have h3:=fI (v-y);have h4:=be (-(v-y)) x;have h5:=be (u-x) y;have h6:=fo (-(v-y)*x) ((u-x)*y);have h7:=fI (-(v-y)*x+(u-x)*y);omega
theorem RG {ns:List Nd}{N:Nat}(hok:∀n∈ns,n.ok N) (hN:N≤10):∀l∈hLs ns,l.le 500:=fun l h=>by
 obtain⟨n,hn,rfl⟩:=aj.1 h;obtain⟨a,b,c,d,e⟩:=hok n (cW.1 hn).1;have v1:=qV a;have v2:=qV b;have v3:=qV c;have v4:=qV d;obtain⟨h1,h2,h3⟩:=PE (L:=11) (by omega:ht n.a.v≤11) (by omega:ht n.b.v≤11) (by omega:ht n.c.v≤11) (by omega:ht n.e.v≤11);exact(O4 h1 h2 h3).gr om
abbrev zLq:List SV:=[lit (.bool false),lit (.slice none 0 0),lit (.bool false),lit (.slice none 0 0),lit (.bool false),lit (.slice none 0 0)]
theorem Pa (c:Int) (hc:il c≤1000000):Pu Tryz.prog 59 [int 0,int 0,int c] (Ab.tup [ag zLq,lit (.bool false)]):=by
 have c1:Pu Tryz.prog 95 [nat 0,nat 0] (dg []):=by
  have c:=qo 0 0 (by rw [bW];exact an _) (by rw [bW];exact an _);rw [tb,show nat 0=dg (dgs 0)from rfl,bW]at c;rw [show nat 0=dg (dgs 0)from rfl,bW];exact c
 clear hc;refine Pi Tryz.func59 fun C=>?_
 refine D1 c1 ⟨?_⟩;intros;exact G3
theorem Ia {x y u v:Rat}{L:Nat}(hL:L≤10000) (hx:ht x≤L) (hy:ht y≤L) (hu:ht u≤L) (hv:ht v≤L) (h:u-x=0∧v-y=0):Pu Tryz.prog 25 [rp x y,rp u v] (Ab.tup [ag zLq,lit (.bool false)]):=by
 have s:=wV u v x y om om om om;have k1:=gh u x;have k2:=gh v y;have k3:=fI (v-y);have n1:=mJ (v-y) om;have k4:=be (-(v-y)) x;have k5:=be (u-x) y;have t1:=cZ (-(v-y)) x om om;have t2:=cZ (u-x) y om om;have k6:=fo (-(v-y)*x) ((u-x)*y);have p1:=jc (-(v-y)*x) ((u-x)*y) om om;have n2:=mJ (-(v-y)*x+(u-x)*y) om;have k7:=fI (-(v-y)*x+(u-x)*y);have ha0 : -(v-y)=0:=by rw [h.2];rfl
 have hb0:u-x=0:=h.1;generalize -(v-y)=a at *;generalize u-x=b at *;generalize -(a*x+b*y)=c at *;have e1:=fh a;have e2:=fh b;have e3:=fh c;have l1:=eh a;have l2:=eh b;have l3:=eh c;have l4:=ew a.den b.den;have l5:=ew (a.den*b.den) c.den;have q1:=i4 a.den b.den om om;have q2:=i4 (a.den*b.den) c.den om om;have m1:=dH false (a.den*b.den*c.den) om;rw [Bh,xf]at m1;obtain⟨m,hm⟩:∃m,m=a.den*b.den*c.den:=⟨_,rfl⟩
 have fa:=pw (a:=a) (b.den*c.den) (n:=m) (by rw [hm,aI]);have fb:=pw (a:=b) (a.den*c.den) (n:=m) (by rw [hm,aE a.den,aI]);have fc:=pw (a:=c) (a.den*b.den) (n:=m) (by rw [hm,aE])
 have hmp:(0:Rat)<((m:Int):Rat):=by
  have:0<m:=by rw [hm];exact kG (kG a.den_pos b.den_pos) c.den_pos
  exact_mod_cast this
 rw [←hm]at q2 m1 l5;have hmh:ht ((m:Int):Rat)≤max (dgs m).length 1:=by rw [gZ];exact au _
 have g1:=(cZ a ((m:Int):Rat) om om).arg (l':=[rq a,ag [lit (.bool false),nat m,lit (.slice none 0 0)]]) ⟨Le.refl _,AE m⟩;have g2:=(cZ b ((m:Int):Rat) om om).arg (l':=[rq b,ag [lit (.bool false),nat m,lit (.slice none 0 0)]]) ⟨Le.refl _,AE m⟩;have g3:=(cZ c ((m:Int):Rat) om om).arg (l':=[rq c,ag [lit (.bool false),nat m,lit (.slice none 0 0)]]) ⟨Le.refl _,AE m⟩;have o1:=be a ((m:Int):Rat);have o2:=be b ((m:Int):Rat);have o3:=be c ((m:Int):Rat);rw [fa]at g1 o1;rw [fb]at g2 o2;rw [fc]at g3 o3;have hA:a.num*((b.den*c.den:Nat):Int)=0:=by rw [ha0];exact Int.zero_mul _
 have hB:b.num*((a.den*c.den:Nat):Int)=0:=by rw [hb0];exact Int.zero_mul _
 clear fa fb fc hmp h hm;generalize a.num*((b.den*c.den:Nat):Int)=A at *;generalize b.num*((a.den*c.den:Nat):Int)=B at *;generalize c.num*((a.den*b.den:Nat):Int)=C' at *;rw [gZ]at o1 o2 o3;subst hA;subst hB;have mk:=Pa C' om;simp only [tH]at g1 g2 g3;clear o1 o2 o3 hmh k1 k2 k3 k4 k5 k6 k7 l1 l2 l3 l4 l5 hx hy hu hv;refine Pi Tryz.func25 fun C=>?_
 repeat(first|(refine AS ⟨?_⟩;intros)|(refine O1 ⟨?_⟩;intros)|(refine Wcx (s) ?_)|(refine iE (s) ?_)|(refine Wcx (n1) ?_)|(refine iE (n1) ?_))
 refine WdL 7 1 ?_;refine D1 n1 ⟨?_⟩;intros;refine dL2 fun b7 b8=>?_
 refine Gs (sv:=rq a) (cs':=[lit (.bool (decide (a.num<0))),nat a.num.natAbs,dg (oX a.den)]) rfl rfl rfl (by first|exact .here _|exact .there _ (.here _)) rfl rfl ?_ ?_
 ·(repeat(first|exact LOk.nil|refine Lsk ?_|refine Lcv ?_))
 refine Gn ?_ ?_
 ·(repeat(first|exact LOk.nil|refine Lsk ?_|refine Lcv ?_))
 repeat(first|(refine A1 ⟨?_⟩;intros)|(refine Wo (dX rfl rfl kr rfl) ?_)|(refine Wdo (dX rfl rfl kr rfl) ?_)|refine W4 s ⟨?_⟩|refine W4 n1 ⟨?_⟩|refine W4 t1 ⟨?_⟩|refine W4 t2 ⟨?_⟩|refine W4 p1 ⟨?_⟩|refine W4 n2 ⟨?_⟩|refine W4 e1 ⟨?_⟩|refine W4 e2 ⟨?_⟩|refine W4 e3 ⟨?_⟩|refine W4 q1 ⟨?_⟩|refine W4 q2 ⟨?_⟩|refine W4 m1 ⟨?_⟩|refine W4 g1 ⟨?_⟩|refine W4 g2 ⟨?_⟩|refine W4 g3 ⟨?_⟩|refine W4 mk ⟨?_⟩)
 exact G3
end Go.Ab
