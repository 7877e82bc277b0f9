/- Texts laid one behind the other: PAll, Fil, L28J, L28H, Open, RowKit, LaidKit, GInt. -/
import Derived.Test.YtnhepimaijhhaaaGreatDoorB37
import Derived.ProofKit
import Derived.OpenShut
import Derived.ChangeOld
import Derived.Below
import Derived.OpenVars
import Derived.Deep.Slices
import Derived.WalkKit
import Derived.Stop.LaidErr
import Derived.LaidMore
import Derived.Deep.DeepHandedRow
import Derived.Deep.DeepWitnessRowRef
set_option linter.all false
set_option maxHeartbeats 16000000
namespace Go.Ab
open Go.Proofs
variable [Base]
def jI (op:Int) (t:Tr) (Hs:List Tr):Tr:=Hs.foldl (fun a h=>cD op a h []) t
theorem vI (op:Int) (t:Tr) (Hs:List Tr) (k:Nat){h:Tr}(hk:Hs[k]? = some h):jI op t (Hs.take (k+1))=cD op (jI op t (Hs.take k)) h []:=by
 unfold jI;rw [bV hk,List.foldl_append];rfl
theorem rC {op:Int}{L:List Li}(hL:∀l∈L,l.ok):∀(Hs:List Tr){t:Tr},Gd L t→(∀h∈Hs,h.lin L)→Gd L (jI op t Hs)
 | [],_,h,_=>h
 |a::Hs,t,h,k=>rC hL Hs (t:=cD op t a []) (Gd.merge hL h.1 (k a Ms)) fun b hb=>k b (Mc hb)
open Classical in
theorem ic:∀(t:Tr) (I:Pq→Prop),bR (bR t I) I=bR t I
 | .leaf _,_=>rfl
 | .node l a b,I=>by
  have e:bR (.node l a b) I=if¬Rgt I l then bR a I else if¬Lft I l then bR b I else ez l (bR a fun q=>I q∧0<a6 l q) (bR b fun q=>I q∧a6 l q<0):=by
   rw [bR]
  rw [e];by_cases h1:Rgt I l
  ·rw [if_neg (fun k=>k h1)];by_cases h2:Lft I l
   ·rw [if_neg (fun k=>k h2)];have ha:=ic a fun q=>I q∧0<a6 l q
    have hb:=ic b fun q=>I q∧a6 l q<0
    generalize bR a (fun q=>I q∧0<a6 l q)=A at *;generalize bR b (fun q=>I q∧a6 l q<0)=B at *
    have nd:bR (.node l A B) I=ez l A B:=by
     rw [bR,if_neg (fun k=>k h1),if_neg (fun k=>k h2),ha,hb]
    cases A with
    |leaf i =>
     cases B with
     |leaf j =>
      show bR (if i=j then Tr.leaf i else Tr.node l (.leaf i) (.leaf j)) I=if i=j then Tr.leaf i else Tr.node l (.leaf i) (.leaf j)
      by_cases c:i=j
      ·rw [if_pos c];rfl
      ·rw [if_neg c,nd];show(if i=j then Tr.leaf i else Tr.node l (.leaf i) (.leaf j))=_
       rw [if_neg c]
     |node m x y=>exact nd
    |node m x y=>exact nd
   ·rw [if_pos h2];exact ic b I
  ·rw [if_pos h1];exact ic a I
theorem xQ {L:List Li}(hL:∀l∈L,l.ok){t:Tr}(h:t.lin L):a8 (a8 t []) []=a8 t []:=by
 have h2:=su hL h;rw [ly (cM hL h2),ly (cM hL h),ic]
abbrev btL (l:List Tr):SV:=sl (l.map fun t=>[bt t]).flatten l.length
theorem Il {L:List Li}{LL:Nat}(h:LnE L LL) (op:Int) (hop:1≤op∧op≤4){t:Tr}{Hs:List Tr}(ht:t.lin L) (hd:aU t≤500) (hH:∀x∈Hs,x.lin L∧aU x≤500) (hn:Hs.length≤1000000):Pu Tryz.prog 37 [lit (.int .i64 op),bt t,btL Hs] (Ab.tup [bt (jI op (a8 t []) Hs),lit .nilIface]):=by
 have c1:=kt t om;have c2:=nM h.l1 h.l2 t (h.all ht) om;rw [mU ak (cM h.ok ht)]at c2;have hr:Gd L (a8 t []):=Gd.restr h.ok ht
 have step:∀k x,Hs[k]? = some x→Pu Tryz.prog 77 [lit (.int .i64 op),bt (jI op (a8 t []) (Hs.take k)),bt x] (Ab.tup [bt (jI op (a8 t []) (Hs.take (k+1))),lit .nilIface]):=fun k x hk=>by
  have hg:Gd L (jI op (a8 t []) (Hs.take k)):=rC h.ok _ hr fun y hy=>(hH y (List.mem_of_mem_take hy)).1
  have hd1:=hg.dep;have hl:=h.len;obtain⟨x1,x2⟩:=hH x (List.mem_of_getElem? hk);rw [vI op _ Hs k hk];exact yw h op hop hg.1 x1 om x2
 clear hr hH ht h;generalize a8 t []=r at *;refine Pi Tryz.func37 fun C=>?_
 repeat(first|(refine A1 ⟨?_⟩;intros)|refine W4 c1 ⟨?_⟩|refine W4 c2 ⟨?_⟩)
 refine WP.loopS (ι:=Nat) (fun k=>k≤Hs.length) (fun k=>Hs.length-k)
  (fun k=>fm [(0,lit (.int .i64 op)),(8,bt (jI op r (Hs.take k))),(18,btL Hs),(19,lit (.int .i64 Hs.length)),(20,lit (.int .i64 k))]) (fun _=>[]) 0 (Nat.zero_le _) lfA (List.nil_sublist _) ?_
 rintro k hk K hK;by_cases hkl:k<Hs.length
 ·obtain⟨x,hget,hmm,hat,hne⟩:=elt (f:=fun t=>[bt t]) (n:=1) (fun _=>rfl) om hkl;have c3:=step k x hget;have hgo:=fun F' H'=>hK F' H' (k+1) om om
  generalize jI op r (Hs.take (k+1))=u at *;generalize jI op r (Hs.take k)=v at *;clear hK hget hmm step c1 c2;repeat(refine A1 ⟨?_⟩;intros)
  refine Wo (a7 (cs':=[bt x]) rfl rfl om om hat hne) ?_;repeat(first|(refine A1 ⟨?_⟩;intros)|refine W4 c3 ⟨?_⟩)
  exact hgo _ _ lfA (List.nil_sublist _)
 ·have hke:k=Hs.length:=by omega
  subst hke;rw [List.take_length]at *;clear hK step c1 c2;repeat(refine A1 ⟨?_⟩;intros)
  exact G2
end Go.Ab
namespace Go.Ab
open Go.Proofs
variable [Base]
theorem wP {L:List Li}(hL:∀l∈L,l.ok){u:Tr}(hu:u.lin L):∀x∈fC (cV u),Gd L x:=fun x hx=>by
 unfold fC at hx;obtain⟨c,hc,rfl⟩:=List.mem_map.1 hx;obtain⟨i,_,rfl⟩:=List.mem_map.1 (List.mem_filter.1 hc).1;exact Gd.restr hL (o6 hu)
def u9 (t:Tr):Tr:=jI 1 (a8 t []) (fC (cV (aN (a8 t []))))
theorem Lf {L:List Li}(hL:∀l∈L,l.ok){t:Tr}(ht:t.lin L):Gd L (u9 t) :=
 rC hL _ (Gd.restr hL ht) fun x hx=>(wP hL (Gd.restr hL ht).not.1 x hx).1
theorem Gx.lne {L:List Li}{t:Tr}(h:Gx L t):LnE L 1:=⟨h.ok,fun l hl=>(h.sm l hl).2,om,om,by have:=h.len;omega⟩
theorem Gx.fill {L:List Li}{t:Tr}(h:Gx L t):Gx L (u9 t):=⟨h.len,h.sm,Lf h.ok h.g.1⟩
theorem Eh {L:List Li}{t:Tr}(h:Gx L t):Pu Tryz.prog 16 [tq t] (Ab.tup [tq (u9 t),lit .nilIface]):=by
 have hr:=h.restr;have hn:=hr.not;have hd:=h.dep;have hrd:=hr.dep;have hsz:=h.size;have hf:=h.fill;have hfs:=hf.size;have hhl:(fC (cV (aN (a8 t [])))).length≤651:=by have:=ti (cV (aN (a8 t [])));have:=hn.clen;omega
 have ha1:=e7 (q:=fun l=>l.le 1) (fun l (hl:l.sm)=>hl.2) h.all;have cof:=AR t (e7 (q:=fun l=>l.ok∧l.le 100000) (fun l (hl:l.sm)=>⟨hl.1,hl.2.gr om⟩) h.all) (by rw [iw];omega);have c1:=rI (L:=1) om om ha1 h.lok cof om;have c2:=pw hn.comps (by have:=hn.clen;omega)
 have c3:=Il h.lne 1 om hr.g.1 om (Hs:=fC (cV (aN (a8 t [])))) (fun x hx=>by
  have g:=wP h.ok hn.g.1 x hx;have:=g.dep;have:=h.len;exact⟨g.1,om⟩) om
 rw [xQ h.ok h.g.1]at c3;have c4:=B0 (u9 t) (e7 (fun l hl=>Li.sm.ile hl) hf.all) (by rw [iw];omega);clear cof ha1 hfs hf hsz hrd hd hn hr h hhl;unfold u9 at *;generalize jI 1 (a8 t []) (fC (cV (aN (a8 t []))))=y at *;generalize fC (cV (aN (a8 t [])))=Hs at *;generalize a8 t []=r at *;refine Pi Tryz.func16 fun C=>?_
 repeat(first|(refine Wo (aB (sv:=ag _) rfl) ?_)|(refine Wdo (aB (sv:=ag _) rfl) ?_)|(refine A1 ⟨?_⟩;intros)|refine W4 c1 ⟨?_⟩|refine W4 c2 ⟨?_⟩|refine W4 c3 ⟨?_⟩|refine W4 c4 ⟨?_⟩)
 exact G3
theorem Gx.rp {L:List Li}{t:Tr}(h:Gx L t):fC (cV (aN (a8 t [])))=(bA (aN t)).filter rbT:=by
 have hn:=h.restr.not;rw [hn.hol,hn.fst];unfold bA;rw [fW]
theorem ET {L:List Li}{t:Tr}(h:Gx L t):Pu Tryz.prog 17 [rt t] (rt (u9 t)):=by
 have hr:=h.restr;have hn:=hr.not;have hd:=h.dep;have hv:=h.lv
 have hin2:jF (a8 (aN t) [])≤(cB (aF (a8 (aN t) []) [])).length:=by
  rw [fW,nu hn.lok hn.g.2];exact Nat.le_refl _
 have c1:=fL t h.all om;have c2:=uC h.all om om hin2;rw [←h.rp]at c2;have hhl:(fC (cV (aN (a8 t [])))).length≤651:=by have:=ti (cV (aN (a8 t [])));have:=hn.clen;omega
 have hH:=wP h.ok hn.g.1;unfold u9;generalize fC (cV (aN (a8 t [])))=Hs at *;have hrg:=hr.g
 have step:∀k x,Hs[k]? = some x→Pu Tryz.prog 38 [lit (.int .i64 1),rt (jI 1 (a8 t []) (Hs.take k)),rt x,lit (.slice none 0 0)] (rt (jI 1 (a8 t []) (Hs.take (k+1)))):=fun k x hk=>by
  have hg:Gd L (jI 1 (a8 t []) (Hs.take k)):=rC h.ok _ hrg fun y hy=>(hH y (List.mem_of_mem_take hy)).1
  have hx:=hH x (List.mem_of_getElem? hk);have hd1:=hg.dep;have hd2:=hx.dep;have hl:=h.len;rw [vI 1 _ Hs k hk];have c:=gE 1 om x (nA h.sm hx) (jI 1 (a8 t []) (Hs.take k)) [] (nA h.sm hg) (fun m h=>by cases h) (by simp only [List.length_nil];omega);exact c.arg (l':=[lit (.int .i64 1),rt (jI 1 (a8 t []) (Hs.take k)),rt x,lit (.slice none 0 0)]) ⟨Le.refl _,Le.refl _,Le.refl _,dJ,trivial⟩
 clear hr hn hd hv hin2 hH hrg h;generalize a8 t []=r at *;refine Pi Tryz.func17 fun C=>?_
 repeat(first|(refine A1 ⟨?_⟩;intros)|refine W4 c1 ⟨?_⟩|refine W4 c2 ⟨?_⟩)
 refine WP.loopS (ι:=Nat) (fun k=>k≤Hs.length) (fun k=>Hs.length-k)
  (fun k=>fm [(3,rt (jI 1 r (Hs.take k))),(9,rts Hs),(10,lit (.int .i64 Hs.length)),(11,lit (.int .i64 k))]) (fun _=>[]) 0 (Nat.zero_le _) lfA (List.nil_sublist _) ?_
 rintro k hk K hK;by_cases hkl:k<Hs.length
 ·obtain⟨x,hget,hmm,hat,hne⟩:=elt (f:=fun t=>[rt t]) (n:=1) (fun _=>rfl) om hkl;have c3:=step k x hget;have hgo:=fun F' H'=>hK F' H' (k+1) om om
  generalize jI 1 r (Hs.take (k+1))=u at *;generalize jI 1 r (Hs.take k)=v at *;clear hK hget hmm step c1 c2;repeat(refine A1 ⟨?_⟩;intros)
  refine Wo (a7 (cs':=[rt x]) rfl rfl om om hat hne) ?_;repeat(first|(refine A1 ⟨?_⟩;intros)|refine W4 c3 ⟨?_⟩)
  exact hgo _ _ lfA (List.nil_sublist _)
 ·have hke:k=Hs.length:=by omega
  subst hke;rw [List.take_length]at *;clear hK step c1 c2;exact Z1
theorem po (zs:List Int) (hz:zs.length≤9223372036854775807):Pu Tryz.prog 4 [nsl .i64 zs] (lit (.bool true)):=by
 have hk:(zs.take (min zs.length 400)).length≤400:=by simp;omega
 have hnew:=FO zs hz;generalize zs.take (min zs.length 400)=ys at *;have hreg:=tc ys hk;clear hz;refine Pi Tryz.func4 fun C=>?_
 repeat(refine A1 ⟨?_⟩;intros)
 refine WPL.callN hnew rfl rfl fun bb=>?_
 repeat(refine A1 ⟨?_⟩;intros)
 refine Wtx hreg mmA fun t=>?_
 obtain⟨t,L,h1,h2,h3⟩:=t;simp only [];have h:Gx L t:=⟨om,h2,h3⟩
 have hz:=h.size;have hf:=h.fill;have hfz:=hf.size;have w:=jO t (e7 (fun l hl=>Li.sm.ile hl) h.all) (by rw [iw];omega);have w2:=jO (u9 t) (e7 (fun l hl=>Li.sm.ile hl) hf.all) (by rw [iw];omega);have w3:=xG (u9 t) (e7 (fun l hl=>Li.sm.ile hl) hf.all) (by rw [iw];omega);have c1:=Eh h;have c2:=ET h;clear hreg hnew h1 h2 h3 hf hfz hz h;generalize u9 t=y at *;repeat(first|(refine A1 ⟨?_⟩;intros)|refine W4 w ⟨?_⟩|refine W4 c1 ⟨?_⟩)
 repeat' (first|(refine A1 ⟨?_⟩;intros)|refine W4 Ar ⟨?_⟩|refine W4 c2 ⟨?_⟩|refine W4 w2 ⟨?_⟩|refine W4 w3 ⟨?_⟩|exact WPI.nil|refine And.intro ?_ ?_)
 exact E1
open Go.ChangeShapes Go.WideShapes Go.ChangeAt Go.RowKit
section
variable {H:Type}{enc:TypeId×Value→H}{P:Program}{w:World}{sp:Nat→Bool}{held:Bool}
def qq (w:World):Mem:=fun b=>w.heap[b]?
theorem FW (w:World) (h:Base.mem.le (qq w)):bw (qq w) w:=⟨fun _ _ h=>h,h⟩
def Opn (enc:TypeId×Value→H) (P:Program) (w:World) (sp:Nat→Bool) (held:Bool) (T:TypeId) (G:List SV→Prop):Prop :=
 ∀fuel cs x,DataW.trod enc P w 0 sp held fuel T cs=some x→∃svs,G svs∧av (qq w) svs cs
def GInt (k:IntKind):List SV→Prop:=fun l=>∃n,(Lit.int k n).wf=true∧l=[lit (.int k n)]
def Mo (k:IntKind):List SV→Prop:=fun l=>∃zs:List Int,(∀z∈zs,(Lit.int k z).wf=true)∧zs.length≤maxLen∧l=[nsl k zs]
def GSl (k:Nat) (G:List SV→Prop):List SV→Prop:=fun l=>∃es:List (List SV),(∀e∈es,G e∧e.length=k)∧es.length≤maxLen∧l=[sl es.flatten es.length]
theorem tT {m:Mem}{s:SV}{v:Value}(h:s.p m v) (f:v.oneCell'=true):av m [s] [v]:=⟨⟨h,f⟩,trivial⟩
theorem IY {T:TypeId}{k:IntKind} [hT:TIn P T k]:Opn enc P w sp held T (GInt k):=fun fuel cs x h=>by
 obtain⟨n,rfl,_,hw⟩:=DataW.trod_int hT.h h;exact⟨_,⟨n,hw,rfl⟩,tT (ae.2 rfl) rfl⟩
theorem mJ {a:Addr}{n:Nat}{cs:List Value}(h:w.cells? 0 a n=some cs):cs.length=n∧∀j,j<n→w.cell? (a.add j)=cs[j]?:=by
 unfold World.cells? at h;rw [if_pos (Nat.zero_le _)]at h;have hl:=mapM_some_length h;refine⟨by simpa using hl,fun j hj=>?_⟩;have:=mapM_some_get h j j (by simp [hj]);simpa using this
theorem tt {m:Mem}{f:Nat→List SV}{k:Nat}{vs:List Value}:∀{n:Nat},(∀i,i<n→(f i).length=k∧av m (f i) ((vs.drop (i*k)).take k))→av m ((List.range n).map f).flatten (vs.take (n*k))
 |0,_=>by simp [av]
 |n+1,h=>by
  have h1:=tt (n:=n) fun i hi=>h i om
  have h2:=(h n om).2;have:=h1.append h2;rw [List.range_succ,List.map_append,List.flatten_append,show(n+1)*k=n*k+k from by rw [Nat.add_mul,Nat.one_mul],List.take_add];simpa using this
theorem D8 {T e:TypeId}{k:Nat}{G:List SV→Prop} [hT:TSl P T e] (hk:P.cellsOf e=k) (hk0:0<k) (hG:Opn enc P w sp held e G):Opn enc P w sp held T (GSl k G):=fun fuel cs x h=>by
 rcases Deep.open_slice hT.h h with⟨rfl,_⟩|⟨a,len,cap,m,n,Dd,Pl,rfl,_,hlc,hcm,hm,_,hx⟩
 ·exact⟨_,⟨[],by simp,by simp,rfl⟩,tT (fj (by simp) (by simp [maxLen]) (.inl rfl)) rfl⟩
 ·have hlm:len≤m:=by rw [hm];split <;> omega
  have hcell:∀i,i<len→∃l,G l∧l.length=k∧∃cs',w.cells? 0 (a.add (i*k)) k=some cs'∧av (qq w) l cs':=fun i hi=>by
   obtain⟨cs',h1,h2⟩:=hx i om;rw [hk]at h1;obtain⟨l,g1,g2⟩:=hG _ _ _ h2;exact⟨l,g1,by rw [←g2.length,(mJ h1).1],cs',h1,g2⟩
  have hch:∀i:Nat,∃l,i<len→G l∧l.length=k∧∃cs',w.cells? 0 (a.add (i*k)) k=some cs'∧av (qq w) l cs':=fun i=>by
   by_cases hi:i<len
   ·obtain⟨l,hl⟩:=hcell i hi;exact⟨l,fun _=>hl⟩
   ·exact⟨[],fun h=>absurd h hi⟩
  obtain⟨f,hf⟩:=Classical.axiomOfChoice hch;refine⟨_,⟨(List.range len).map f,fun l hl=>?_,by simp;omega,rfl⟩,tT (v := .slice (some a) len cap) ?_ rfl⟩
  ·obtain⟨i,hi,rfl⟩:=List.mem_map.1 hl;have:=hf i (by simpa using hi);exact⟨this.1,this.2.1⟩
  ·rw [List.length_map,List.length_range];refine fj hlc hcm ?_;rcases Nat.eq_zero_or_pos len with h0|h0
   ·left;subst h0;rfl
   ·right;obtain⟨_,hl0,cs0,hc0,_⟩:=hf 0 h0;have hcc:=(mJ hc0).2 0 hk0;rw [Nat.zero_mul]at hcc;have hcl:=(mJ hc0).1;rw [List.getElem?_eq_getElem om]at hcc;obtain⟨b,off,spot⟩:=a;have hs:spot=none:=by simpa [Addr.add] using World.cell?_spot hcc
    subst hs;simp only [aM,Nat.add_zero]at hcc
    have hb:∃arr T fz,w.heap[b]? = some (.cells arr T fz):=by
     unfold World.cell? at hcc;cases hbb:w.heap[b]? with
     |none=>simp [hbb]at hcc
     |some o=>cases o with
      |cells arr T fz=>exact⟨arr,T,fz,rfl⟩
      |_=>simp [hbb]at hcc
    obtain⟨arr,T',fz,hb⟩:=hb;refine⟨b,off,rfl,arr,T',fz,hb,?_⟩
    have hfl:((List.range len).map f).flatten.length=len*k:=by
     have:∀n,n≤len→((List.range n).map f).flatten.length=n*k:=by
      intro n;induction n with
      |zero=>intro _;simp
      |succ n ih=>intro hn;rw [List.range_succ,List.map_append,List.flatten_append,List.length_append,ih om];simp [(hf n om).2.1,Nat.add_mul]
     exact this len (Nat.le_refl _)
    rw [hfl];refine tt fun i hi=>?_
    obtain⟨_,hl,cs',hc,ha⟩:=hf i hi;refine⟨hl,?_⟩
    have hcs:cs'=((arr.toList.drop off).drop (i*k)).take k:=by
     obtain⟨g1,g2⟩:=mJ hc;apply List.ext_getElem?;intro j;by_cases hj:j<k
     ·have h1:=g2 j hj;simp only [aM]at h1;rw [cF w b _ arr _ _ hb]at h1;rw [List.getElem?_take_of_lt hj,List.getElem?_drop,List.getElem?_drop,←h1];simp [Nat.add_assoc]
     ·rw [List.getElem?_eq_none om,List.getElem?_eq_none (by rw [List.length_take];omega)]
    rw [←hcs];exact ha
theorem yd {T e:TypeId}{k:IntKind} [hT:TSl P T e] [hE:TIn P e k] (hk:P.cellsOf e=1):Opn enc P w sp held T (Mo k):=fun fuel cs x h=>by
 obtain⟨svs,⟨es,hes,hl,rfl⟩,ha⟩:=D8 (k:=1) hk om (IY (k:=k)) fuel cs x h;refine⟨_,?_,ha⟩
 have:∃zs:List Int,(∀z∈zs,(Lit.int k z).wf=true)∧es=zs.map fun z=>[lit (.int k z)]:=by
  clear ha hl;induction es with
  |nil=>exact⟨[],by simp,rfl⟩
  |cons e es ih =>
   obtain⟨zs,h1,h2⟩:=ih fun x hx=>hes x (by simp [hx])
   obtain⟨⟨z,hz,rfl⟩,_⟩:=hes e (by simp);exact⟨z::zs,by simpa using ⟨hz,h1⟩,by rw [h2];rfl⟩
 obtain⟨zs,h1,rfl⟩:=this;refine⟨zs,h1,by simpa using hl,?_⟩
 have hfl:(zs.map fun z=>[lit (.int k z)]).flatten=zs.map fun z=>lit (.int k z):=by
  clear hl hes ha h1;induction zs with
  |nil=>rfl
  |cons z zs ih=>simp [ih]
 rw [hfl,List.length_map];unfold nsl;rfl
end
end Go.Ab
namespace Go.Ab
open Go.Proofs
variable [Base]
open Go.ChangeShapes Go.WideShapes Go.ChangeAt Go.RowKit
theorem zl {P:Program}{f:FuncId}{args:List SV}{W:World}{vs:List Value}(hB:Base.mem.le (qq W)) (h:Pu P f args (lit (.bool true))) (ha:be (qq W) args vs) :
  Calls P f vs.toArray W fun e w'=>e = .returned (.bool true)∧Below W.heap.size W w':=by
 unfold Pu at h;refine(h.2 _ W vs (FW W hB) ha).mono ?_;rintro e w' ⟨v,m',rfl,hv,_,hr⟩;rw [ae]at hv;subst hv;exact⟨rfl,hr.os,hr.tape,hr.output,hr.size,fun k hk=>hr.block k hk (by simp)⟩
theorem LQ:ownKnob Tryz.prog.godebug=none:=by kernel_rfl
theorem yz:laidOutB Tryz.prog=true:=by kernel_rfl
section
variable {H:Type}{enc:TypeId×Value→H}{W:World}{sp:Nat→Bool}{held:Bool}
end
end Go.Ab
namespace Go.Ab
open Go.Proofs
variable [Base]
open Go.ChangeShapes Go.WideShapes Go.ChangeAt Go.RowKit
abbrev HA (W:World):Base:=⟨qq W⟩
end Go.Ab
namespace Go.Ab
open Go.Proofs
variable [Base]
open Go.ChangeShapes Go.WideShapes Go.ChangeAt Go.RowKit
end Go.Ab
