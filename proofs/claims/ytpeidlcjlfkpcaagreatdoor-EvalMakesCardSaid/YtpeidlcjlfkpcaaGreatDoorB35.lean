/- Texts laid one behind the other: List, Deep, Arr, Part, RRes, RNode, Shape, RPart, Expr, StkP, BndP. -/
import Derived.Test.YtpeidlcjlfkpcaaGreatDoorB34
set_option linter.all false
set_option maxHeartbeats 16000000
namespace Go.Ab
open Go.Proofs
variable [Base]
def ics (l:List Nat):List SV:=l.map fun s=>lit (.int .i64 (s:Nat))
theorem PB (l:List Nat):(ics l).length=l.length:=by simp [ics]
theorem uS {l:List Nat}{i:Nat}(h:i<l.length):(ics l)[i]? = some (lit (.int .i64 (l.getD i 0:Nat))):=by simp [ics,List.getD,h]
theorem Pz {l:List Nat}{i:Nat}(x:Nat):spl (ics l) i [lit (.int .i64 (x:Nat))]=ics (l.set i x):=by
 unfold ics;simp only [spl,List.map_set]
theorem PA (k:Nat):List.replicate k (lit (.int .i64 0))=ics (List.replicate k 0):=by simp [ics]
theorem Ch {l:List Nat}{i:Nat}(h:i<l.length):Nat.ble (i+1) (ics l).length=true:=by
 apply ly;rw [PB];omega
def ka (ss:List Nat) (n:Nd):Option Nat :=
 if okN n=true then
  if n.k=5 then(if 0<ss.length∧n.x=(ss.length:Int)-1 then some (1+ss.getD (ss.length-1) 0)else none)
  else if n.k=6 then
   (if(0<ss.length∧n.y=(ss.length:Int)-1)∧ss.getD (ss.length-1) 0+1≤ss.length∧n.x=(ss.length:Int)-1-(ss.getD (ss.length-1) 0:Nat)then some (1+ss.getD (ss.length-1) 0+ss.getD (ss.length-1-ss.getD (ss.length-1) 0) 0)else none)
  else some 1
 else none
def pe:List Nd→List Nat→Option (List Nat)
 | [],ss=>some ss
 |n::ns,ss=>match ka ss n with
  |some s=>pe ns (ss++[s])
  |none=>none
def okL (ns:List Nd):Bool:=match pe ns []with
 |some ss=>decide (0<ns.length)&&decide (ss.getD (ns.length-1) 0=ns.length)
 |none=>false
theorem tG (n:Nd) (ns:List Nd) (ss:List Nat):pe (n::ns) ss=match ka ss n with
  |some s=>pe ns (ss++[s])
  |none=>none:=rfl
theorem yM {l:List Nat}{i:Nat}{z:Int}(x:Nat) (h:z=(x:Nat)):spl (ics l) i [lit (.int .i64 z)]=ics (l.set i x):=by subst h;exact Pz x
theorem Dp {ns:List Nd}(h:pe ns []=none):okL ns=false:=by unfold okL;rw [h]
theorem kq (n:Nd):(ndx n).length=19:=rfl
theorem we {α:Type}{l:List α}{k:Nat}{x:α}(h:l[k]? = some x):l.drop k=x::l.drop (k+1):=by
 obtain⟨hk,rfl⟩:=bI.1 h;exact jO hk
theorem Ic {os:List Nat}{k x:Nat}(h:k<os.length):(os.set k x).take (k+1)=os.take k++[x]:=by
 rw [sP];congr 1
 ·rw [List.take_set];apply List.set_eq_of_length_le;rw [aC];omega
 ·simp [h]
theorem vL {os:List Nat}{k j:Nat}(h:j<k):(os.take k).getD j 0=os.getD j 0:=by
 simp only [List.getD,eE,if_pos h]
theorem vg (ns:List Nd){L:Nat}(hok:∀n∈ns,n.ok L) (hL:L≤1000) (hlen:ns.length≤100000):PuH Tryz.prog 167 [sl (ns.map ndx).flatten ns.length] [] (fun r H=>okL ns=true∧r=Ab.tup []∧H=[]) (fun pv _=>okL ns=false∧pv=inval):=by
 by_cases h0:ns.length=0
 ·refine PuH.intro Tryz.func167 rfl kr fun C hC=>?_
  refine A2 ⟨?_⟩;intros;refine dr ?_;rw [hC];have e:ns=[]:=cT h0;subst e;exact⟨rfl,rfl⟩
 ·refine PuH.intro Tryz.func167 rfl kr fun C hC=>?_
  refine A2 ⟨?_⟩;intros;refine dR ?_;refine A2 ⟨?_⟩;intros;refine WPL.make (k:=ns.length) rfl rfl om om rfl fun bb=>?_
  rw [PA];refine A2 ⟨?_⟩;intros
  refine WP.loopS (ι:=Nat×List Nat) (fun x=>x.1≤ns.length∧x.2.length=ns.length∧pe (ns.drop x.1) (x.2.take x.1)=pe ns []∧∀j,j<x.1→x.2.getD j 0≤j+1) (fun x=>ns.length-x.1)
   (fun x=>fm [(0,sl (ns.map ndx).flatten ns.length),(2,lit (.slice (some ⟨bb,0,none⟩) ns.length ns.length)),(13,sl (ns.map ndx).flatten ns.length),(14,lit (.int .i64 ns.length)),(15,lit (.int .i64 x.1))]) (fun x=>[(bb,3,ics x.2)]) (0,List.replicate ns.length 0)
   ⟨an _,by simp,by simp,fun j hj=>by omega⟩ lfA Sr ?_
  rintro ⟨k,os⟩ ⟨hk,hol,hsz,hb⟩ K hK;simp only at hk hol hsz hb⊢;by_cases hkl:k<ns.length
  ·have hget:=aA hkl;generalize ns[k]=n at hget;have hmem:n∈ns:=bn hget;have hat:=fV (f:=ndx) (n:=19) kq hget;have hne:(ns.map ndx).flatten≠[]:=gA kq om (fun e=>by rw [e]at hkl;simp at hkl);have c0:=Cf n (hok n hmem) hL;have hlt:(os.take k).length=k:=by rw [aC];omega
   rw [we hget,tG]at hsz;have hfail:ka (os.take k) n=none→okL ns=false:=fun h=>Dp (by rw [h]at hsz;exact hsz.symm)
   have hgo:∀s,ka (os.take k) n=some s→s≤k+1→∀F' H',LeF F' (fm [(0,sl (ns.map ndx).flatten ns.length),(2,lit (.slice (some ⟨bb,0,none⟩) ns.length ns.length)),(13,sl (ns.map ndx).flatten ns.length),(14,lit (.int .i64 ns.length)),(15,lit (.int .i64 (k+1:Nat)))])→[(bb,3,ics (os.set k s))].Sublist H'→K F' H':=fun s hs hle F' H' h1 h2 =>
    hK F' H' (k+1,os.set k s) ⟨by simp only;omega,by simp only;rw [gG];exact hol,by
     simp only;rw [hs]at hsz;rw [Ic om];exact hsz,fun j hj=>by
     simp only at hj⊢;by_cases hjk:j=k
     ·subst hjk;simp only [List.getD,List.getElem?_set_self (show j<os.length by omega),kW];exact hle
     ·have:=hb j om;simp only [List.getD,List.getElem?_set_ne (lG hjk)]at this⊢;exact this⟩ (by simp only;omega) h1 h2
   clear hK hsz;refine A2 ⟨?_⟩;intros;refine Wo (ae (cs':=ndx n) rfl rfl om om hat hne) ?_;refine A2 ⟨?_⟩;intros;refine WfX c0 ?_ ?_
   case refine_2 =>
    rintro _ _ ⟨e,rfl⟩;rw [hC];exact⟨hfail (by unfold ka;rw [if_neg (by rw [e];decide)]),rfl⟩
   rintro _ _ ⟨e,rfl,rfl⟩;simp only [ab,a8,bd];by_cases k5:n.k=5
   case pos =>
    by_cases hk0:0<k
    case neg =>
     refine A2 ⟨?_⟩;intros;refine dr ?_;rw [hC];exact⟨hfail (by unfold ka;rw [if_pos e,if_pos k5,hlt,if_neg (fun h=>hk0 h.1)]),rfl⟩
    by_cases hx:n.x=(k:Int)-1
    case neg =>
     refine A2 ⟨?_⟩;intros;refine dr ?_;rw [hC];exact⟨hfail (by unfold ka;rw [if_pos e,if_pos k5,hlt,if_neg (fun h=>hx h.2)]),rfl⟩
    have hs:ka (os.take k) n=some (1+os.getD (k-1) 0):=by
     unfold ka;rw [if_pos e,if_pos k5,hlt,if_pos ⟨hk0,hx⟩,vL om]
    have hb1:=hb (k-1) om;have hgo':=hgo _ hs om;clear hgo hfail hs hb;refine A2 ⟨?_⟩;intros;refine dR ?_;refine A2 ⟨?_⟩;intros;refine Wo (eG rfl mmA (uS om)) ?_;refine A2 ⟨?_⟩;intros;refine WPL.store (b:=bb) (o:=k) (sv:=lit (.int .i64 (1+(os.getD (k-1) 0:Nat)))) (cs':=ics (os.set k (1+os.getD (k-1) 0))) rfl rfl rfl (.there _ (.here _)) (yM _ om) (Ch om) ?_;refine A2 ⟨?_⟩;intros;exact hgo' _ _ lfA (Sc Sr)
   by_cases k6:n.k=6
   case pos =>
    by_cases hk0:0<k
    case neg =>
     refine A2 ⟨?_⟩;intros;refine dr ?_;rw [hC];exact⟨hfail (by unfold ka;rw [if_pos e,if_neg k5,if_pos k6,hlt,if_neg (fun h=>hk0 h.1.1)]),rfl⟩
    by_cases hy:n.y=(k:Int)-1
    case neg =>
     refine A2 ⟨?_⟩;intros;refine dr ?_;rw [hC];exact⟨hfail (by unfold ka;rw [if_pos e,if_neg k5,if_pos k6,hlt,if_neg (fun h=>hy h.1.2)]),rfl⟩
    have hb1:=hb (k-1) om
    have hs0:ka (os.take k) n=(if(0<k∧n.y=(k:Int)-1)∧os.getD (k-1) 0+1≤k∧n.x=(k:Int)-1-(os.getD (k-1) 0:Nat)then some (1+os.getD (k-1) 0+(os.take k).getD (k-1-os.getD (k-1) 0) 0)else none):=by
     unfold ka;rw [if_pos e,if_neg k5,if_pos k6,hlt,vL om]
    refine A2 ⟨?_⟩;intros;refine dR ?_;refine A2 ⟨?_⟩;intros;refine Wo (eG rfl mmA (uS om)) ?_;generalize hs1:os.getD (k-1) 0=s1 at *;by_cases hl:s1+1≤k
    case neg =>
     refine A2 ⟨?_⟩;intros;refine dr ?_;rw [hC];exact⟨hfail (by rw [hs0,if_neg (fun h=>hl h.2.1)]),rfl⟩
    by_cases hx:n.x=(k:Int)-1-(s1:Nat)
    case neg =>
     refine A2 ⟨?_⟩;intros;refine dr ?_;rw [hC];exact⟨hfail (by rw [hs0,if_neg (fun h=>hx h.2.2)]),rfl⟩
    rw [if_pos ⟨⟨hk0,hy⟩,hl,hx⟩,vL om]at hs0;have hb2:=hb (k-1-s1) om;have hgo':=hgo _ hs0 om;clear hgo hfail hs0 hb;refine A2 ⟨?_⟩;intros;refine dR ?_;refine A2 ⟨?_⟩;intros;refine Wdo (eG rfl mmA (uS om)) ?_;rw [hs1];refine A2 ⟨?_⟩;intros;rw [show((k:Int)-1-(s1:Int)).toNat*1=k-1-s1 by omega];refine Wdo (eG rfl mmA (uS om)) ?_;refine A2 ⟨?_⟩;intros;refine WPL.store (b:=bb) (o:=k) (sv:=lit (.int .i64 (1+s1+(os.getD (k-1-s1) 0:Nat)))) (cs':=ics (os.set k (1+s1+os.getD (k-1-s1) 0))) rfl rfl rfl (.there _ (.here _)) (yM _ om) (Ch om) ?_;refine A2 ⟨?_⟩;intros;exact hgo' _ _ lfA (Sc Sr)
   have hs:ka (os.take k) n=some 1:=by
    unfold ka;rw [if_pos e,if_neg k5,if_neg k6]
   have hgo':=hgo _ hs om;clear hgo hfail hs hb;refine A2 ⟨?_⟩;intros;refine WPL.store (b:=bb) (o:=k) (sv:=lit (.int .i64 1)) (cs':=ics (os.set k 1)) rfl rfl rfl (.there _ (.here _)) (yM _ rfl) (Ch om) ?_;refine A2 ⟨?_⟩;intros;exact hgo' _ _ lfA (Sc Sr)
  ·have hke:k=ns.length:=by omega
   subst hke;rw [eL,dz om]at hsz;have hz:okL ns=(decide (0<ns.length)&&decide (os.getD (ns.length-1) 0=ns.length)):=by unfold okL;rw [←hsz];rfl
   clear hK;have hb1:=hb (ns.length-1) om;clear hb hsz;refine A2 ⟨?_⟩;intros;refine Wo (eG rfl mmA (uS om)) ?_;by_cases hf:os.getD (ns.length-1) 0=ns.length
   ·refine A2 ⟨?_⟩;intros;refine dR ?_;refine A2 ⟨?_⟩;intros;exact gB _ _ jv (av _) ⟨by rw [hz,a9 hf,a9 om];rfl,rfl,rfl⟩
   ·refine A2 ⟨?_⟩;intros;refine dr ?_;rw [hC];exact⟨by rw [hz,aa hf,aS],rfl⟩
section
variable {P:Program}{C:Ctx}{n:Nat}{F:Fr}{H:LH}{ops:Array Oper}{K:Fr→LH→Prop}{rest:List Oper}{ty:TypeId}{pos:String}{aft:Array Edge}
theorem WvX {x:Operand}{f:FuncId}{first caps:List SV}{d:Nat}{l:List Operand}{tys:Array TypeId}{svs:List SV}{Hin Rs:LH}{R X:SV→LH→Prop}(hc:PuH P f svs Hin R X) (k:∀res H',R res H'→WPL P C n ops rest K (upd F d res) (Rs++H')) (kx:∀pv H',X pv H'→C.pan pv (H'++Rs))
  (hs:Tk H Hin Rs) (hx:ev F x=fnv f first caps:=by exact rfl) (ha:first++l.map (ev F)++caps=svs:=by exact rfl) (hd:Nat.blt d n=true:=by exact rfl) :
  WPL P C n ops (⟨some d, .call ⟨.value x,l.toArray,tys⟩,ty,pos,aft,none⟩::rest) K F H :=
 .perm hs.perm (.callH hx hc (Spl.app _ _) ha hd (fun res H' h => .perm aG (k res H' h)) fun pv H' h=>kx pv H' h)
end
theorem B4 {w d f:Nat}{l l':List UInt8}{H Hc:LH}{caps:List SV}{good:Bool}(h:Wtr w l d H) (hd:d<200)
  (hc:∀H1,Wtr w l (d+1) H1→PuH Tryz.prog f caps (Hc++H1) (fun r H'=>good=true∧r=Ab.tup []∧∃H2,H'=Hc++H2∧Wtr w l' (d+1) H2) (fun pv _=>good=false∧pv=inval)) :
  PuH Tryz.prog 219 [lit (.pointer (some ⟨w,0,none⟩)),fnv f [] caps] (H++Hc) (fun r H'=>good=true∧r=Ab.tup []∧∃H2,H'=H2++Hc∧Wtr w l' d H2) (fun pv _=>good=false∧pv=inval):=by
 obtain⟨a,s,Hb,ha,hb,rfl⟩:=h;refine PuH.intro Tryz.func219 rfl kr fun C hC=>?_
 simp only [ab];refine A2 ⟨?_⟩;intros;refine dR ?_;refine A2 ⟨?_⟩;intros;refine WPL.perm (aG (l₁:=(w,307,wrC a s (d+1) false)::Hb) (l₂:=Hc)) ?_;refine WvX (hc _ ⟨a,s,Hb,ha,hb,rfl⟩) ?_ ?_ (Tk.same _)
 ·rintro _ _ ⟨g,rfl,_,rfl,a',s',Hb',ha',hb',rfl⟩;simp only [a8];refine WPL.perm aG ?_;simp only [ab];refine A2 ⟨?_⟩;intros;exact gB _ _ jv Sr ⟨g,rfl,(w,307,wrC a' s' d false)::Hb',by rw [show((d+1:Nat):Int)-1=(d:Int) by omega];rfl,a',s',Hb',ha',hb',rfl⟩
 ·rintro _ _ ⟨g,rfl⟩;rw [hC];exact⟨g,rfl⟩
inductive Ex
 |leaf (n:Nd)
 |un (n:Nd) (x:Ex)
 |bi (n:Nd) (l r:Ex)
def Ex.top:Ex→Nd
 | .leaf n=>n
 | .un n _=>n
 | .bi n _ _=>n
def Ex.size:Ex→Nat
 | .leaf _=>1
 | .un _ x=>1+x.size
 | .bi _ l r=>1+l.size+r.size
def rk (n:Nd):Int:=if n.k=6 then(if n.op=2 then 2 else 1)else 3
def Ex.At (ns:List Nd):Ex→Nat→Prop
 | .leaf n,i=>ns[i]? = some n∧1≤n.k∧n.k≤4
 | .un n x,i=>ns[i]? = some n∧n.k=5∧∃j:Nat,n.x=j∧x.At ns j
 | .bi n l r,i=>ns[i]? = some n∧n.k=6∧(1≤n.op∧n.op≤4)∧∃j k:Nat,n.x=j∧n.y=k∧l.At ns j∧r.At ns k
theorem Ex.At.top {ns:List Nd}:∀{t:Ex}{i:Nat},t.At ns i→ns[i]? = some t.top
 | .leaf _,_,h=>h.1
 | .un _ _,_,h=>h.1
 | .bi _ _ _,_,h=>h.1
def Ex.dep:Ex→Nat
 | .leaf _=>0
 | .un _ x=>(if rk x.top<3 then x.dep+1 else x.dep)+1
 | .bi n l r=>max (if rk l.top<rk n then l.dep+1 else l.dep) (if rk r.top<rk n+1 then r.dep+1 else r.dep)
theorem Ex.size_pos:∀t:Ex,1≤t.size
 | .leaf _=>au _
 | .un _ x=>by simp only [Ex.size];omega
 | .bi _ l r=>by simp only [Ex.size];omega
theorem Ex.dep_le:∀t:Ex,t.dep≤2*t.size
 | .leaf _=>an _
 | .un _ x=>by
  have:=x.dep_le;simp only [Ex.dep,Ex.size];split <;> omega
 | .bi _ l r=>by
  have h1:=l.dep_le;have h2:=r.dep_le;simp only [Ex.dep,Ex.size];split <;> split <;> omega
def pdp (lv:Int) (x:Ex):Nat:=if rk x.top<lv then x.dep+1 else x.dep
def sgn (op:Int):List UInt8:=if op=1 then [32,43,32]else if op=2 then [32,42,32]else if op=3 then [32,45,32]else [32,94,32]
def par (b:Bool) (s:List UInt8):List UInt8:=if b=true then [40]++s++[41]else s
def Ex.txt:Ex→List UInt8
 | .leaf n=>if n.k=1 then n.nm else if n.k=2 then [97,108,108]else if n.k=3 then [110,111,110,101]else [104,97,108,102]++Ad n.a n.b n.c n.e
 | .un _ x=>[126]++par (decide (rk x.top<3)) x.txt
 | .bi n l r=>par (decide (rk l.top<rk n)) l.txt++sgn n.op++par (decide (rk r.top<rk n+1)) r.txt
def Ex.good:Ex→Bool
 | .leaf n=>if n.k=1 then wO n.nm else if n.k=4 then(je n.a&&je n.b&&(je n.c&&je n.e))else true
 | .un _ x=>x.good
 | .bi _ l r=>l.good&&r.good
theorem mN (b:Bool) (s:List UInt8):s.length≤(par b s).length∧(par b s).length≤s.length+2:=by
 unfold par;split
 ·simp only [ac,aF,bq];omega
 ·omega
def oY (ns:List Nd) (w:Nat) (t:Ex) (i:Nat):Prop :=
 ∀(d:Nat) (l:List UInt8) (H:LH),Wtr w l d H→d+t.dep≤200→l.length+t.txt.length+2*t.size≤80000000→
  PuH Tryz.prog 168 [lit (.pointer (some ⟨w,0,none⟩)),sl (ns.map ndx).flatten ns.length,lit (.int .i64 i)] H (fun r H'=>t.good=true∧r=Ab.tup []∧Wtr w (l++t.txt) d H') (fun pv _=>t.good=false∧pv=inval)
theorem Dn {ns:List Nd}{w i d b4 b5 b6:Nat}{t:Ex}{l:List UInt8}{H:LH}(hp:oY ns w t i) (h:Wtr w l d H) (hd:d+t.dep≤200) (hl:l.length+t.txt.length+2*t.size≤80000000) :
  PuH Tryz.prog 260 [lit (.pointer (some ⟨b4,0,none⟩)),lit (.pointer (some ⟨b5,0,none⟩)),lit (.pointer (some ⟨b6,0,none⟩))]
   ([(b6,3,[lit (.int .i64 i)]),(b5,32,[sl (ns.map ndx).flatten ns.length]),(b4,249,[lit (.pointer (some ⟨w,0,none⟩))])]++H)
   (fun r H'=>t.good=true∧r=Ab.tup []∧∃H2,H'=[(b6,3,[lit (.int .i64 i)]),(b5,32,[sl (ns.map ndx).flatten ns.length]),(b4,249,[lit (.pointer (some ⟨w,0,none⟩))])]++H2∧Wtr w (l++t.txt) d H2) (fun pv _=>t.good=false∧pv=inval):=by
 have c:=hp d l H h hd hl;refine PuH.intro Tryz.func260 rfl kr fun C hC=>?_
 simp only [ab,a8];refine A2 ⟨?_⟩;intros;refine WfX c ?_ ?_
 ·rintro _ _ ⟨g,rfl,h'⟩;simp only [ab,a8];refine A2 ⟨?_⟩;intros;exact gB _ _ jv Sr ⟨g,rfl,_,rfl,h'⟩
 ·rintro _ _ ⟨g,rfl⟩;rw [hC];exact⟨g,rfl⟩
theorem tK {ns:List Nd}{w i d:Nat}{t:Ex}{l:List UInt8}{H:LH}(hns:ns.length≤100000) (hp:oY ns w t i) (hat:ns[i]? = some t.top) (h:Wtr w l d H) (m:Int) (hd:d+pdp m t≤200) (hl:l.length+t.txt.length+2*t.size+2≤80000000) :
  PuH Tryz.prog 221 [lit (.pointer (some ⟨w,0,none⟩)),sl (ns.map ndx).flatten ns.length,lit (.int .i64 i),lit (.int .i64 m)] H
   (fun r H'=>t.good=true∧r=Ab.tup []∧Wtr w (l++par (decide (rk t.top<m)) t.txt) d H') (fun pv _=>t.good=false∧pv=inval):=by
 have hil:i<ns.length:=(bI.1 hat).1;have hcut:=fV (f:=ndx) (n:=19) kq hat;have hne:(ns.map ndx).flatten≠[]:=gA kq om (fun e=>by rw [e]at hil;simp at hil);have c0:=GB t.top;change Pu _ _ _ (lit (.int .i64 (rk t.top)))at c0
 unfold pdp at hd;generalize hn:t.top=n at *;by_cases hr:m≤rk n
 ·rw [show par (decide (rk n<m)) t.txt=t.txt from by rw [aa om];rfl];rw [if_neg om]at hd;have c:=hp d l H h om om;refine PuH.intro Tryz.func221 rfl kr fun C hC=>?_
  refine A2 ⟨?_⟩;intros;refine Wo (ae (cs':=ndx n) rfl rfl om om hcut hne) ?_;refine D1 c0 ⟨?_⟩;intros;refine WfX c ?_ ?_
  ·rintro _ _ ⟨g,rfl,h'⟩;simp only [ab,a8];refine A2 ⟨?_⟩;intros;exact ct _ _ jv Sq ⟨g,rfl,h'⟩
  ·rintro _ _ ⟨g,rfl⟩;rw [hC];exact⟨g,rfl⟩
 ·rw [show par (decide (rk n<m)) t.txt=[40]++t.txt++[41]from by rw [a9 om];rfl];have k1:([40]:List UInt8).length=1:=rfl;have k2:([41]:List UInt8).length=1:=rfl;have k3:(l++[40]).length=l.length+1:=by simp
  have k4:(l++[40]++t.txt).length=l.length+1+t.txt.length:=by rw [ac,k3]
  rw [if_pos om]at hd;refine PuH.intro Tryz.func221 rfl kr fun C hC=>?_
  refine A2 ⟨?_⟩;intros;refine Wo (ae (cs':=ndx n) rfl rfl om om hcut hne) ?_;refine D1 c0 ⟨?_⟩;intros;refine WfH (jR h [40] om) ?_;rintro _ _ ⟨rfl,g1⟩;refine WPL.perm aG ?_;simp only [ab,a8];refine A2 ⟨?_⟩;intros;refine WPL.perm (aG (l₁:=[_,_,_])) ?_;refine WfX (B4 g1 om (fun H1 h1=>Dn hp h1 om om)) ?_ ?_ rfl (Tk.same _)
  ·rintro _ _ ⟨g,rfl,H2,rfl,g2⟩;simp only [a8];refine WPL.perm aG ?_;simp only [ab,a8];refine A2 ⟨?_⟩;intros;refine WfH (jR g2 [41] om) ?_;rintro _ _ ⟨rfl,g3⟩;refine A2 ⟨?_⟩;intros;exact gB _ _ jv (iS _ _) ⟨g,rfl,by rw [show l++40::(t.txt++[41])=l++[40]++t.txt++[41] by simp];exact g3⟩
  ·rintro _ _ ⟨g,rfl⟩;rw [hC];exact⟨g,rfl⟩
theorem LN {w d:Nat}{l:List UInt8}{H:LH}(h:Wtr w l d H) (s:List UInt8) (hs:s.length≤1000) (hl:l.length≤100000000) :
  PuH Tryz.prog 216 [lit (.pointer (some ⟨w,0,none⟩)),str s] H (fun r H'=>wO s=true∧r=Ab.tup []∧Wtr w (l++s) d H') (fun pv _=>wO s=false∧pv=inval):=by
 obtain⟨a,sb,Hb,ha,hb,rfl⟩:=h;refine(OX ha hb s hs hl d false).mono (fun r H'=>?_) fun pv H' h=>h
 rintro ⟨g,s',Hb',hb',rfl,rfl⟩;exact⟨g,rfl,_,_,_, .inr rfl,hb',rfl⟩
abbrev Bm:List SV:=[str [],str [32,43,32],str [32,42,32],str [32,45,32],str [32,94,32]]
theorem IG {ns:List Nd}{L:Nat}(hok:∀n∈ns,n.ok L) (hL:L≤200) (hns:ns.length≤100000) (w:Nat) (n:Nd) (i:Nat) (hat:(Ex.leaf n).At ns i):oY ns w (.leaf n) i:=fun d l H h hd hl=>by
  obtain⟨hat,hk1,hk4⟩:=hat;have hil:i<ns.length:=(bI.1 hat).1;have hcut:=fV (f:=ndx) (n:=19) kq hat;have hne:(ns.map ndx).flatten≠[]:=gA kq om (fun e=>by rw [e]at hil;simp at hil);obtain⟨na,nb,nc,ne,nn⟩:=hok n (bn hat);clear hok;by_cases k1:n.k=1
  ·rw [show(Ex.leaf n).txt=n.nm from by unfold Ex.txt;rw [if_pos k1]]at hl⊢;rw [show(Ex.leaf n).good=wO n.nm from by unfold Ex.good;rw [if_pos k1]];refine PuH.intro Tryz.func168 rfl kr fun C hC=>?_
   refine A2 ⟨?_⟩;intros;refine Wo (ae (cs':=ndx n) rfl rfl om om hcut hne) ?_;refine A2 ⟨?_⟩;intros;refine Wo (jl (e:=9) (len:=5) (cs:=Bm) kr (by repeat(first|exact dO.nil|(apply dO.cons;exact Eq.refl (lit _);infer_instance))) (by exact rfl)) ?_;refine A2 ⟨?_⟩;intros;refine WfX (LN h n.nm om om) ?_ ?_
   ·rintro _ _ ⟨g,rfl,h'⟩;simp only [ab,a8];refine A2 ⟨?_⟩;intros;exact gB _ _ jv (by repeat(first|exact Sr|exact iS _ _|refine Sc ?_)) ⟨g,rfl,h'⟩
   ·rintro _ _ ⟨g,rfl⟩;rw [hC];exact⟨g,rfl⟩
  by_cases k2:n.k=2
  ·rw [show(Ex.leaf n).txt=[97,108,108]from by unfold Ex.txt;rw [if_neg k1,if_pos k2]]at hl⊢;rw [show(Ex.leaf n).good=true from by unfold Ex.good;rw [if_neg om,if_neg om]];have q:([97,108,108]:List UInt8).length=3:=rfl;refine PuH.intro Tryz.func168 rfl kr fun C hC=>?_
   refine A2 ⟨?_⟩;intros;refine Wo (ae (cs':=ndx n) rfl rfl om om hcut hne) ?_;refine A2 ⟨?_⟩;intros;refine Wo (jl (e:=9) (len:=5) (cs:=Bm) kr (by repeat(first|exact dO.nil|(apply dO.cons;exact Eq.refl (lit _);infer_instance))) (by exact rfl)) ?_;refine A2 ⟨?_⟩;intros;refine WfH (jR h [97,108,108] om) ?_;rintro _ _ ⟨rfl,h'⟩;refine A2 ⟨?_⟩;intros;exact gB _ _ jv (by repeat(first|exact Sr|exact iS _ _|refine Sc ?_)) ⟨rfl,rfl,h'⟩
  by_cases k3:n.k=3
  ·rw [show(Ex.leaf n).txt=[110,111,110,101]from by unfold Ex.txt;rw [if_neg k1,if_neg k2,if_pos k3]]at hl⊢;rw [show(Ex.leaf n).good=true from by unfold Ex.good;rw [if_neg om,if_neg om]];have q:([110,111,110,101]:List UInt8).length=4:=rfl;refine PuH.intro Tryz.func168 rfl kr fun C hC=>?_
   refine A2 ⟨?_⟩;intros;refine Wo (ae (cs':=ndx n) rfl rfl om om hcut hne) ?_;refine A2 ⟨?_⟩;intros;refine Wo (jl (e:=9) (len:=5) (cs:=Bm) kr (by repeat(first|exact dO.nil|(apply dO.cons;exact Eq.refl (lit _);infer_instance))) (by exact rfl)) ?_;refine A2 ⟨?_⟩;intros;refine WfH (jR h [110,111,110,101] om) ?_;rintro _ _ ⟨rfl,h'⟩;refine A2 ⟨?_⟩;intros;exact gB _ _ jv (by repeat(first|exact Sr|exact iS _ _|refine Sc ?_)) ⟨rfl,rfl,h'⟩
  have k4:n.k=4:=by omega
  rw [show(Ex.leaf n).txt=[104,97,108,102]++Ad n.a n.b n.c n.e from by unfold Ex.txt;rw [if_neg k1,if_neg k2,if_neg k3]]at hl⊢;rw [show(Ex.leaf n).good=(je n.a&&je n.b&&(je n.c&&je n.e))from by unfold Ex.good;rw [if_neg k1,if_pos k4]];have q:([104,97,108,102]:List UInt8).length=4:=rfl;rw [ac]at hl;refine PuH.intro Tryz.func168 rfl kr fun C hC=>?_
  refine A2 ⟨?_⟩;intros;refine Wo (ae (cs':=ndx n) rfl rfl om om hcut hne) ?_;refine A2 ⟨?_⟩;intros;refine Wo (jl (e:=9) (len:=5) (cs:=Bm) kr (by repeat(first|exact dO.nil|(apply dO.cons;exact Eq.refl (lit _);infer_instance))) (by exact rfl)) ?_;refine A2 ⟨?_⟩;intros;refine WfH (jR h [104,97,108,102] om) ?_;rintro _ _ ⟨rfl,h1⟩;refine WPL.perm aG ?_;simp only [ab,a8];refine A2 ⟨?_⟩;intros;refine WfX (IC h1 n.a n.b n.c n.e na nb nc ne hL (by rw [ac];omega)) ?_ ?_
  ·rintro _ _ ⟨g,rfl,h'⟩;simp only [ab,a8];refine A2 ⟨?_⟩;intros;rw [ax]at h';exact gB _ _ jv (by repeat(first|exact Sr|exact iS _ _|refine Sc ?_)) ⟨g,rfl,h'⟩
  ·rintro _ _ ⟨g,rfl⟩;rw [hC];exact⟨g,rfl⟩
theorem L7 {ns:List Nd}{w j d b3 b4 b6 b7:Nat}{x:Ex}{n:Nd}{l:List UInt8}{H:LH}(hns:ns.length≤100000) (hx:n.x=j) (hp:oY ns w x j) (hat:ns[j]? = some x.top) (h:Wtr w l d H) (hd:d+pdp 3 x≤200) (hl:l.length+x.txt.length+2*x.size+2≤80000000) :
  PuH Tryz.prog 220 [lit (.pointer (some ⟨b3,0,none⟩)),lit (.pointer (some ⟨b4,0,none⟩)),lit (.pointer (some ⟨b6,0,none⟩))]
   ([(b7,258,Bm),(b6,68,ndx n),(b4,32,[sl (ns.map ndx).flatten ns.length]),(b3,249,[lit (.pointer (some ⟨w,0,none⟩))])]++H)
   (fun r H'=>x.good=true∧r=Ab.tup []∧∃H2,H'=[(b7,258,Bm),(b6,68,ndx n),(b4,32,[sl (ns.map ndx).flatten ns.length]),(b3,249,[lit (.pointer (some ⟨w,0,none⟩))])]++H2∧Wtr w (l++par (decide (rk x.top<3)) x.txt) d H2) (fun pv _=>x.good=false∧pv=inval):=by
 have c:=tK hns hp hat h 3 hd hl;refine PuH.intro Tryz.func220 rfl kr fun C hC=>?_
 simp only [ab,a8];refine A2 ⟨?_⟩;intros;rw [hx];refine WfX c ?_ ?_
 ·rintro _ _ ⟨g,rfl,h'⟩;simp only [ab,a8];refine A2 ⟨?_⟩;intros;exact gB _ _ jv Sr ⟨g,rfl,_,rfl,h'⟩
 ·rintro _ _ ⟨g,rfl⟩;rw [hC];exact⟨g,rfl⟩
theorem O9 {ns:List Nd}(hns:ns.length≤100000) (w:Nat) (n:Nd) (x:Ex) (i:Nat) (hat:(Ex.un n x).At ns i) (ih:∀j,x.At ns j→oY ns w x j):oY ns w (.un n x) i:=fun d l H h hd hl=>by
  obtain⟨hat,hk,j,hx,hxa⟩:=hat;have hp:=ih j hxa;have hil:i<ns.length:=(bI.1 hat).1;have hcut:=fV (f:=ndx) (n:=19) kq hat;have hne:(ns.map ndx).flatten≠[]:=gA kq om (fun e=>by rw [e]at hil;simp at hil);have p1:=mN (decide (rk x.top<3)) x.txt;rw [show(Ex.un n x).txt=[126]++par (decide (rk x.top<3)) x.txt from rfl]at hl⊢;rw [show(Ex.un n x).good=x.good from rfl];rw [show(Ex.un n x).size=1+x.size from rfl]at hl;rw [show(Ex.un n x).dep=pdp 3 x+1 from rfl]at hd;have q:([126]:List UInt8).length=1:=rfl;rw [ac]at hl;have q1:(l++[126]).length=l.length+1:=by simp
  refine PuH.intro Tryz.func168 rfl kr fun C hC=>?_
  refine A2 ⟨?_⟩;intros;refine Wo (ae (cs':=ndx n) rfl rfl om om hcut hne) ?_;refine A2 ⟨?_⟩;intros;refine Wo (jl (e:=9) (len:=5) (cs:=Bm) kr (by repeat(first|exact dO.nil|(apply dO.cons;exact Eq.refl (lit _);infer_instance))) (by exact rfl)) ?_;refine A2 ⟨?_⟩;intros;refine WfH (jR h [126] om) ?_;rintro _ _ ⟨rfl,h1⟩;refine WPL.perm aG ?_;simp only [ab,a8];refine A2 ⟨?_⟩;intros;refine WPL.perm (aG (l₁:=[_,_,_,_])) ?_;refine WfX (B4 h1 om (fun H1 g1=>L7 hns hx hp hxa.top g1 om om)) ?_ ?_ rfl (Tk.same _)
  ·rintro _ _ ⟨g,rfl,H2,rfl,h'⟩;simp only [a8];rw [ax]at h';refine A2 ⟨?_⟩;intros;exact gB _ _ jv (iS _ _) ⟨g,rfl,h'⟩
  ·rintro _ _ ⟨g,rfl⟩;rw [hC];exact⟨g,rfl⟩
theorem NP {op:Int}(h1:1≤op) (h4:op≤4):Bm[op.toNat*1]? = some (str (sgn op)):=by
 have h:op=1∨op=2∨op=3∨op=4:=by omega
 rcases h with rfl|rfl|rfl|rfl <;> rfl
theorem wU (op:Int):(sgn op).length=3:=by
 unfold sgn;split
 ·rfl
 split
 ·rfl
 split <;> rfl
theorem Oa {ns:List Nd}(hns:ns.length≤100000) (w:Nat) (n:Nd) (x y:Ex) (i:Nat) (hat:(Ex.bi n x y).At ns i) (ihx:∀j,x.At ns j→oY ns w x j) (ihy:∀j,y.At ns j→oY ns w y j):oY ns w (.bi n x y) i:=fun d l H h hd hl=>by
  obtain⟨hat,hk,⟨ho1,ho4⟩,j,k,hx,hy,hxa,hya⟩:=hat;have hpx:=ihx j hxa;have hpy:=ihy k hya;have hil:i<ns.length:=(bI.1 hat).1;have hcut:=fV (f:=ndx) (n:=19) kq hat;have hne:(ns.map ndx).flatten≠[]:=gA kq om (fun e=>by rw [e]at hil;simp at hil);have c0:=GB n;change Pu _ _ _ (lit (.int .i64 (rk n)))at c0
  have hrk:1≤rk n∧rk n≤2:=by unfold rk;rw [if_pos hk];split <;> omega
  have p1:=mN (decide (rk x.top<rk n)) x.txt;have p2:=mN (decide (rk y.top<rk n+1)) y.txt;have p3:=wU n.op;have hsg:=NP ho1 ho4;rw [show(Ex.bi n x y).txt=par (decide (rk x.top<rk n)) x.txt++sgn n.op++par (decide (rk y.top<rk n+1)) y.txt from rfl]at hl⊢;rw [show(Ex.bi n x y).good=(x.good&&y.good)from rfl];rw [show(Ex.bi n x y).size=1+x.size+y.size from rfl]at hl;rw [show(Ex.bi n x y).dep=max (pdp (rk n) x) (pdp (rk n+1) y)from rfl]at hd;have hd1:d+pdp (rk n) x≤200:=aU (Nat.add_le_add_left (Nat.le_max_left _ _) d) hd;have hd2:d+pdp (rk n+1) y≤200:=aU (Nat.add_le_add_left (pZ _ _) d) hd;clear hd;rw [ac,ac]at hl;have q1:(l++par (decide (rk x.top<rk n)) x.txt).length=l.length+(par (decide (rk x.top<rk n)) x.txt).length:=ac;have q2:(l++par (decide (rk x.top<rk n)) x.txt++sgn n.op).length=l.length+(par (decide (rk x.top<rk n)) x.txt).length+(sgn n.op).length:=by rw [ac,q1]
  generalize hpd1:par (decide (rk x.top<rk n)) x.txt=s1 at *;generalize hpd2:par (decide (rk y.top<rk n+1)) y.txt=s2 at *;have c1:=tK hns hpx hxa.top h (rk n) hd1 om;rw [hpd1]at c1;generalize hrn:rk n=r at *;refine PuH.intro Tryz.func168 rfl kr fun C hC=>?_
  refine A2 ⟨?_⟩;intros;refine Wo (ae (cs':=ndx n) rfl rfl om om hcut hne) ?_;refine A2 ⟨?_⟩;intros;refine Wo (jl (e:=9) (len:=5) (cs:=Bm) kr (by repeat(first|exact dO.nil|(apply dO.cons;exact Eq.refl (lit _);infer_instance))) (by exact rfl)) ?_;refine D1 c0 ⟨?_⟩;intros;rw [hx];refine WfX c1 ?_ ?_
  ·rintro _ _ ⟨g1,rfl,h1⟩;simp only [ab,a8];repeat(first|(refine AS ⟨?_⟩;intros)|(refine O1 ⟨?_⟩;intros))
   refine WdN 6 ?_;refine A2 ⟨?_⟩;intros;refine Wdo (fN (e:=9) (len:=5) kr rfl rfl om om) ?_;refine Wdo (eG rfl mmA hsg) ?_;refine A2 ⟨?_⟩;intros;simp only [eM,bD];refine WfH (jR h1 (sgn n.op) om) ?_;rintro _ _ ⟨rfl,h2⟩;refine WPL.perm aG ?_;simp only [ab,a8];have c2:=tK hns hpy hya.top h2 (r+1) hd2 om;rw [hpd2]at c2;refine A2 ⟨?_⟩;intros;rw [hy];refine WfX c2 ?_ ?_
   ·rintro _ _ ⟨g2,rfl,h3⟩;simp only [ab,a8];rw [ax,ax,←ax s1]at h3;refine A2 ⟨?_⟩;intros;exact gB _ _ jv (by repeat(first|exact Sr|exact iS _ _|refine Sc ?_)) ⟨by rw [g1,g2];rfl,rfl,h3⟩
   ·rintro _ _ ⟨g,rfl⟩;rw [hC];exact⟨by rw [g,aS],rfl⟩
  ·rintro _ _ ⟨g,rfl⟩;rw [hC];exact⟨by rw [g];rfl,rfl⟩
theorem x9 {ns:List Nd}{L:Nat}(hok:∀n∈ns,n.ok L) (hL:L≤200) (hns:ns.length≤100000) (w:Nat):∀(t:Ex) (i:Nat),t.At ns i→oY ns w t i
 | .leaf n,i,hat=>IG hok hL hns w n i hat
 | .un n x,i,hat=>O9 hns w n x i hat (x9 hok hL hns w x)
 | .bi n x y,i,hat=>Oa hns w n x y i hat (x9 hok hL hns w x) (x9 hok hL hns w y)
def Ex.rtxt:Ex→List UInt8
 | .leaf n=>if n.k=1 then n.nm else if n.k=2 then [97,108,108]else if n.k=3 then [110,111,110,101]else [104,97,108,102,32]++rpT n.a n.b++[32]++rpT n.c n.e
 | .un _ x=>[126]++par (decide (rk x.top<3)) x.rtxt
 | .bi n l r=>par (decide (rk l.top<rk n)) l.rtxt++sgn n.op++par (decide (rk r.top<rk n+1)) r.rtxt
theorem Ex.rtxt_good:∀{t:Ex},t.good=true→(∀(ns:List Nd) (i:Nat),t.At ns i→t.rtxt=t.txt)
 | .leaf n,h,ns,i,hat=>by
  obtain⟨_,h1,h4⟩:=hat;unfold Ex.rtxt Ex.txt;unfold Ex.good at h;by_cases k1:n.k=1
  ·rw [if_pos k1,if_pos k1]
  rw [if_neg k1]at h⊢;rw [if_neg k1];by_cases k2:n.k=2
  ·rw [if_pos k2,if_pos k2]
  rw [if_neg k2,if_neg k2];by_cases k3:n.k=3
  ·rw [if_pos k3,if_pos k3]
  rw [if_neg k3,if_neg k3];rw [if_pos (by omega:n.k=4)]at h;rw [bG]at h;rw [CM h.1,CM h.2];unfold Ad;simp only [ax,ab,a8]
 | .un n x,h,ns,i,hat=>by
  obtain⟨_,_,j,_,hx⟩:=hat;unfold Ex.rtxt Ex.txt;rw [Ex.rtxt_good (t:=x) h ns j hx]
 | .bi n l r,h,ns,i,hat=>by
  obtain⟨_,_,_,j,k,_,_,hl,hr⟩:=hat;have h':(l.good&&r.good)=true:=h;rw [bG]at h';unfold Ex.rtxt Ex.txt;rw [Ex.rtxt_good h'.1 ns j hl,Ex.rtxt_good h'.2 ns k hr]
theorem Ex.rtxt_len {L:Nat}(hL:L≤20){ns:List Nd}(hok:∀n∈ns,n.ok L):∀{t:Ex}{i:Nat},t.At ns i→t.rtxt.length≤2000*t.size
 | .leaf n,i,hat=>by
  have hm:=hok n (bn hat.1);have h1:=Gw hm.a hm.b;have h2:=Gw hm.c hm.e;have h3:=hm.nm;simp only [Ex.rtxt,Ex.size];split
  ·omega
  split
  ·simp
  split
  ·simp
  ·simp only [ac,aF,bq];omega
 | .un n x,i,hat=>by
  obtain⟨_,_,j,_,hx⟩:=hat;have h1:=Ex.rtxt_len hL hok hx;have h2:=mN (decide (rk x.top<3)) x.rtxt;simp only [Ex.rtxt,Ex.size,ac,aF,bq];omega
 | .bi n l r,i,hat=>by
  obtain⟨_,_,_,j,k,_,_,hl,hr⟩:=hat;have h1:=Ex.rtxt_len hL hok hl;have h2:=Ex.rtxt_len hL hok hr;have h3:=mN (decide (rk l.top<rk n)) l.rtxt;have h4:=mN (decide (rk r.top<rk n+1)) r.rtxt;have h5:=wU n.op;simp only [Ex.rtxt,Ex.size,ac];omega
theorem Au {n:Nd}(h:okN n=true):(1≤n.k∧n.k≤6)∧(n.k=6→1≤n.op∧n.op≤4):=by
 unfold okN at h;simp only [bG,bO,cC]at h;obtain⟨⟨⟨⟨⟨h1,_⟩,_⟩,h2⟩,_⟩,_⟩:=h;refine⟨h1,fun hk=>?_⟩;rcases h2 with h2|h2
 ·exact⟨h2.1.2,h2.2⟩
 ·exact absurd hk h2.1
def Np (ns:List Nd) (ss:List Nat):Prop:=∀j,j<ss.length→∃t:Ex,t.At ns j∧t.size=ss.getD j 0
theorem CA {ns:List Nd}{ss:List Nat}{n:Nd}{s:Nat}(hat:ns[ss.length]? = some n) (h:ka ss n=some s) (hT:Np ns ss):∃t:Ex,t.At ns ss.length∧t.size=s:=by
 unfold ka at h;by_cases e:okN n=true
 ·rw [if_pos e]at h;obtain⟨hk,ho⟩:=Au e;by_cases k5:n.k=5
  ·rw [if_pos k5]at h;by_cases hc:0<ss.length∧n.x=(ss.length:Int)-1
   ·rw [if_pos hc]at h;obtain⟨x,hx,hs⟩:=hT (ss.length-1) om;refine⟨.un n x,⟨hat,k5,ss.length-1,om,hx⟩,?_⟩;simp only [Ex.size,hs];exact bZ h
   ·rw [if_neg hc]at h;cases h
  ·rw [if_neg k5]at h;by_cases k6:n.k=6
   ·rw [if_pos k6]at h;generalize hs1:ss.getD (ss.length-1) 0=s1 at h;by_cases hc:(0<ss.length∧n.y=(ss.length:Int)-1)∧s1+1≤ss.length∧n.x=(ss.length:Int)-1-(s1:Nat)
    ·rw [if_pos hc]at h;obtain⟨⟨c1,c2⟩,c3,c4⟩:=hc;obtain⟨y,hy,hsy⟩:=hT (ss.length-1) om;obtain⟨x,hx,hsx⟩:=hT (ss.length-1-s1) om;refine⟨.bi n x y,⟨hat,k6,ho k6,ss.length-1-s1,ss.length-1,om,om,hx,hy⟩,?_⟩;have:=bZ h;simp only [Ex.size,hsx,hsy,hs1];omega
    ·rw [if_neg hc]at h;cases h
   ·rw [if_neg k6]at h;exact⟨.leaf n,⟨hat,hk.1,om⟩,bZ h⟩
 ·rw [if_neg e]at h;cases h
theorem wu {ns:List Nd}:∀(rest:List Nd) (ss out:List Nat),ns.drop ss.length=rest→ss.length≤ns.length→pe rest ss=some out→Np ns ss→Np ns out∧out.length=ns.length
 | [],ss,out,hd,hl,h,hT=>by
  unfold pe at h;obtain rfl:=bZ h;refine⟨hT,?_⟩;have:=congrArg List.length hd;simp at this;omega
 |n::rest,ss,out,hd,hl,h,hT=>by
  rw [tG]at h
  have hat:ns[ss.length]? = some n:=by
   have:=congrArg (·[0]?) hd;simpa using this
  have hlt:ss.length<ns.length:=(bI.1 hat).1;cases hs:ka ss n with
  |none=>rw [hs]at h;cases h
  |some s =>
   rw [hs]at h;obtain⟨t,ht,hts⟩:=CA hat hs hT;refine wu rest (ss++[s]) out ?_ (by simp;omega) h ?_
   ·rw [ac,bH];have:=we hat;rw [hd]at this;exact((List.cons.inj this).2).symm
   ·intro j hj;simp only [ac,bH]at hj;by_cases hjl:j<ss.length
    ·obtain⟨t',h1,h2⟩:=hT j hjl;refine⟨t',h1,?_⟩;rw [h2];simp [List.getD,fD hjl]
    ·have:j=ss.length:=by omega
     subst this;exact⟨t,ht,by rw [hts];simp [List.getD]⟩
theorem LC {ns:List Nd}(h:okL ns=true):0<ns.length∧∃t:Ex,t.At ns (ns.length-1)∧t.size=ns.length:=by
 unfold okL at h;cases hs:pe ns []with
 |none=>rw [hs]at h;cases h
 |some out =>
  rw [hs]at h;simp only [bG,cC]at h;obtain⟨hT,hl⟩:=wu ns [] out rfl (an _) hs (fun j hj=>by simp at hj);obtain⟨t,h1,h2⟩:=hT (ns.length-1) om;exact⟨h.1,t,h1,by rw [h2];exact h.2⟩
theorem RN {ns:List Nd}{L w d:Nat}{l:List UInt8}{H:LH}(hok:∀n∈ns,n.ok L) (hL:L≤200) (hns:ns.length≤100000) (h:Wtr w l d H) (hf:okL ns=false) :
  PuH Tryz.prog 123 [lit (.pointer (some ⟨w,0,none⟩)),sl (ns.map ndx).flatten ns.length] H (fun _ _=>False) (fun pv _=>pv=inval):=by
 refine PuH.intro Tryz.func123 rfl kr fun C hC=>?_
 refine A2 ⟨?_⟩;intros;refine WfX (vg ns hok om hns) ?_ ?_
 ·rintro _ _ ⟨e,_⟩;rw [hf]at e;cases e
 ·rintro _ _ ⟨_,rfl⟩;rw [hC]
theorem RM {ns:List Nd}{L w d:Nat}{l:List UInt8}{H:LH}(hok:∀n∈ns,n.ok L) (hL:L≤200) (hns:ns.length≤100000) (h:Wtr w l d H) (ht:okL ns=true){t:Ex}(hat:t.At ns (ns.length-1)) (hsz:t.size=ns.length) (hdp:t.dep≤200) (hl:l.length+t.txt.length≤70000000) :
  PuH Tryz.prog 123 [lit (.pointer (some ⟨w,0,none⟩)),sl (ns.map ndx).flatten ns.length] H (fun r H'=>t.good=true∧r=Ab.tup []∧Wtr w (l++t.txt) 0 H') (fun pv _=>t.good=false∧pv=inval):=by
 have hpos:=(LC ht).1;have hp:=x9 hok hL om w t _ hat;obtain⟨a,s,Hb,ha,hb,rfl⟩:=h;have c:=hp 0 l _ ⟨a,s,Hb,ha,hb,rfl⟩ om om;refine PuH.intro Tryz.func123 rfl kr fun C hC=>?_
 refine A2 ⟨?_⟩;intros;refine WfX (vg ns hok om om) ?_ ?_
 ·rintro _ _ ⟨_,rfl,rfl⟩;simp only [ab,a8,bd];refine A2 ⟨?_⟩;intros;rw [show((ns.length:Int)-1)=((ns.length-1:Nat):Int) by omega];refine WfX c ?_ ?_
  ·rintro _ _ ⟨g,rfl,h'⟩;simp only [ab,a8];refine A2 ⟨?_⟩;intros;exact gB _ _ jv Sr ⟨g,rfl,h'⟩
  ·rintro _ _ ⟨g,rfl⟩;rw [hC];exact⟨g,rfl⟩
 ·rintro _ _ ⟨e,_⟩;rw [ht]at e;cases e
def stp (i:Nat) (n:Nd) (st:List (Ex×Nat)):Option (List (Ex×Nat)) :=
 if okN n=true then
  if n.k=5 then(match st with
   |(x,j)::r=>if n.x=(j:Nat)then some ((.un n x,i)::r)else none
   | []=>none)
  else if n.k=6 then(match st with
   |(y,k)::(x,j)::r=>if n.x=(j:Nat)∧n.y=(k:Nat)then some ((.bi n x y,i)::r)else none
   |_=>none)
  else some ((.leaf n,i)::st)
 else none
def stk:List Nd→Nat→List (Ex×Nat)→Option (List (Ex×Nat))
 | [],_,st=>some st
 |n::ns,i,st=>match stp i n st with
  |some st'=>stk ns (i+1) st'
  |none=>none
theorem nQ (n:Nd) (ns:List Nd) (i:Nat) (st:List (Ex×Nat)):stk (n::ns) i st=match stp i n st with
  |some st'=>stk ns (i+1) st'
  |none=>none:=rfl
inductive Sk (ns:List Nd) (ss:List Nat):Nat→List (Ex×Nat)→Prop
 |nil:Sk ns ss 0 []
 |cons {i:Nat}{t:Ex}{st:List (Ex×Nat)}(h1:t.At ns i) (h2:t.size=ss.getD i 0) (h3:t.size≤i+1) (h:Sk ns ss (i+1-t.size) st):Sk ns ss (i+1) ((t,i)::st)
theorem Sk.more {ns:List Nd}{ss:List Nat}{i s:Nat}{st:List (Ex×Nat)}(h:Sk ns ss i st):i≤ss.length→Sk ns (ss++[s]) i st:=by
 induction h with
 |nil=>exact fun _ => .nil
 | @cons i t st h1 h2 h3 _ ih =>
  intro hi;refine .cons h1 ?_ h3 (ih (by have:=t.size_pos;omega));rw [h2];simp [List.getD,fD (show i<ss.length by omega)]
theorem w6 (ss:List Nat) (s:Nat):(ss++[s]).getD ss.length 0=s:=by simp [List.getD]
theorem Kf {ns:List Nd}{ss:List Nat}{n:Nd}{st:List (Ex×Nat)}(hat:ns[ss.length]? = some n) (h:Sk ns ss ss.length st) :
  match stp ss.length n st with
  |some st'=>∃s,ka ss n=some s∧Sk ns (ss++[s]) (ss.length+1) st'
  |none=>ka ss n=none:=by
 generalize hi:ss.length=i at *;unfold stp ka;rw [hi];by_cases e:okN n=true
 ·rw [if_pos e,if_pos e];obtain⟨hk,ho⟩:=Au e;by_cases k5:n.k=5
  ·rw [if_pos k5,if_pos k5];cases h with
   |nil=>simp only;rw [if_neg om]
   | @cons j t st' h1 h2 h3 h4 =>
    simp only [dZ];by_cases hx:n.x=(j:Nat)
    ·rw [if_pos hx,if_pos om];refine⟨_,rfl, .cons ⟨hat,k5,j,hx,h1⟩ ?_ ?_ ?_⟩
     ·rw [←hi,w6];simp only [Ex.size];omega
     ·simp only [Ex.size];omega
     ·have:=(Sk.more (s:=1+ss.getD j 0) h4 om)
      simp only [Ex.size];rw [show j+1+1-(1+t.size)=j+1-t.size by omega];exact this
    ·rw [if_neg hx,if_neg om]
  ·rw [if_neg k5,if_neg k5];by_cases k6:n.k=6
   ·rw [if_pos k6,if_pos k6];cases h with
    |nil=>simp only;rw [if_neg om]
    | @cons k y st' h1 h2 h3 h4 =>
     simp only [dZ];rw [←h2];have hy1:=y.size_pos;generalize hm:k+1-y.size=m at h4;cases h4 with
     |nil=>simp only;rw [if_neg om]
     | @cons j x r g1 g2 g3 g4 =>
      simp only;have hj:k-y.size=j:=by omega
      rw [hj,←g2];by_cases hx:n.x=(j:Nat)∧n.y=(k:Nat)
      ·rw [if_pos hx,if_pos om];refine⟨_,rfl, .cons ⟨hat,k6,ho k6,j,k,hx.1,hx.2,g1,h1⟩ ?_ ?_ ?_⟩
       ·rw [←hi,w6];simp only [Ex.size];omega
       ·simp only [Ex.size];omega
       ·have:=(Sk.more (s:=1+y.size+x.size) g4 om)
        simp only [Ex.size];rw [show k+1+1-(1+x.size+y.size)=j+1-x.size by omega];exact this
      ·rw [if_neg hx,if_neg om]
   ·rw [if_neg k6,if_neg k6];refine⟨1,rfl, .cons ⟨hat,hk.1,om⟩ ?_ ?_ ?_⟩
    ·rw [←hi,w6];rfl
    ·simp only [Ex.size];omega
    ·have:=(Sk.more (s:=1) h om)
     simpa [Ex.size] using this
 ·rw [if_neg e,if_neg e]
theorem zW {ns:List Nd}:∀(rest:List Nd) (ss:List Nat) (st:List (Ex×Nat)),ns.drop ss.length=rest→ss.length≤ns.length→Sk ns ss ss.length st→
  match stk rest ss.length st with
  |some st'=>∃out,pe rest ss=some out∧out.length=ns.length∧Sk ns out ns.length st'
  |none=>pe rest ss=none
 | [],ss,st,hd,hl,h=>by
  have hlen:ss.length=ns.length:=by
   have:=congrArg List.length hd;simp at this;omega
  unfold stk pe;exact⟨ss,rfl,hlen,hlen▸h⟩
 |n::rest,ss,st,hd,hl,h=>by
  rw [nQ,tG]
  have hat:ns[ss.length]? = some n:=by
   have:=congrArg (·[0]?) hd;simpa using this
  have hlt:ss.length<ns.length:=(bI.1 hat).1;have hs:=Kf hat h;cases hst:stp ss.length n st with
  |none=>rw [hst]at hs;simp only at hs⊢;rw [hs]
  |some st' =>
   rw [hst]at hs;obtain⟨s,hs1,hs2⟩:=hs;simp only;rw [hs1]
   have hrec:=zW rest (ss++[s]) st' (by
    rw [ac,bH];have:=we hat;rw [hd]at this;exact((List.cons.inj this).2).symm) (by simp;omega) (by rw [ac,bH];exact hs2)
   rw [ac,bH]at hrec;exact hrec
theorem NK (ns:List Nd):match stk ns 0 []with
  |some st=>okL ns=decide (st.length=1)∧∀t j r,st=(t,j)::r→t.At ns j∧(r=[]→j=ns.length-1∧t.size=ns.length)
  |none=>okL ns=false:=by
 have h:=zW (ns:=ns) ns [] [] rfl (an _) .nil;simp only [bq]at h;cases hst:stk ns 0 []with
 |none =>
  rw [hst]at h;exact Dp h
 |some st =>
  rw [hst]at h;obtain⟨out,h1,h2,h3⟩:=h;simp only;unfold okL;rw [h1];simp only;generalize hN:ns.length=N at *;cases h3 with
  |nil=>exact⟨rfl,fun _ _ _ h=>by cases h⟩
  | @cons i t st' g1 g2 g3 g4 =>
   simp only [dZ];rw [←g2];have hp:=t.size_pos;generalize hm:i+1-t.size=m at g4;cases g4 with
   |nil =>
    refine⟨by simp;omega,fun t' j r he=>?_⟩;cases he;exact⟨g1,fun _=>⟨rfl,om⟩⟩
   | @cons i' t' st'' q1 q2 q3 q4 =>
    refine⟨by simp;omega,fun t' j r he=>?_⟩;cases he;exact⟨g1,fun hr=>by cases hr⟩
end Go.Ab
