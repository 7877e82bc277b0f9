/- Texts laid one behind the other: EvB, PLaw, ExTape, ImS, HalfS, ExTapeH, PlN, EvMkP. -/
import Derived.Test.YtpeidlcjlfkpcaaGreatDoorB37
set_option linter.all false
set_option maxHeartbeats 16000000
namespace Go.Ab
open Go.Proofs
variable [Base]
abbrev zTr:SV:=ag [lit (.int .i64 0),lit (.slice none 0 0)]
section
variable {a b c:SV}{bud:Int}
theorem E2 {g:Nat}{l k s:SV}(h:Pu Tryz.prog 19 [a,b,c,lit (.int .i64 bud),lit (.bool false)] (Ab.tup [lit (.slice none 0 0),erA g l k s])):Pu Tryz.prog 8 [a,b,c,lit (.int .i64 bud)] (Ab.tup [zTr,erA g l k s]):=by
 refine Pi Tryz.func8 fun C=>?_
 refine D1 h ⟨?_⟩;intros;refine Wo (GT (s:=pt _) kr rfl) ?_;refine A2 ⟨?_⟩;intros;exact G3
theorem HC {out:List Tr}{t:Tr}(hn:out.length≤1000) (ht:out[out.length-1]? = some t) (hle:t.all fun l=>l.le 1000000) (hsz:t.size≤1000000) (h:Pu Tryz.prog 19 [a,b,c,lit (.int .i64 bud),lit (.bool false)] (Ab.tup [sl (out.map bt) out.length,lit .nilIface])):Pu Tryz.prog 8 [a,b,c,lit (.int .i64 bud)] (Ab.tup [tq t,lit .nilIface]):=by
 have hlt:=(bI.1 ht).1;have hat:=JZ ht;have hne:out.map bt≠[]:=fun e=>by rw [gE]at e;rw [e]at hlt;simp at hlt
 have ca:=NJ t hle hsz;refine Pi Tryz.func8 fun C=>?_
 refine D1 h ⟨?_⟩;intros;refine Wo (ae (i:=((out.length-1:Nat):Int)) (cs':=[bt t]) rfl (by show lit _=_;congr 2;omega) om om hat hne) ?_;refine D1 ca ⟨?_⟩;intros;exact G3
theorem Ij {g:Nat}{l k s:SV}(h:Pu Tryz.prog 19 [a,b,c,lit (.int .i64 0),lit (.bool true)] (Ab.tup [lit (.slice none 0 0),erA g l k s])):Pu Tryz.prog 9 [a,b,c] (Ab.tup [lit (.slice none 0 0),erA g l k s]):=by
 refine Pi Tryz.func9 fun C=>?_
 refine D1 h ⟨?_⟩;intros;refine Wo (GT (s:=pt _) kr rfl) ?_;refine A2 ⟨?_⟩;intros;exact G2
structure SzS where
 k:Nat
 s:SV
 Hs:LH
abbrev szI (t:Tr):SV:=lit (.int .i64 (dG t:Nat))
theorem K7 {ts:List Tr}{k:Nat}{t:Tr}(h:ts[k]? = some t):(ts.take (k+1)).map szI=(ts.take k).map szI++[szI t]:=by
 rw [ji h,aH];rfl
theorem Kp {out:List Tr}(hn:out.length≤1000) (hz:∀t∈out,dG t≤100000000) (h:Pu Tryz.prog 19 [a,b,c,lit (.int .i64 0),lit (.bool true)] (Ab.tup [sl (out.map bt) out.length,lit .nilIface])):Pu Tryz.prog 9 [a,b,c] (Ab.tup [sl (out.map szI) out.length,lit .nilIface]):=by
 refine PuH.toPu ?_;refine PuH.intro Tryz.func9 rfl kr fun C hC=>?_
 refine D1 h ⟨?_⟩;intros
 refine WP.loopS (ι:=SzS) (fun y=>y.k≤out.length∧Own 3 1 y.k ((out.take y.k).map szI) y.s y.Hs) (fun y=>out.length-y.k)
  (fun y=>fm [(10,y.s),(23,sl (out.map bt) out.length),(24,lit (.int .i64 out.length)),(25,lit (.int .i64 y.k))])
  (fun y=>y.Hs) ⟨0,lit (.slice none 0 0),[]⟩ ⟨an _,Own.nil _ _⟩ lfA Sr ?_
 rintro ⟨k,s,Hs⟩ ⟨hk,hown⟩ K hK;simp only at hk hown⊢;have hco:=hown.co;by_cases hkl:k<out.length
 ·have hget:=aA hkl;generalize out[k]=t at hget;have hat:=JZ hget;have hne:out.map bt≠[]:=fun e=>by rw [gE]at e;rw [e]at hkl;simp at hkl
  have cs:=zv t (hz t (bn hget));have hgo:=fun s' H1 (h1:Own 3 1 (k+1) ((out.take k).map szI++[szI t]) s' H1) F' H'=>hK F' H' ⟨k+1,s',H1⟩ ⟨by simp only;omega,by simp only;rw [K7 hget];exact h1⟩ (by simp only;omega)
  clear hK h hget hz;refine A2 ⟨?_⟩;intros;refine Wo (ae (cs':=[bt t]) rfl rfl om om hat hne) ?_;refine D1 cs ⟨?_⟩;intros;refine ot hown om (fun s' H1 hown'=>?_) (hsp:=Tk.skip _ (Tk.same _));have hco':=hown'.co;replace hgo:=hgo s' H1 hown';clear hown hown';simp only [ab,a8];refine A2 ⟨?_⟩;intros;exact hgo _ _ lfA Sw
 ·have hke:k=out.length:=by omega
  subst hke;rw [aP]at hown;refine WP.rowS 10 hown rfl (aG (l₁:=[])) ?_;clear hK hown h;refine A2 ⟨?_⟩;intros;exact ct _ _ (eJ (RV.tmp rfl) (RV.tmp rfl) Lr) (av _) rfl
end
def zK (c:UInt8):Nd:=⟨1,[c],⟨false,[],[]⟩,⟨false,[],[]⟩,⟨false,[],[]⟩,⟨false,[],[]⟩,0,0,0,0,0⟩
def Do (op x y:Int):Nd:=⟨6,[],⟨false,[],[]⟩,⟨false,[],[]⟩,⟨false,[],[]⟩,⟨false,[],[]⟩,op,x,y,0,0⟩
theorem wr {L:Nat}:(⟨false,[],[]⟩:RQ).ok L:=⟨D.nil,D.nil,an _,an _⟩
theorem Le.slL {a b:List SV}{k:Nat}(h:LeL a b):Le (sl a k) (sl b k):=fun m v hv=>by
 obtain⟨ad,cap,rfl,h1,h2,h3⟩:=ft hv;refine jq h1 h2 ?_;rcases h3 with rfl|⟨b',off,rfl,arr,T,fz,h4,h5⟩
 ·left;cases b with
  |nil=>rfl
  |cons _ _=>exact h.elim
 ·right
  have hlen:a.length=b.length:=by
   clear h4 h5 hv;induction a generalizing b with
   |nil=>cases b with
    |nil=>rfl
    |cons _ _=>exact h.elim
   |cons x a ih=>cases b with
    |nil=>exact h.elim
    |cons y b=>simp [ih h.2]
  exact⟨b',off,rfl,arr,T,fz,h4,by rw [←hlen];exact bk.le h h5⟩
theorem tE (i:Nat) (A B:List Nd):∀(i:Nat) (st:List (Ex×Nat)),stk (A++B) i st=match stk A i st with
  |some st'=>stk B (i+A.length) st'
  |none=>none:=by
 induction A with
 |nil=>intro i st;rfl
 |cons n A ih =>
  intro i st;rw [ab,nQ,nQ];cases stp i n st with
  |none=>rfl
  |some st' =>
   simp only;rw [ih,aF,show i+1+A.length=i+(A.length+1) by omega]
structure Wr (ns:List Nd) (i:Nat) (t:Ex):Prop where
 st:∀s,stk ns i s=some ((t,i+ns.length-1)::s)
 pos:1≤ns.length
 good:t.good=true
 ok:∀n∈ns,n.ok 10
 nm:∀n∈ns,n.nm.all (fun b=>decide (zm b.toNat=3))=true
 nq:∀n∈ns,n.k=1→∃k,k<4∧n.nm=[UInt8.ofNat (97+k)]
theorem Bi {n:Nd}{i:Nat}{s s':List (Ex×Nat)}(h:stp i n s=some s'):stk [n] i s=some s':=by rw [nQ,h];rfl
theorem Wr.leaf {n:Nd}{i:Nat}(h1:okN n=true) (h5:n.k≠5) (h6:n.k≠6) (hg:(Ex.leaf n).good=true) (hok:n.ok 10) (hq:n.k=1→∃k,k<4∧n.nm=[UInt8.ofNat (97+k)]) (hn:n.nm.all (fun b=>decide (zm b.toNat=3))=true:=by rfl):Wr [n] i (.leaf n) :=
 ⟨fun s=>Bi (by unfold stp;rw [if_pos h1,if_neg h5,if_neg h6];rfl),au _,hg,fun m hm=>by rw [ar.1 hm];exact hok,fun m hm=>by rw [ar.1 hm];exact hn,fun m hm=>by rw [ar.1 hm];exact hq⟩
theorem Wr.un {A:List Nd}{n:Nd}{i:Nat}{x:Ex}(h:Wr A i x) (h1:okN n=true) (h5:n.k=5) (hx:n.x=(i+A.length:Nat)-1) (hok:n.ok 10) (hn:n.nm.all (fun b=>decide (zm b.toNat=3))=true:=by rfl):Wr (A++[n]) i (.un n x):=by
 have hp:=h.pos;refine⟨fun s=>?_,by simp,h.good,fun m hm=>?_,fun m hm=>?_,fun m hm=>?_⟩
 ·rw [tE i,h.st];simp only;rw [Bi (s':=(.un n x,i+A.length)::s) (by unfold stp;rw [if_pos h1,if_pos h5];simp only;rw [if_pos om]),ac,bH,show i+(A.length+1)-1=i+A.length by omega]
 ·rcases az.1 hm with hm|hm
  ·exact h.ok m hm
  ·rw [ar.1 hm];exact hok
 ·rcases az.1 hm with hm|hm
  ·exact h.nm m hm
  ·rw [ar.1 hm];exact hn
 ·rcases az.1 hm with hm|hm
  ·exact h.nq m hm
  ·rw [ar.1 hm];exact fun e=>by omega
theorem Wr.bi {A B:List Nd}{n:Nd}{i:Nat}{x y:Ex}(h:Wr A i x) (k:Wr B (i+A.length) y) (h1:okN n=true) (h6:n.k=6) (hx:n.x=(i+A.length:Nat)-1) (hy:n.y=(i+A.length+B.length:Nat)-1) (hok:n.ok 10) (hn:n.nm.all (fun b=>decide (zm b.toNat=3))=true:=by rfl):Wr (A++B++[n]) i (.bi n x y):=by
 have hp:=h.pos;have kp:=k.pos;refine⟨fun s=>?_,by simp;omega,by show(x.good&&y.good)=true;rw [h.good,k.good];rfl,fun m hm=>?_,fun m hm=>?_,fun m hm=>?_⟩
 ·rw [tE i,tE i,h.st];simp only;rw [k.st];simp only;rw [ac,Bi (s':=(.bi n x y,i+(A.length+B.length))::s) (by unfold stp;rw [if_pos h1,if_neg om,if_pos h6];simp only;rw [if_pos ⟨om,om⟩]),ac,ac,bH,show i+(A.length+B.length+1)-1=i+(A.length+B.length) by omega]
 ·rcases az.1 hm with hm|hm
  ·rcases az.1 hm with hm|hm
   ·exact h.ok m hm
   ·exact k.ok m hm
  ·rw [ar.1 hm];exact hok
 ·rcases az.1 hm with hm|hm
  ·rcases az.1 hm with hm|hm
   ·exact h.nm m hm
   ·exact k.nm m hm
  ·rw [ar.1 hm];exact hn
 ·rcases az.1 hm with hm|hm
  ·rcases az.1 hm with hm|hm
   ·exact h.nq m hm
   ·exact k.nq m hm
  ·rw [ar.1 hm];exact fun e=>by omega
theorem Wr.otx {ns:List Nd}{t:Ex}(h:Wr ns 0 t):otx ns=some t.txt:=by
 unfold Ab.otx;rw [h.st];simp only;rw [if_pos h.good]
abbrev z0:RQ:=⟨false,[],[]⟩
def Ct (x:Int):Nd:=⟨5,[],z0,z0,z0,z0,0,x,0,0,0⟩
def aNd (k:Int):Nd:=⟨k,[],z0,z0,z0,z0,0,0,0,0,0⟩
def hNd (a b c e:Rat):Nd:=⟨4,[],RQ.of a,RQ.of b,RQ.of c,RQ.of e,0,0,0,0,0⟩
theorem Ns {k:Int}{nm:List UInt8}{op x y:Int}(h:nm.length≤100):(⟨k,nm,z0,z0,z0,z0,op,x,y,0,0⟩:Nd).ok 10:=⟨wr,wr,wr,wr,h⟩
theorem Ri {op x y:Int}(h1:1≤op) (h4:op≤4):okN (Do op x y)=true:=by
 unfold okN Do;simp [zp,zq,h1,h4]
theorem Rh {x:Int}:okN (Ct x)=true:=by
 unfold okN Ct;simp [zp,zq]
theorem SH {k:Int}(h1:2≤k) (h3:k≤3):okN (aNd k)=true:=by
 have:k=2∨k=3:=by omega
 rcases this with rfl|rfl <;> rfl
theorem RJ {k:Int}(h1:2≤k) (h3:k≤3):(Ex.leaf (aNd k)).good=true:=by
 have:k=2∨k=3:=by omega
 rcases this with rfl|rfl <;> rfl
theorem SG {a b c e:Rat}:okN (hNd a b c e)=true:=by
 unfold okN hNd;simp
theorem Rj {c:UInt8}:okN (zK c)=true:=by
 unfold okN zK;simp [zp,zq]
theorem xb (x:Rat):je (RQ.of x)=true:=by
 unfold je;rw [RQ.of_v];exact a9 ⟨rfl,rfl,rfl⟩
theorem RI {a b c e:Rat}:(Ex.leaf (hNd a b c e)).good=true:=by
 show(if(4:Int)=1 then _ else if(4:Int)=4 then(je (RQ.of a)&&je (RQ.of b)&&(je (RQ.of c)&&je (RQ.of e)))else true)=true
 rw [if_neg (by decide),if_pos rfl,xb,xb,xb,xb];rfl
abbrev TJ:List SV:=[str [97],str [98],str [99],str [100]]
theorem Cl {k:Nat}(h:k<4):TJ[k]? = some (str [UInt8.ofNat (97+k)])∧(Ex.leaf (zK (UInt8.ofNat (97+k)))).good=true∧(zK (UInt8.ofNat (97+k))).nm.all (fun b=>decide (zm b.toNat=3))=true:=by
 have:k=0∨k=1∨k=2∨k=3:=by omega
 rcases this with rfl|rfl|rfl|rfl <;> exact⟨rfl,by decide +kernel,by decide +kernel⟩
theorem Jj (l:List Nd) (n:Nd):((l++[n]).map ndx).flatten=(l.map ndx).flatten++ndx n:=by
 rw [aH,cH];simp only [aD,iz,bw,j4,bd]
theorem Own.snoc {T:TypeId}{l:List Nd}{n:Nd}{s:SV}{H:LH}(h:Own T 19 (l.length+1) ((l.map ndx).flatten++ndx n) s H):Own T 19 (l++[n]).length ((l++[n]).map ndx).flatten s H:=by
 rw [Jj,ac,bH];exact h
abbrev exT:TypeId:=68
abbrev tpT:TypeId:=56
def p0:{p:Rat×Rat // ht p.1≤10∧ht p.2≤10}:=⟨(0,0),by have:=kv;simp only;omega,by have:=kv;simp only;omega⟩
theorem KX {x y z:Int}{k:Nat}(h:x≠0∨y≠0) (hx:il x≤k) (hy:il y≤k) (hz:il z≤k):(ju (x:Rat) (y:Rat) (z:Rat)).le k:=by
 obtain⟨a,b,c⟩:=yh z h;exact⟨aU (cI a) hx,aU (cI b) hy,aU (cI c) hz⟩
theorem RF {z:Int}(h:z.natAbs≤1000):il z≤1:=dU (k:=1) (by
 simpa using (show z.natAbs<4294967296 by omega))
theorem D7 {a b c:Int}(h:a≠0∨b≠0) (ha:a.natAbs≤1000) (hb:b.natAbs≤1000) (hc:c.natAbs≤1000):(ju (a:Rat) (b:Rat) (c:Rat)).sm :=
 ⟨wY (h.elim (fun h => .inl (by exact_mod_cast h)) fun h => .inr (by exact_mod_cast h)),KX h (RF ha) (RF hb) (RF hc)⟩
theorem DC {a b:Int}(ha:a.natAbs≤4) (hb:b.natAbs≤4):(a*b).natAbs≤16:=by
 rw [fx];exact db ha hb
theorem PF {x y v w:Int}{q:Rat}(hx:x.natAbs≤4) (hy:y.natAbs≤4) (hv:v.natAbs≤4) (hw:w.natAbs≤4) (h:(x:Rat)+q*v-x≠0∨(y:Rat)+q*w-y≠0):(thr x y ((x:Rat)+q*v) ((y:Rat)+q*w)).sm:=by
 have hq:q≠0:=fun e=>by
  rw [e]at h;rcases h with h|h <;> exact h (by grind)
 have hvw:v≠0∨w≠0:=by
  by_cases c:v=0
  ·by_cases d:w=0
   ·rw [c,d]at h;rcases h with h|h <;> exact absurd (by grind) h
   ·exact .inr d
  ·exact .inl c
 have b1:=DC hw hx;have b2:=DC hv hy;unfold thr;by_cases hp:0<q
 ·have e:=yg q ((-w:Int):Rat) (v:Rat) ((w*x-v*y:Int):Rat) hp
  rw [show -((y:Rat)+q*w-y)=q*((-w:Int):Rat) by rw [gF];grind,show(x:Rat)+q*v-x=q*(v:Rat) by grind,
   show -(q*((-w:Int):Rat)*x+q*(v:Rat)*y)=q*((w*x-v*y:Int):Rat) by rw [gF,Rat.intCast_sub,iX,iX];grind,e]
  exact D7 om om om om
 ·have hn:0 < -q:=by grind
  have e:=yg (-q) (w:Rat) ((-v:Int):Rat) ((v*y-w*x:Int):Rat) hn
  rw [show -((y:Rat)+q*w-y) = -q*(w:Rat) by grind,show(x:Rat)+q*v-x = -q*((-v:Int):Rat) by rw [gF];grind,
   show -(-q*(w:Rat)*x + -q*((-v:Int):Rat)*y) = -q*((v*y-w*x:Int):Rat) by rw [gF,Rat.intCast_sub,iX,iX];grind,e]
  exact D7 om om om om
def HfS (ns:List Nd):Prop:=∀n∈ns,n.k=4→wi n=false→(re n).sm
theorem HfS.one {n:Nd}(h:n.k≠4):HfS [n]:=fun m hm e=>by rw [ar.1 hm]at e;exact absurd e h
theorem HfS.app {A B:List Nd}(h:HfS A) (k:HfS B):HfS (A++B):=fun n hn=>(az.1 hn).elim (h n) (k n)
abbrev HP (x y:Int):={p:Rat×Rat // ht p.1≤10∧ht p.2≤10∧((p.1-x≠0∨p.2-y≠0)→(thr x y p.1 p.2).sm)}
def p0H {x y:Int}(hx:x.natAbs≤4) (hy:y.natAbs≤4):HP x y:=⟨(x,y),by have:=oq x om;simp only;omega,by have:=oq y om;simp only;omega,fun h=>by rcases h with h|h <;> exact absurd (by grind) h⟩
theorem HfS.half {x y:Int}{u v:Rat}(h:(u-x≠0∨v-y≠0)→(thr x y u v).sm):HfS [hNd (x:Rat) (y:Rat) u v]:=fun n hn _ hd=>by
 rw [ar.1 hn]at hd⊢;unfold wi at hd;unfold re;simp only [hNd,RQ.of_v]at hd⊢;refine h ?_;have hd:=kX hd;by_cases c:u-x=0
 ·exact .inr fun e=>hd ⟨c,e⟩
 ·exact .inl c
abbrev SO (x y:Int):SV:=ex fun p:HP x y=>rp p.1.1 p.1.2
abbrev TE (x y:Int):SV:=ex fun p:HP x y=>pq p.1.1 p.1.2
theorem Qb {x y:Int}(hx:x.natAbs≤4) (hy:y.natAbs≤4):Pu Tryz.prog 40 [rp (x:Rat) (y:Rat),smallR,intV] (SO x y):=by
 refine Pu.exAt' [rp (x:Rat) (y:Rat)] [intV] ⟨0,by have:=kv;omega⟩ fun q=>?_
 refine Pu.exAt' [rp (x:Rat) (y:Rat),rq q.1] [] ⟨(1,0),⟨by decide,by decide⟩, .inl (by decide)⟩ fun v=>?_
 obtain⟨q,hq⟩:=q;obtain⟨⟨u,v⟩,⟨hu,hv⟩,_⟩:=v;simp only at hu hv;have h1:=oq x om;have h2:=oq y om;have h3:=oq u om;have h4:=oq v om;have h5:=be q (u:Rat);have h6:=be q (v:Rat);have h7:=fo (x:Rat) (q*(u:Rat));have h8:=fo (y:Rat) (q*(v:Rat));exact(qD (x:Rat) (y:Rat) q (u:Rat) (v:Rat) om om om om om).le (Le.ex ⟨(_,_),by simp only;omega,by simp only;omega,fun h=>PF hx hy hu hv h⟩ Lr)
theorem NG {x y:Int}(hx:x.natAbs≤4) (hy:y.natAbs≤4):Pu Tryz.prog 39 [SO x y] (TE x y) :=
 Pu.exAt [] [] (p0H hx hy) fun p=>Ev p.1.1 p.1.2 (by have:=p.2.1;omega) (by have:=p.2.2.1;omega)
theorem Jn (zs:List Int) (hz:zs.length≤400) (b:Nat):∀(m:Nat),m≤100→∀(ns:List Nd) (s:SV) (Hs:LH),ns.length≤10000-50*m→Own exT 19 ns.length (ns.map ndx).flatten s Hs→
  PuH Tryz.prog 18 [lit (.pointer (some ⟨b,0,none⟩)),s,lit (.int .i64 m)] ((b,tpT,mB zs)::Hs)
   (fun r H'=>∃(t:Ex) (ns2:List Nd) (Hs':LH),H'=(b,tpT,mB zs)::Hs'∧Own exT 19 (ns++ns2).length ((ns++ns2).map ndx).flatten r Hs'∧Wr ns2 ns.length t∧ns2.length≤2*m+1∧HfS ns2) noX:=by
 intro m;induction m using Nat.strongRecOn with
 |_ m ih =>
  intro hm ns s Hs hns hown;have hco:=hown.co;refine PuH.intro Tryz.func18 rfl kr fun C hC=>?_
  refine A2 ⟨?_⟩;intros;refine Wtx (fj zs hz 10 om om) mmA fun k=>?_
  obtain⟨k,hk⟩:=k;simp only [];refine WPL.viaS1 (fun F H=>∃kk:Nat,kk<10∧(m=0→6≤kk)∧LeF F (fm [(0,lit (.pointer (some ⟨b,0,none⟩))),(1,s),(2,lit (.int .i64 m)),(7,lit (.int .i64 kk))])∧H=(b,tpT,mB zs)::Hs) ?_ ?_
  ·by_cases h0:m=0
   ·by_cases h6:k<6
    ·refine A2 ⟨?_⟩;intros;exact⟨6,om,fun _=>by omega,lfA,rfl⟩
    ·refine A2 ⟨?_⟩;intros;exact⟨k,om,fun _=>by omega,lfA,rfl⟩
   ·refine A2 ⟨?_⟩;intros;exact⟨k,om,fun h=>absurd h h0,lfA,rfl⟩
  rintro F H ⟨kk,hkk,h6,hF,rfl⟩;refine WP.le hF ?_;clear hF;by_cases h4:kk<4
  ·have hm1:1≤m:=by omega
   clear h6;refine A2 ⟨?_⟩;intros;rw [show((m:Int)-1)/2=(((m-1)/2:Nat):Int) by omega];refine WfT (ih ((m-1)/2) om om ns s Hs om hown) ?_;rintro s1 _ ⟨x,A,H1,rfl,hown1,hA,hAl,fA⟩;simp only [ab,a8];have hco1:=hown1.co;have e1:(ns++A).length=ns.length+A.length:=ac;refine A2 ⟨?_⟩;intros;refine Wo (bh hown1 rfl) ?_;refine A2 ⟨?_⟩;intros;rw [show((m:Int)-1)/2=(((m-1)/2:Nat):Int) by omega];refine WfT (ih ((m-1)/2) om om (ns++A) s1 H1 om hown1) ?_;rintro s2 _ ⟨y,B,H2,rfl,hown2,hB,hBl,fB⟩;simp only [ab,a8];have hco2:=hown2.co;have e2:(ns++A++B).length=ns.length+A.length+B.length:=by rw [ac,e1]
   refine A2 ⟨?_⟩;intros;refine Wo (bh hown2 rfl) ?_;refine A2 ⟨?_⟩;intros;refine WPL.lowB (br.here _) (cs':=ndx (Do (1+(kk:Nat)) ((ns++A).length-1) ((ns++A++B).length-1))) (by simp only [Do,Ct,aNd,zK];repeat(first|exact trivial|refine⟨?_,?_⟩|exact Le.refl _|exact gz)) ?_;refine ot hown2 om (fun s' H' hown'=>?_);simp only [ab,a8];refine A2 ⟨?_⟩;intros
   exact ct _ _ (bJ (RV.tmp rfl) Lr) (fZ _ _) ⟨_,A++B++[Do (1+(kk:Nat)) ((ns++A).length-1) ((ns++A++B).length-1)],H',rfl,by rw [←ax,←ax];exact hown'.snoc,
    Wr.bi hA (by rw [←e1];exact hB) (Ri om om) rfl (by show((ns++A).length:Int)-1=_;rw [e1]) (by show((ns++A++B).length:Int)-1=_;rw [e2]) (Ns (by decide)),by simp;omega,(fA.app fB).app (HfS.one (show(6:Int)≠4 by decide))⟩
  by_cases k6:kk<6
  ·have hm1:1≤m:=by omega
   clear h6;refine A2 ⟨?_⟩;intros;rw [show((m:Int)-1)=((m-1:Nat):Int) by omega];refine WfT (ih (m-1) om om ns s Hs om hown) ?_;rintro s1 _ ⟨x,A,H1,rfl,hown1,hA,hAl,fA⟩;simp only [ab,a8];have hco1:=hown1.co;have e1:(ns++A).length=ns.length+A.length:=ac;refine A2 ⟨?_⟩;intros;refine Wo (bh hown1 rfl) ?_;refine A2 ⟨?_⟩;intros;refine WPL.lowB (br.here _) (cs':=ndx (Ct ((ns++A).length-1))) (by simp only [Do,Ct,aNd,zK];repeat(first|exact trivial|refine⟨?_,?_⟩|exact Le.refl _|exact gz)) ?_;refine ot hown1 om (fun s' H' hown'=>?_);simp only [ab,a8];refine A2 ⟨?_⟩;intros
   exact ct _ _ (bJ (RV.tmp rfl) Lr) (fZ _ _) ⟨_,A++[Ct ((ns++A).length-1)],H',rfl,by rw [←ax];exact hown'.snoc,
    Wr.un hA Rh rfl (by show((ns++A).length:Int)-1=_;rw [e1]) (Ns (by decide)),by simp;omega,fA.app (HfS.one (show(5:Int)≠4 by decide))⟩
  clear ih h6;by_cases k6:kk=6
  ·subst k6;refine A2 ⟨?_⟩;intros;refine Wtx (fj zs hz 2 om om) mmA fun k=>?_
   obtain⟨k,hk⟩:=k;simp only [];refine A2 ⟨?_⟩;intros;refine WPL.lowB (br.here _) (cs':=ndx (aNd (2+(k:Nat)))) (by simp only [Do,Ct,aNd,zK];repeat(first|exact trivial|refine⟨?_,?_⟩|exact Le.refl _|exact gz)) ?_;refine ot hown om (fun s' H' hown'=>?_);simp only [ab,a8];refine A2 ⟨?_⟩;intros
   exact ct _ _ (bJ (RV.tmp rfl) Lr) (fZ _ _) ⟨_,[aNd (2+(k:Nat))],H',rfl,hown'.snoc,
    Wr.leaf (SH om om) (show(2+(k:Nat):Int)≠5 by omega) (show(2+(k:Nat):Int)≠6 by omega) (RJ om om) (Ns (by decide)) (fun e=>absurd e (show(2+(k:Nat):Int)≠1 by omega)),by simp,HfS.one (show(2+(k:Nat):Int)≠4 by omega)⟩
  by_cases k7:kk=7
  ·subst k7;refine A2 ⟨?_⟩;intros;refine Wtx (zU zs hz) mmA fun p=>?_
   obtain⟨⟨x,y⟩,hx,hy⟩:=p;simp only at hx hy;simp only [];repeat(first|(refine AS ⟨?_⟩;intros)|(refine O1 ⟨?_⟩;intros))
   rename_i b9;have c1:=Ev (x:Rat) (y:Rat) (by have:=oq x om;omega) (by have:=oq y om;omega);have c2:=Qb hx hy;have c3:=NG hx hy;refine WdN 12 ?_;refine D1 c1 ⟨?_⟩;intros;refine Wdo (dS (Sj zs hz) rfl mmA) ?_;refine A2 ⟨?_⟩;intros;refine Wdo (dS (Gf zs hz) rfl mmA) ?_;refine D2 c2 c3 ⟨?_⟩;intros;refine Wdo (OpV.exd 85 (p0H hx hy) rfl (g:=fun p:HP x y=>ag (ndx (hNd (x:Rat) (y:Rat) p.1.1 p.1.2))) fun p=>Ov0) ?_;refine Wdo (OpV.exd 86 (p0H hx hy) rfl (g:=fun p:HP x y=>sl (ndx (hNd (x:Rat) (y:Rat) p.1.1 p.1.2)) 1) fun p=>oR (s:=ag (ndx (hNd (x:Rat) (y:Rat) p.1.1 p.1.2))) rfl inferInstance) ?_;refine A2 ⟨?_⟩;intros;refine WPL.exd (d:=87) rfl fun p=>?_
   obtain⟨⟨u,v⟩,hu,hv,hsm⟩:=p;simp only at hu hv hsm;simp only [];refine rL hown (Tk.skip _ (Tk.skip _ (Tk.same _))) om (fun s' H' hown'=>?_);simp only [ab,a8];refine A2 ⟨?_⟩;intros
   exact ct _ _ (bJ (RV.tmp rfl) Lr) (fZ _ _) ⟨_,[hNd (x:Rat) (y:Rat) u v],H',rfl,hown'.snoc,
    Wr.leaf SG (show(4:Int)≠5 by decide) (show(4:Int)≠6 by decide) RI ⟨RQ.of_ok (by have:=oq x om;omega),RQ.of_ok (by have:=oq y om;omega),RQ.of_ok hu,RQ.of_ok hv,an _⟩ (fun e=>absurd e (show(4:Int)≠1 by decide)),by simp,HfS.half hsm⟩
  ·refine A2 ⟨?_⟩;intros;refine Wtx (fj zs hz 4 om om) mmA fun k=>?_
   obtain⟨k,hk⟩:=k;simp only [];refine A2 ⟨?_⟩;intros;refine Wo (eG rfl mmA (Cl hk).1) ?_;refine A2 ⟨?_⟩;intros;refine WPL.lowB (br.here _) (cs':=ndx (zK (UInt8.ofNat (97+k)))) (by simp only [Do,Ct,aNd,zK];repeat(first|exact trivial|refine⟨?_,?_⟩|exact Le.refl _|exact gz)) ?_;refine ot hown om (fun s' H' hown'=>?_);simp only [ab,a8];refine A2 ⟨?_⟩;intros
   exact ct _ _ (bJ (RV.tmp rfl) Lr) (Sc (fZ _ _)) ⟨_,[zK (UInt8.ofNat (97+k))],H',rfl,hown'.snoc,
    Wr.leaf Rj (show(1:Int)≠5 by decide) (show(1:Int)≠6 by decide) (Cl hk).2.1 (Ns (by simp)) (fun _=>⟨k,hk,rfl⟩) (Cl hk).2.2,by simp,HfS.one (show(1:Int)≠4 by decide)⟩
theorem yV (zs:List Int) (hz:zs.length≤400) (b:Nat):PuH Tryz.prog 7 [lit (.pointer (some ⟨b,0,none⟩)),lit (.int .i64 4)] [(b,tpT,mB zs)]
  (fun r H'=>∃(t:Ex) (ns:List Nd) (Hs':LH),H'=(b,tpT,mB zs)::Hs'∧Own exT 19 ns.length (ns.map ndx).flatten r Hs'∧Wr ns 0 t∧ns.length≤9∧HfS ns) noX:=by
 have c:=Jn zs hz b 4 om [] (lit (.slice none 0 0)) [] (by simp) (Own.nil exT 19);refine PuH.intro Tryz.func7 rfl kr fun C hC=>?_
 refine A2 ⟨?_⟩;intros;refine WfT c ?_;rintro s' _ ⟨t,ns,H1,rfl,h1,h2,h3,h4⟩;simp only [ab,a8];have hco:=h1.co;refine A2 ⟨?_⟩;intros;exact ct _ _ (bJ (RV.tmp rfl) Lr) Sr ⟨t,ns,H1,rfl,h1,h2,om,h4⟩
def erN (n:Nd):Nd:={n with ln:=0,cl:=0}
def erX:Ex→Ex
 | .leaf n => .leaf (erN n)
 | .un n x => .un (erN n) (erX x)
 | .bi n x y => .bi (erN n) (erX x) (erX y)
def erS (st:List (Ex×Nat)):List (Ex×Nat):=st.map fun p=>(erX p.1,p.2)
theorem QI (i:Nat) (n:Nd) (st:List (Ex×Nat)):stp i (erN n) (erS st)=(stp i n st).map erS:=by
 have e1:okN (erN n)=okN n:=rfl;have e2:(erN n).k=n.k:=rfl;have e3:(erN n).x=n.x:=rfl;have e4:(erN n).y=n.y:=rfl;unfold stp;rw [e1,e2,e3,e4];split
 ·split
  ·rcases st with _|⟨⟨x,k⟩,r⟩
   ·rfl
   ·simp only [erS,aD];split <;> rfl
  ·split
   ·rcases st with _|⟨⟨y,k⟩,_|⟨⟨x,j⟩,r⟩⟩
    ·rfl
    ·rfl
    ·simp only [erS,aD];split <;> rfl
   ·rfl
 ·rfl
theorem Kg:∀(ns:List Nd) (i:Nat) (st:List (Ex×Nat)),stk (ns.map erN) i (erS st)=(stk ns i st).map erS
 | [],_,_=>rfl
 |n::ns,i,st=>by
  rw [aD,nQ,nQ,QI];cases stp i n st with
  |none=>rfl
  |some st'=>exact Kg ns (i+1) st'
theorem xj:∀t:Ex,(erX t).good=t.good
 | .leaf _=>rfl
 | .un _ x=>xj x
 | .bi _ x y=>by
  show((erX x).good&&(erX y).good)=(x.good&&y.good)
  rw [xj x,xj y]
theorem Lw (ns:List Nd):(otx (ns.map erN)).isSome=(otx ns).isSome:=by
 have h:=Kg ns 0 [];rw [show erS []=[]from rfl]at h;unfold otx;rw [h];rcases stk ns 0 []with _|_|⟨⟨t,k⟩,_|⟨p,r⟩⟩
 ·rfl
 ·rfl
 ·show(if(erX t).good=true then some (erX t).txt else none).isSome=(if t.good=true then some t.txt else none).isSome
  rw [xj];split <;> rfl
 ·rfl
theorem L0:∀(ns:List Nd) (i:Nat),(plG i ns).map erN=ns.map erN
 | [],_=>rfl
 |n::r,i=>by show erN (plF i n)::(plG (i+1) r).map erN=erN n::r.map erN;rw [L0 r];rfl
theorem Bx:∀{ns:List Nd}{i:Nat}{m:Nd},m∈plG i ns→∃j n,n∈ns∧m=plF j n
 |n::r,i,m,h=>by
  rcases ak.1 h with rfl|h
  ·exact⟨i,n,Ms,rfl⟩
  ·obtain⟨j,n',h1,h2⟩:=Bx h;exact⟨j,n',Mc h1,h2⟩
theorem QV {ns:List Nd}{i N:Nat}(h:∀n∈ns,n.ok N):∀m∈plG i ns,m.ok N:=fun m hm=>by
 obtain⟨j,n,h1,rfl⟩:=Bx hm;have:=h n h1;exact⟨this.1,this.2,this.3,this.4,this.5⟩
theorem O6 {ns:List Nd}{i:Nat}(h:otx ns≠none):otx (plG i ns)≠none:=by
 have e:=Lw (plG i ns);rw [L0,Lw]at e;intro h2;rw [h2]at e;cases h3:otx ns with
 |none=>exact h h3
 |some t=>rw [h3]at e;cases e
theorem QW {ns:List Nd}{i:Nat}(h:HfS ns):HfS (plG i ns):=fun m hm h4 hd=>by
 obtain⟨j,n,h1,rfl⟩:=Bx hm;exact h n h1 h4 hd
theorem AW {nm:List (List UInt8)}{ts:List Tr}{b0 bud:Int}{L:List Li}{LL:Nat}(h:EvE L LL nm ts) (hL:((L.length*(L.length+1):Nat):Int)≤bud):∀{ns:List Nd}{out:List Tr},(∀n∈ns,n.k=4→wi n=false→re n∈L)→(∀t∈out,Gd L t)→kS nm ts false bud ns out=kS nm ts true b0 ns out
 | [],out,_,_=>rfl
 |n::ns,out,hh,ho=>by
  unfold kS;cases hp:evP nm ts out n with
  |error e=>rfl
  |ok t =>
   simp only;have hg:=w8 h ho (fun h4 hd=>hh n cL h4 hd) hp;have hs:=hg.size h.ok;have hs2:dG t≤L.length*(L.length+1):=by rw [aE,gM];rw [aE]at hs;exact hs
   rw [if_neg (by unfold Am;simp;omega),if_neg (by unfold Am;simp)]
   exact AW h hL (fun m hm=>hh m (Mc hm)) fun u hu=>by
    rcases az.1 hu with hu|hu
    ·exact ho u hu
    ·rw [ar.1 hu];exact hg
theorem w9 {nm:List (List UInt8)}{ts:List Tr}{b0 bud:Int}:∀{ns:List Nd}{out o:List Tr},kS nm ts false bud ns out = .ok o→kS nm ts true b0 ns out = .ok o
 | [],out,o,h=>h
 |n::ns,out,o,h=>by
  unfold kS at h⊢;cases hp:evP nm ts out n with
  |error e=>rw [hp]at h;cases h
  |ok t =>
   rw [hp]at h;simp only at h⊢;split at h
   ·cases h
   ·rw [if_neg (by unfold Am;simp)];exact w9 h
theorem uX {nm:List (List UInt8)}{ts:List Tr}{free:Bool}{bud:Int}:∀{ns:List Nd}{out:List Tr}{c:Nat}{n:Nd},kS nm ts free bud ns out = .error (c,n)→c=5∨c=3∨c=7
 | [],out,c,n,h=>by
  unfold kS at h;cases h
 |m::ns,out,c,n,h=>by
  unfold kS at h;cases hp:evP nm ts out m with
  |error e =>
   rw [hp]at h;cases h;rcases HD hp with h|h
   ·exact .inl h
   ·exact .inr (.inl h)
  |ok t =>
   rw [hp]at h;simp only at h;split at h
   ·cases h;exact .inr (.inr rfl)
   ·exact uX h
abbrev RA:TypeId:=68
theorem Gr {A X B:List SV}{o j:Nat}{v:SV}(ho:o=A.length+j) (hj:j<X.length):(A++(X++B)).set o v=A++(X.set j v++B):=by
 subst ho;rw [kD _ _ om,kJ,List.set_append_left _ _ hj]
theorem Ha (ns:List Nd):((ns.map ndx).flatten).length=ns.length*19:=by
 induction ns with
 |nil=>rfl
 |cons a r ih=>simp only [aD,bw,ac,aF,bq,ih];omega
theorem ID {ns:List Nd}(hn:0<ns.length) (hl:ns.length≤1000){s:SV}{Hs:LH}(hown:Own RA 19 ns.length (ns.map ndx).flatten s Hs) :
  PuH Tryz.prog 6 [s] Hs (fun r H'=>r=s∧Own RA 19 (plG 0 ns).length ((plG 0 ns).map ndx).flatten s H') noX:=by
 obtain⟨b,c,hnc,hcm,rfl,rfl⟩:=hown.blk hn;clear hown;generalize hT:List.replicate (c*19-ns.length*19) top=T;refine PuH.intro Tryz.func6 rfl kr fun C hC=>?_
 refine A2 ⟨?_⟩;intros
 refine WP.loopS (ι:=Nat) (fun k=>k≤ns.length) (fun k=>ns.length-k) (fun k=>fm [(0,lit (.slice (some ⟨b,0,none⟩) ns.length c)),(5,lit (.int .i64 ns.length)),(6,lit (.int .i64 k))])
  (fun k=>[(b,RA,((plK ns k).map ndx).flatten++T)]) 0 (an _) lfA (by rw [KZ];exact Sr) ?_
 rintro k hk K hK;by_cases hkl:k<ns.length
 ·have hget:=aA hkl;generalize ns[k]=n at hget;obtain⟨p1,p2⟩:=IE hget;have hgo:=fun F' H'=>hK F' H' (k+1) om om
  have hA:(((plG 0 (ns.take k)).map ndx).flatten).length=k*19:=by rw [Ha,qu,aC,dv om]
  have e1:((plK ns k).map ndx).flatten++T=((plG 0 (ns.take k)).map ndx).flatten++(ndx n++(((ns.drop (k+1)).map ndx).flatten++T)):=by
   rw [p1,aH,cH,aD,bw,ax,ax]
  have e2:((plK ns (k+1)).map ndx).flatten++T=((plG 0 (ns.take k)).map ndx).flatten++(ndx (plF k n)++(((ns.drop (k+1)).map ndx).flatten++T)):=by
   rw [p2,aH,cH,aD,bw,ax,ax]
  rw [e2]at hgo;rw [e1];clear hK p1 p2 e1 e2 hget;generalize((plG 0 (ns.take k)).map ndx).flatten=A at *;generalize((ns.drop (k+1)).map ndx).flatten++T=Bs at *;have s1:=Gr (A:=A) (X:=ndx n) (B:=Bs) (o:=k*19+17) (j:=17) (v:=lit (.int .i64 (1+(k:Int)%3))) om (by show 17<19;omega);have s2:=Gr (A:=A) (X:=(ndx n).set 17 (lit (.int .i64 (1+(k:Int)%3)))) (B:=Bs) (o:=k*19+18) (j:=18) (v:=lit (.int .i64 (1+(k:Int)))) om (by show 18<19;omega);refine A2 ⟨?_⟩;intros
  refine WPL.store (b:=b) (o:=k*19+17) (sv:=lit (.int .i64 (1+(k:Int)%3))) (ds:=[lit (.int .i64 (1+(k:Int)%3))]) (cs':=A++((ndx n).set 17 (lit (.int .i64 (1+(k:Int)%3)))++Bs)) (by show lit (.pointer (some ⟨b,0+k*19+17,none⟩))=_;rw [aB]) (by show lit (.int .i64 (1+((k%3:Nat):Int)))=_;rw [nJ];rfl) rfl (.here _) s1 (by
   apply ly;rw [ac,ac,hA];show _≤k*19+(19+Bs.length)
   omega) ?_
  refine A2 ⟨?_⟩;intros
  refine WPL.store (b:=b) (o:=k*19+18) (sv:=lit (.int .i64 (1+(k:Int)))) (ds:=[lit (.int .i64 (1+(k:Int)))]) (cs':=A++(((ndx n).set 17 (lit (.int .i64 (1+(k:Int)%3)))).set 18 (lit (.int .i64 (1+(k:Int))))++Bs)) (by show lit (.pointer (some ⟨b,0+k*19+18,none⟩))=_;rw [aB]) rfl rfl (.here _) s2 (by
   apply ly;rw [ac,ac,hA];show _≤k*19+(19+Bs.length)
   omega) ?_
  refine A2 ⟨?_⟩;intros;exact hgo _ _ lfA Sr
 ·have hke:k=ns.length:=by omega
  subst hke;rw [O5];clear hK;refine A2 ⟨?_⟩;intros;exact ct _ _ (bJ (RV.tmp rfl) Lr) Sr ⟨rfl,by rw [Ha], .inr ⟨b,c,by rw [qu];exact hnc,hcm,by rw [qu],by rw [qu,hT]⟩⟩
end Go.Ab
