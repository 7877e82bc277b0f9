/- Texts laid one behind the other: EvW, Add64, BndN, Bnd, BndA, EvX, EvR, PubK, EvEnv, PlM. -/
import Derived.Test.YtpeidlcjlfkpcaaGreatDoorB36
set_option linter.all false
set_option maxHeartbeats 16000000
namespace Go.Ab
open Go.Proofs
variable [Base]
theorem GH (x y u v:Rat) (hx:ht x≤1000000) (hy:ht y≤1000000) (hu:ht u≤1000000) (hv:ht v≤1000000):Pu Tryz.prog 170 [pp x y,pp u v] (pp (x-u) (y-v)):=by
 have c1:=um x u om om;have c2:=um y v om om;refine Pi Tryz.func170 fun C=>?_
 exact X2 c1 c2
theorem D0 (x y:Rat) (hy:ht y≤1000000):Pu Tryz.prog 171 [pp x y] (pp (-y) x):=by
 have c1:=lZ y om;refine Pi Tryz.func171 fun C=>?_
 exact X1 c1
abbrev zlf:SV:=ag [lit (.int .i64 0),lit (.int .i64 0),lit (.pointer none),lit (.int .i64 0),lit (.int .i64 0),lit (.pointer none),lit (.int .i64 0),lit (.int .i64 0),lit (.pointer none)]
theorem Rq (a b c:Rat) (ha:a=0) (hb:b=0):Pu Tryz.prog 172 [fr a,fr b,fr c] (Ab.tup [zlf,lit (.bool false)]):=by
 have c1:=rU a;have c2:=rU b;rw [a9 (ga.2 ha)]at c1;rw [a9 (ga.2 hb)]at c2;clear ha hb;refine Pi Tryz.func172 fun C=>?_
 refine D2 c1 c2 ⟨?_⟩;intros;exact G3
theorem Cx {x y u v:Rat}{L:Nat}(hx:ht x≤L) (hy:ht y≤L) (hu:ht u≤L) (hv:ht v≤L):ht (u-x)≤2*L+1∧ht (-(v-y))≤2*L+1∧ht (v-y)≤2*L+1∧ht (-(v-y)*x+(u-x)*y)≤6*L+5∧ht (-(-(v-y)*x+(u-x)*y))≤6*L+5:=by
 have h1:=gh u x;have h2:=gh v y;have h3:=fI (v-y);have h4:=be (-(v-y)) x;have h5:=be (u-x) y;have h6:=fo (-(v-y)*x) ((u-x)*y);have h7:=fI (-(v-y)*x+(u-x)*y);omega
theorem NI {x y u v:Rat}{L:Nat}(hL:L≤10000) (hx:ht x≤L) (hy:ht y≤L) (hu:ht u≤L) (hv:ht v≤L) (h:¬(u-x=0∧v-y=0)):Pu Tryz.prog 127 [pp x y,pp u v] (Ab.tup [lfl (thr x y u v),lit (.bool true)]):=by
 obtain⟨a1,a2,a3,a4,a5⟩:=Cx hx hy hu hv;have c1:=GH u v x y om om om om;have c2:=D0 (u-x) (v-y) om;have c3:=uz (-(v-y)) (u-x) x y om om om om;have c4:=lZ (-(v-y)*x+(u-x)*y) om
 have hne : -(v-y)≠0∨u-x≠0:=by
  by_cases e:u-x=0
  ·left;intro e2;exact h ⟨e,by grind⟩
  ·exact .inr e
 have c5:=P9 (-(v-y)) (u-x) (-(-(v-y)*x+(u-x)*y)) (L:=6*L+5) om om om om hne;unfold thr lfl;generalize ju (-(v-y)) (u-x) (-(-(v-y)*x+(u-x)*y))=l at *;generalize -(-(v-y)*x+(u-x)*y)=e3 at *;generalize -(v-y)*x+(u-x)*y=e4 at *;generalize -(v-y)=e1 at *;generalize v-y=e5 at *;generalize u-x=e2 at *;clear h hne a1 a2 a3 a4 a5;refine Pi Tryz.func127 fun C=>?_
 refine D5 c1 c2 c3 c4 c5 ⟨?_⟩;intros;exact G3
theorem QG {x y u v:Rat}{L:Nat}(hL:L≤10000) (hx:ht x≤L) (hy:ht y≤L) (hu:ht u≤L) (hv:ht v≤L) (h:u-x=0∧v-y=0):Pu Tryz.prog 127 [pp x y,pp u v] (Ab.tup [zlf,lit (.bool false)]):=by
 obtain⟨a1,a2,a3,a4,a5⟩:=Cx hx hy hu hv;have c1:=GH u v x y om om om om;have c2:=D0 (u-x) (v-y) om;have c3:=uz (-(v-y)) (u-x) x y om om om om;have c4:=lZ (-(v-y)*x+(u-x)*y) om;have c5:=Rq (-(v-y)) (u-x) (-(-(v-y)*x+(u-x)*y)) (by rw [h.2];rfl) h.1;generalize -(-(v-y)*x+(u-x)*y)=e3 at *;generalize -(v-y)*x+(u-x)*y=e4 at *;generalize -(v-y)=e1 at *;generalize v-y=e5 at *;generalize u-x=e2 at *;clear h a1 a2 a3 a4 a5;refine Pi Tryz.func127 fun C=>?_
 refine D5 c1 c2 c3 c4 c5 ⟨?_⟩;intros;exact G3
theorem Fs {L:List Li}{LL:Nat}{nm:List (List UInt8)}{ts:List Tr}(h:EvE L LL nm ts) (op:Int) (hop:1≤op∧op≤4){a b:Tr}(ha:Gd L a) (hb:Gd L b):Pu Tryz.prog 176 [lit (.int .i64 op),bt a,bt b] (Ab.tup [bt (fk op a b []),lit .nilIface]):=by
 have d1:=ha.dep;have d2:=hb.dep;have hl:=h.len;have c1:=rE a om;have c2:=rE b om;have c3:=rn h.l1 h.l2 op hop b (h.all hb.1) a [] (h.all ha.1) (fun s hs=>by cases hs) (by simp only [bq];omega);have c3':=c3.arg (l':=[lit (.int .i64 op),bt a,bt b,lit (.slice none 0 0)]) ⟨Le.refl _,Le.refl _,Le.refl _,i5,trivial⟩;rw [Fl dh (li h.ok ha.1) (li h.ok hb.1)]at c3';have hg:=(Gd.merge (op:=op) h.ok ha.1 hb.1).size h.ok;have hm:L.length*(1+L.length)≤100*101:=db hl om;have c4:=zv (fk op a b []) om;generalize fk op a b []=r at *;generalize L.length*(1+L.length)=q at *;clear c3 ha hb h;refine Pi Tryz.func176 fun C=>?_
 refine D4 c1 c2 c3' c4 ⟨?_⟩;intros;exact G2
theorem QD {L:List Li}{LL:Nat}{nm:List (List UInt8)}{ts:List Tr}(h:EvE L LL nm ts) (op:Int) (hop:1≤op∧op≤4){a b:Tr}(ha:Gd L a) (hb:Gd L b):Pu Tryz.prog 130 [lit (.int .i64 op),bt a,bt b] (Ab.tup [bt (fk op a b []),lit .nilIface]):=by
 have c:=Fs h op hop ha hb;clear ha hb h;refine Pi Tryz.func130 fun C=>?_
 refine D1 c ⟨?_⟩;intros;exact G2
theorem Ew {x y:Nat×TypeId×List SV}{H:LH}:List.Sublist H (x::y::H) := .cons _ (.cons _ (.refl _))
theorem Sm {x y z:Nat×TypeId×List SV}{H:LH}:List.Sublist H (x::y::z::H) := .cons _ Ew
abbrev RR (nm:List (List UInt8)) (ts:List Tr):SV:=ag [sl (nm.map str) nm.length,sl (ts.map bt) ts.length]
def L6 (gn gr:Nat):Except Nat Tr→SV
 | .ok t=>Ab.tup [bt t,lit .nilIface]
 | .error e=>Ab.tup [lit (.pointer none),lit (jV (if e=5 then gn else gr))]
theorem JZ {l:List Tr}{k:Nat}{t:Tr}(h:l[k]? = some t):((l.map bt).drop (k*1)).take 1=[bt t]:=by
 rw [cB,←p8,kw h];rfl
theorem Eu {l:List Tr}{k j:Nat}{t:Tr}(h:l[k]? = some t):(l.map bt++List.replicate j top)[k]? = some (bt t):=by
 have hk:=(bI.1 h).1;rw [fD (by simpa using hk),jg,h];rfl
theorem MH [iF 6] [iF 4]{L:List Li}{LL:Nat}{nm:List (List UInt8)}{ts:List Tr}(h:EvE L LL nm ts){out:List Tr}(ho:∀t∈out,Gd L t) (hol:out.length≤100){n:Nd}{N:Nat}(hn:n.ok N) (hN:N≤1000) (hv:NdV out.length n){s:SV}{Hs:LH}(hown:Own ptT 1 out.length (out.map bt) s Hs) :
  PuH Tryz.prog 85 [RR nm ts,ag (ndx n),s] Hs (fun r H'=>H'=Hs∧r=L6 6 4 (evP nm ts out n)) noX:=by
 obtain⟨hk,hop⟩:=Au hv.ok;have hco:=hown.co;unfold evP;have hkk:n.k=1∨n.k=2∨n.k=3∨n.k=4∨n.k=5∨n.k=6:=by omega
 rcases hkk with k1|k1|k1|k1|k1|k1
 ·rw [if_pos k1];have cx:=Mj nm n.nm (by have:=h.ns;omega);rcases Hy nm n.nm with⟨hf,hf'⟩|⟨i,hf,hi⟩
  ·rw [if_pos hf];rw [hf']at cx;clear hv hop ho hown h;refine PuH.intro Tryz.func85 rfl kr fun C hC=>?_
   refine D1 cx ⟨?_⟩;intros;exact ct _ _ (eJ (RV.tmp rfl) (RV.tmp rfl) Lr) Ew ⟨rfl,rfl⟩
  ·have hit:i<ts.length:=by rw [←h.nl];exact hi
   have hti:=aA hit;have htm:=fg hit;generalize ts[i]=t at hti htm;have hgd:ts.getD i (.leaf false)=t:=by rw [List.getD,hti];rfl
   rw [if_neg om,hf,dN,hgd];rw [hf]at cx;have d1:=rE t (by have:=h.dep t htm;omega);have d0:=h.dep t htm;have d2:=G0 h.l1 h.l2 t (h.all (h.tl t htm)) om;rw [EQ dh (li h.ok (h.tl t htm))]at d2;have hat:=JZ hti;have hne:ts.map bt≠[]:=fun e=>by rw [gE]at e;rw [e]at hit;simp at hit
   generalize dI t []=r at *;generalize bt t=bbt at *;have hlt:=h.ns;have hnl:=h.nl;clear hv hop ho hown h hti htm hgd;refine PuH.intro Tryz.func85 rfl kr fun C hC=>?_
   refine D1 cx ⟨?_⟩;intros;refine Wo (ae (cs':=[bbt]) rfl rfl om om hat hne) ?_;refine D1 d1 ⟨?_⟩;intros;refine Wo (ae (cs':=[bbt]) rfl rfl om om hat hne) ?_;refine D1 d2 ⟨?_⟩;intros;exact ct _ _ (eJ (RV.tmp rfl) (RV.tmp rfl) Lr) Ew ⟨rfl,rfl⟩
 ·rw [if_neg om,if_neg om,if_neg om,if_neg om,a9 k1];have c:=m8 true;clear hv hop ho hown h;refine PuH.intro Tryz.func85 rfl kr fun C hC=>?_
  refine D1 c ⟨?_⟩;intros;exact ct _ _ (eJ (RV.tmp rfl) (RV.tmp rfl) Lr) Ew ⟨rfl,rfl⟩
 ·rw [if_neg om,if_neg om,if_neg om,if_neg om,aa om];have c:=m8 false;clear hv hop ho hown h;refine PuH.intro Tryz.func85 rfl kr fun C hC=>?_
  refine D1 c ⟨?_⟩;intros;exact ct _ _ (eJ (RV.tmp rfl) (RV.tmp rfl) Lr) Ew ⟨rfl,rfl⟩
 ·rw [if_neg om,if_pos k1];have p1:=GG hn.a hn.b om;have p2:=GG hn.c hn.e om;have v1:=qV hn.a;have v2:=qV hn.b;have v3:=qV hn.c;have v4:=qV hn.e;have l1:=m8 true;have l2:=m8 false;have l3:=xr (re n) (.leaf true) (.leaf false);cases hd:wi n with
  |true =>
   have c:=QG (L:=1001) om (by omega:ht n.a.v≤1001) (by omega:ht n.b.v≤1001) (by omega:ht n.c.v≤1001) (by omega:ht n.e.v≤1001) (fS hd);rw [if_pos rfl];clear hv hop ho hown h hn v1 v2 v3 v4 l1 l2 l3 hd;refine PuH.intro Tryz.func85 rfl kr fun C hC=>?_
   refine D3 p1 p2 c ⟨?_⟩;intros;exact ct _ _ (eJ (RV.tmp rfl) (RV.tmp rfl) Lr) Sm ⟨rfl,rfl⟩
  |false =>
   have c:=NI (L:=1001) om (by omega:ht n.a.v≤1001) (by omega:ht n.b.v≤1001) (by omega:ht n.c.v≤1001) (by omega:ht n.e.v≤1001) (kX hd);rw [if_neg (by decide)];rw [show thr n.a.v n.b.v n.c.v n.e.v=re n from rfl]at c;generalize re n=l at *;clear hv hop ho hown h hn v1 v2 v3 v4 hd;refine PuH.intro Tryz.func85 rfl kr fun C hC=>?_
   repeat(first|(refine A1 ⟨?_⟩;intros)|refine W4 p1 ⟨?_⟩|refine W4 p2 ⟨?_⟩|refine W4 c ⟨?_⟩|refine W4 l1 ⟨?_⟩|refine W4 l2 ⟨?_⟩|refine W4 l3 ⟨?_⟩)
   exact ct _ _ (eJ (RV.tmp rfl) (RV.tmp rfl) Lr) Sm ⟨rfl,rfl⟩
 ·rw [if_neg om,if_neg om,if_pos k1];obtain⟨x1,x2⟩:=hv.x (.inl k1);obtain⟨x,hx⟩:∃x:Nat,n.x=(x:Int):=⟨n.x.toNat,om⟩
  rw [hx,dN]at x2⊢;have hti:=aA x2;generalize out[x]=t at hti;have hgd:out.getD x (.leaf false)=t:=by rw [List.getD,hti];rfl
  rw [hgd];have c:=me t;obtain⟨b1,c1,hnc,hcm,rfl,rfl⟩:=hown.blk om;have hgt:(out.map bt++List.replicate (c1*1-out.length*1) top)[((x:Int)).toNat*1]? = some (bt t):=by rw [show((x:Int)).toNat*1=x from by omega];exact Eu hti
  generalize ml t=r at *;generalize bt t=bbt at *;clear hv hop ho hown h hti hgd hn;refine PuH.intro Tryz.func85 rfl kr fun C hC=>?_
  refine A2 ⟨?_⟩;intros;rw [hx];refine Wo (eG rfl mmA hgt) ?_;refine D1 c ⟨?_⟩;intros;exact ct _ _ (eJ (RV.tmp rfl) (RV.tmp rfl) Lr) Ew ⟨rfl,rfl⟩
 ·rw [if_neg om,if_neg om,if_neg om,if_pos k1];obtain⟨x1,x2⟩:=hv.x (.inr k1);obtain⟨y1,y2⟩:=hv.y k1;obtain⟨x,hx⟩:∃x:Nat,n.x=(x:Int):=⟨n.x.toNat,om⟩
  obtain⟨y,hy⟩:∃y:Nat,n.y=(y:Int):=⟨n.y.toNat,om⟩
  rw [hx,dN]at x2⊢;rw [hy,dN]at y2⊢;have hti:=aA x2;have htj:=aA y2;have m1:=ho _ (fg x2);have m2:=ho _ (fg y2);generalize out[x]=t at hti m1;generalize out[y]=u at htj m2;have hgd:out.getD x (.leaf false)=t:=by rw [List.getD,hti];rfl
  have hge:out.getD y (.leaf false)=u:=by rw [List.getD,htj];rfl
  rw [hgd,hge];have c:=QD h n.op (hop k1) m1 m2;obtain⟨b1,c1,hnc,hcm,rfl,rfl⟩:=hown.blk om;have hgt:(out.map bt++List.replicate (c1*1-out.length*1) top)[((x:Int)).toNat*1]? = some (bt t):=by rw [show((x:Int)).toNat*1=x from by omega];exact Eu hti
  have hgu:(out.map bt++List.replicate (c1*1-out.length*1) top)[((y:Int)).toNat*1]? = some (bt u):=by rw [show((y:Int)).toNat*1=y from by omega];exact Eu htj
  generalize fk n.op t u []=r at *;generalize bt t=bbt at *;generalize bt u=bbu at *;clear hv hop ho hown h hti hgd hge htj hn m1 m2;refine PuH.intro Tryz.func85 rfl kr fun C hC=>?_
  refine A2 ⟨?_⟩;intros;rw [hx];refine Wdo (eG rfl mmA hgt) ?_;refine A2 ⟨?_⟩;intros;rw [hy];refine Wdo (eG rfl mmA hgu) ?_;refine D1 c ⟨?_⟩;intros;exact ct _ _ (eJ (RV.tmp rfl) (RV.tmp rfl) Lr) Ew ⟨rfl,rfl⟩
section
variable {F:Fr}{H:LH}{ty:TypeId}
end
theorem Ll {F:Fr}{H:LH}{ty T':TypeId}{x y:Operand}{u:TypeId}{v:Value}(hx:ev F x=lit .nilIface) (hy:ev F y=lit (.iface u v)):OpV Tryz.prog (.binOp .eql 39 x y T') ty F H (lit (.bool false)) :=
 eH hx hy (fun w=>run_eql_iface_nil_left w u v Tryz.underlying39) (fun w=>by simp [Go.eqGuard])
theorem Md (g:Nat):Pu Tryz.prog 30 [lit .nilIface,lit (jV g)] (lit (.bool false)):=by
 refine Pi Tryz.func30 fun C=>?_
 refine A2 ⟨?_⟩;intros;refine Wo (Ll rfl rfl) ?_;exact Z1
def gOf (gn gr gb:Nat) (e:Nat):Nat:=if e=5 then gn else if e=7 then gb else gr
def evR (gn gr gb:Nat):Except (Nat×Nd) (List Tr)→SV
 | .ok out=>Ab.tup [sl (out.map bt) out.length,lit .nilIface]
 | .error (e,n)=>Ab.tup [lit (.slice none 0 0),erA (gOf gn gr gb e) (lit (.int .i64 n.ln)) (lit (.int .i64 n.cl)) (str (oU n))]
theorem sn {a b c e:Nat}{n:Nd}:evR a b c (.error (e,n))=Ab.tup [lit (.slice none 0 0),erA (gOf a b c e) (lit (.int .i64 n.ln)) (lit (.int .i64 n.cl)) (str (oU n))]:=rfl
theorem w7 {a b c:Nat}{out:List Tr}:evR a b c (.ok out)=Ab.tup [sl (out.map bt) out.length,lit .nilIface]:=rfl
structure EvS where
 k:Nat
 out:List Tr
 s:SV
 Hs:LH
theorem Oc {out:List Tr}{t:Tr}{s:SV}{H:LH}(h:Own ptT 1 (out.length+1) (out.map bt++[bt t]) s H):Own ptT 1 (out++[t]).length ((out++[t]).map bt) s H:=by
 rw [aH,ac,bH];exact h
theorem HD {nm:List (List UInt8)}{ts out:List Tr}{n:Nd}{e:Nat}(h:evP nm ts out n = .error e):e=5∨e=3:=by
 unfold evP at h;split at h
 ·split at h
  ·cases h;exact .inl rfl
  ·cases h
 ·split at h
  ·split at h
   ·cases h;exact .inr rfl
   ·cases h
  ·split at h
   ·cases h
   ·split at h <;> cases h
theorem ML [iF 6] [iF 4] [iF 8]{L:List Li}{LL:Nat}{nm:List (List UInt8)}{ts:List Tr}(h:EvE L LL nm ts){ns:List Nd}{N:Nat}(hok:∀n∈ns,n.ok N) (hN:N≤1000) (hns:ns.length≤100) (hst:(stk ns 0 []).isSome=true) (hh:∀n∈ns,n.k=4→wi n=false→re n∈L) (bud:Int) (free:Bool) :
  Pu Tryz.prog 45 [RR nm ts,sl (ns.map ndx).flatten ns.length,lit (.int .i64 bud),lit (.bool free)] (evR 6 4 8 (kS nm ts free bud ns [])):=by
 have hvv:=Ey hst (fun p hp=>by cases hp);generalize hR:kS nm ts free bud ns []=R;refine PuH.toPu ?_;refine PuH.intro Tryz.func45 rfl kr fun C hC=>?_
 refine A2 ⟨?_⟩;intros;rename_i b4
 refine WP.loopS (ι:=EvS) (fun y=>y.k≤ns.length∧y.out.length=y.k∧(∀t∈y.out,Gd L t)∧kS nm ts free bud (ns.drop y.k) y.out=R∧Own ptT 1 y.out.length (y.out.map bt) y.s y.Hs) (fun y=>ns.length-y.k)
  (fun y=>fm [(2,lit (.int .i64 bud)),(3,lit (.bool free)),(4,lit (.pointer (some ⟨b4,0,none⟩))),(10,y.s),(15,sl (ns.map ndx).flatten ns.length),(16,lit (.int .i64 ns.length)),(17,lit (.int .i64 y.k))])
  (fun y=>(b4,117,[sl (nm.map str) nm.length,sl (ts.map bt) ts.length])::y.Hs) ⟨0,[],lit (.slice none 0 0),[]⟩ ⟨an _,rfl,(fun t ht=>by cases ht),by rw [bD];exact hR,Own.nil _ _⟩ lfA Sr ?_
 rintro ⟨k,out,s,Hs⟩ ⟨hk,hol,hog,hgo,hown⟩ K hK;simp only at hk hol hog hgo hown⊢;have hco:=hown.co;by_cases hkl:k<ns.length
 ·obtain⟨n,hget,hmem,hat,hne⟩:=elt kq om hkl;have hn:=hok n hmem;have hv:=hvv k n hget;rw [aB,←hol]at hv;rw [kw hget]at hgo;have cp:=MH h hog om hn hN hv hown;have cl:=M1 n hv.ok;have hnext:=fun t s' H1 (e:evP nm ts out n = .ok t) (h2:kS nm ts free bud (ns.drop (k+1)) (out++[t])=R) (h1:Own ptT 1 (out.length+1) (out.map bt++[bt t]) s' H1) F' H'=>hK F' H' ⟨k+1,out++[t],s',H1⟩ ⟨by simp only;omega,by simp only [ac,bH];omega,fun u hu=>(az.1 hu).elim (hog u) fun hu=>by rw [ar.1 hu];exact w8 h hog (hh n hmem) e,h2,Oc h1⟩ (by simp only;omega)
  have hsz:∀t,evP nm ts out n = .ok t→dG t≤100000000:=fun t e=>by
   have g:=(w8 h hog (hh n hmem) e).size h.ok;have hm:L.length*(1+L.length)≤100*101:=db h.len (by have:=h.len;omega);omega
  unfold kS at hgo;clear hK hvv hst hok hh hR hmem h;cases hp:evP nm ts out n with
  |error e =>
   have he:=HD hp;rw [hp]at hgo cp;simp only at hgo;subst hgo
   obtain⟨g,hg1,hg2⟩:∃g:Nat,L6 6 4 (.error e)=Ab.tup [lit (.pointer none),lit (jV g)]∧gOf 6 4 8 e=g:=by
    rcases he with rfl|rfl
    ·exact⟨_,rfl,rfl⟩
    ·exact⟨_,rfl,rfl⟩
   rw [hg1]at cp;show WP _ _ _ _ _ _ _
   rw [sn,hg2];clear hnext hsz hv hg1 hg2;refine A2 ⟨?_⟩;intros;refine Wo (ae (cs':=ndx n) rfl rfl om om hat hne) ?_;refine A2 ⟨?_⟩;intros;rename_i b12;refine WfT cp ?_ (hs:=Tk.skip _ (Tk.skip _ (Tk.same _)));rintro _ _ ⟨rfl,rfl⟩;simp only [ab,a8];repeat(first|(refine AS ⟨?_⟩;intros)|(refine O1 ⟨?_⟩;intros))
   refine WdZ 11 [0,1,2,3,4,5,6,7,8,9,10] [] [] _ ?_;refine ZkD 11 ?_;repeat(first|(refine A1 ⟨?_⟩;intros)|(refine Wo (cF (sv:=ag _) rfl) ?_)|(refine Wdo (cF (sv:=ag _) rfl) ?_)|(refine Wog (cF (sv:=ag _) rfl) ?_)|(refine fJ (cF (sv:=ag _) rfl) ?_)|(refine Wo (gw (s:=pt _) kr rfl) ?_)|(refine Wdo (gw (s:=pt _) kr rfl) ?_)|(refine Wog (gw (s:=pt _) kr rfl) ?_)|(refine fJ (gw (s:=pt _) kr rfl) ?_)|refine W4 cl ⟨?_⟩)
   refine yu ?_;refine ZkN ?_;refine A2 ⟨?_⟩;intros;exact ct _ _ (eJ (RV.tmp rfl) (RV.tmp rfl) Lr) (av _) rfl
  |ok t =>
   have cz:=zv t (hsz t hp);have hz:=hsz t hp;rw [hp]at hgo cp;simp only at hgo;unfold L6 at cp;unfold Am at hgo;cases free with
   |true =>
    simp only [kU,aZ,bE,aO]at hgo;have hx:=fun s' H1=>hnext t s' H1 hp hgo
    clear hnext hsz hv hgo cz hp;refine A2 ⟨?_⟩;intros;refine Wo (ae (cs':=ndx n) rfl rfl om om hat hne) ?_;refine A2 ⟨?_⟩;intros;refine WfT cp ?_ (hs:=Tk.skip _ (Tk.skip _ (Tk.same _)));rintro _ _ ⟨rfl,rfl⟩;simp only [ab,a8];refine A2 ⟨?_⟩;intros;refine ot hown om (fun s' H1 hown'=>?_) (hsp:=Tk.skip _ (Tk.skip _ (Tk.skip _ (Tk.same _))));have hco':=hown'.co;replace hx:=hx s' H1 hown';clear hown hown';simp only [ab,a8];refine A2 ⟨?_⟩;intros;exact hx _ _ lfA Sw
   |false =>
    simp only [sO,aX,cC]at hgo;by_cases hb:bud<(dG t:Nat)
    ·rw [if_pos hb]at hgo;subst hgo;show WP _ _ _ _ _ _ _
     rw [sn,show gOf 6 4 8 7=8 from rfl];clear hnext hsz hv hp;generalize dG t=zt at *;refine A2 ⟨?_⟩;intros;refine Wo (ae (cs':=ndx n) rfl rfl om om hat hne) ?_;refine A2 ⟨?_⟩;intros;refine WfT cp ?_ (hs:=Tk.skip _ (Tk.skip _ (Tk.same _)));rintro _ _ ⟨rfl,rfl⟩;simp only [ab,a8];repeat(first|(refine AS ⟨?_⟩;intros)|(refine O1 ⟨?_⟩;intros)|(refine Wcx (cz) ?_)|(refine iE (cz) ?_))
     refine WdZ 11 [0,1,2,3,4,5,6,7,8,9,10] [] [] _ ?_;refine ZkD 11 ?_;repeat(first|(refine A1 ⟨?_⟩;intros)|(refine Wo (cF (sv:=ag _) rfl) ?_)|(refine Wdo (cF (sv:=ag _) rfl) ?_)|(refine Wog (cF (sv:=ag _) rfl) ?_)|(refine fJ (cF (sv:=ag _) rfl) ?_)|(refine Wo (gw (s:=pt _) kr rfl) ?_)|(refine Wdo (gw (s:=pt _) kr rfl) ?_)|(refine Wog (gw (s:=pt _) kr rfl) ?_)|(refine fJ (gw (s:=pt _) kr rfl) ?_)|refine W4 cl ⟨?_⟩)
     refine yu ?_;refine ZkN ?_;refine A2 ⟨?_⟩;intros;exact ct _ _ (eJ (RV.tmp rfl) (RV.tmp rfl) Lr) (av _) rfl
    ·rw [if_neg hb]at hgo;have hx:=fun s' H1=>hnext t s' H1 hp hgo
     clear hnext hsz hv hgo hp;generalize dG t=zt at *;refine A2 ⟨?_⟩;intros;refine Wo (ae (cs':=ndx n) rfl rfl om om hat hne) ?_;refine A2 ⟨?_⟩;intros;refine WfT cp ?_ (hs:=Tk.skip _ (Tk.skip _ (Tk.same _)));rintro _ _ ⟨rfl,rfl⟩;simp only [ab,a8];refine D1 cz ⟨?_⟩;intros;refine ot hown om (fun s' H1 hown'=>?_) (hsp:=Tk.skip _ (Tk.skip _ (Tk.skip _ (Tk.same _))));have hco':=hown'.co;replace hx:=hx s' H1 hown';clear hown hown';simp only [ab,a8];refine A2 ⟨?_⟩;intros;exact hx _ _ lfA Sw
 ·have hke:k=ns.length:=by omega
  subst hke;rw [eL]at hgo;have hR2:R = .ok out:=hgo.symm;subst hR2;rw [w7];refine WP.rowS 10 hown rfl (aG (l₁:=[(b4,117,[sl (nm.map str) nm.length,sl (ts.map bt) ts.length])])) ?_;clear hK hown hvv hst hok hh h hgo hog;refine A2 ⟨?_⟩;intros;exact ct _ _ (eJ (RV.tmp rfl) (RV.tmp rfl) Lr) (av _) rfl
abbrev tqx (t:Tr):List SV:=[lit (.int .i64 (t.root 0)),sl (t.rows 0) t.size]
theorem ND (t:Tr):(tqx t).length=2:=rfl
abbrev tqs (ts:List Tr):SV:=sl (ts.map tqx).flatten ts.length
theorem ug:∀t:Tr,t.size=dG t
 | .leaf _=>rfl
 | .node l a b=>by rw [Tr.size_node,ug a,ug b];rfl
abbrev TF:TypeId:=117
structure EnS where
 k:Nat
 s:SV
 Hs:LH
theorem Q4 {ts:List Tr}{k:Nat}{t:Tr}(h:ts[k]? = some t):(ts.take (k+1)).map bt=(ts.take k).map bt++[bt t]:=by
 rw [ji h,aH];rfl
structure S8 (L:List Li) (LL:Nat) (nm:List (List UInt8)) (ts:List Tr) (ns:List Nd) (N:Nat):Prop where
 e:EvE L LL nm ts
 sz:∀t∈ts,dG t≤60000
 ok:∀n∈ns,n.ok N
 Nl:N≤20
 nsl:ns.length≤30
 hh:∀n∈ns,n.k=4→wi n=false→re n∈L
theorem Kz [iF 0] [iF 6] [iF 4] [iF 8]{L:List Li}{LL:Nat}{nm:List (List UInt8)}{ts:List Tr}{ns:List Nd}{N:Nat}(h:S8 L LL nm ts ns N) (bud:Int) (free:Bool) :
  Pu Tryz.prog 19 [sl (ns.map ndx).flatten ns.length,sl (nm.map str) nm.length,tqs ts,lit (.int .i64 bud),lit (.bool free)]
   (if otx ns=none then Ab.tup [lit (.slice none 0 0),lit (jV 0)]else evR 6 4 8 (kS nm ts free bud ns [])):=by
 have cx:=L3 ns h.ok h.Nl h.nsl;have ci:=SK 0;have cn:=Md 0;have hnl:=h.e.nl;have hnm:=h.e.ns;have ce:=fun hst=>ML h.e h.ok (by have:=h.Nl;omega) (by have:=h.nsl;omega) hst h.hh bud free
 refine PuH.toPu ?_;refine PuH.intro Tryz.func19 rfl kr fun C hC=>?_
 refine A2 ⟨?_⟩;intros;rename_i b12
 refine WP.loopS (ι:=EnS) (fun y=>y.k≤ts.length∧Own ptT 1 y.k ((ts.take y.k).map bt) y.s y.Hs) (fun y=>ts.length-y.k)
  (fun y=>fm [(0,sl (ns.map ndx).flatten ns.length),(1,sl (nm.map str) nm.length),(2,tqs ts),(3,lit (.int .i64 bud)),(4,lit (.bool free)),(12,lit (.pointer (some ⟨b12,0,none⟩))),(21,tqs ts),(22,lit (.int .i64 ts.length)),(23,lit (.int .i64 y.k))])
  (fun y=>(b12,TF,[sl (nm.map str) nm.length,y.s])::y.Hs) ⟨0,lit (.slice none 0 0),[]⟩ ⟨an _,Own.nil _ _⟩ lfA Sr ?_
 rintro ⟨k,s,Hs⟩ ⟨hk,hown⟩ K hK;simp only at hk hown⊢;have hco:=hown.co;by_cases hkl:k<ts.length
 ·obtain⟨t,hget,hmem,hat,hne⟩:=elt ND om hkl;have c0:=S0 t (Tr.lin.all (p:=fun l=>l.ok∧l.le 100000) (fun l hl=>⟨h.e.ok l hl,(h.e.le l hl).gr (by have:=h.e.l2;omega)⟩) (h.e.tl t hmem)) (by rw [ug];exact h.sz t hmem);have hgo:=fun s' H1 (h1:Own ptT 1 (k+1) ((ts.take k).map bt++[bt t]) s' H1) F' H'=>hK F' H' ⟨k+1,s',H1⟩ ⟨by simp only;omega,by simp only;rw [Q4 hget];exact h1⟩ (by simp only;omega)
  clear hK h ce cx hget hmem;refine A2 ⟨?_⟩;intros;refine Wo (ae (cs':=tqx t) rfl rfl om om hat hne) ?_;refine D1 c0 ⟨?_⟩;intros;refine ot hown om (fun s' H1 hown'=>?_) (hsp:=Tk.skip _ (Tk.skip _ (Tk.skip _ (Tk.same _))));have hco':=hown'.co;replace hgo:=hgo s' H1 hown';clear hown hown';simp only [ab,a8];refine A2 ⟨?_⟩;intros;refine WPL.store (b:=b12) (o:=1) (sv:=s') (cs':=[sl (nm.map str) nm.length,s']) rfl rfl rfl (.there _ (.there _ (.here _))) rfl rfl ?_;refine A2 ⟨?_⟩;intros;exact hgo _ _ lfA Sw
 ·have hke:k=ts.length:=by omega
  subst hke;rw [aP]at hown;cases ho:otx ns with
  |none =>
   rw [ho]at cx;unfold IH at cx;simp only at cx;rw [if_pos rfl];clear hK hown h ce;refine D2 cx ci ⟨?_⟩;intros;exact ct _ _ (eJ (RV.tmp rfl) (RV.tmp rfl) Lr) (av _) rfl
  |some tx =>
   rw [ho]at cx;unfold IH at cx;simp only at cx;rw [if_neg (by simp)];replace ce:=ce (GY ho);generalize kS nm ts free bud ns []=R at *;clear hK h;obtain⟨hlen,⟨h0,rfl,rfl⟩|⟨b,cc,h1,h2,rfl,rfl⟩⟩:=hown
   ·have hle:Le (ag [sl (nm.map str) nm.length,lit (.slice none 0 0)]) (RR nm ts):=by
     have e0:ts=[]:=cT h0;subst e0;exact Le.ag ⟨Le.refl _,i5,trivial⟩
    have ce':=ce.arg (l':=[ag [sl (nm.map str) nm.length,lit (.slice none 0 0)],sl (ns.map ndx).flatten ns.length,lit (.int .i64 bud),lit (.bool free)]) ⟨hle,Le.refl _,Le.refl _,Le.refl _,trivial⟩;rcases R with⟨e,n⟩|out
    ·rw [sn]at *;refine D3 cx cn ce' ⟨?_⟩;intros;exact ct _ _ (eJ (RV.tmp rfl) (RV.tmp rfl) Lr) (av _) rfl
    ·rw [w7]at *;refine D3 cx cn ce' ⟨?_⟩;intros;exact ct _ _ (eJ (RV.tmp rfl) (RV.tmp rfl) Lr) (av _) rfl
   ·refine D1 cx ⟨?_⟩;intros;refine WPL.pubC (c1:=[sl (nm.map str) nm.length]) (c2:=[]) (s':=sl (ts.map bt) ts.length) (.there _ (.here _)) (.here _) (fun m arr hm ha=>wW hm ha h1 h2) ?_;simp only [ab,a8];rcases R with⟨e,n⟩|out
    ·rw [sn]at *;refine D2 cn ce ⟨?_⟩;intros;exact ct _ _ (eJ (RV.tmp rfl) (RV.tmp rfl) Lr) (av _) rfl
    ·rw [w7]at *;refine D2 cn ce ⟨?_⟩;intros;exact ct _ _ (eJ (RV.tmp rfl) (RV.tmp rfl) Lr) (av _) rfl
section
variable {P:Program}{C:Ctx}{n:Nat}{F:Fr}{H:LH}{ops:Array Oper}{K:Fr→LH→Prop}{Q:Exit→Fr→LH→Prop}
theorem bk.replK {m:Mem}{v:Value}{s':SV}{c2:List SV}(h:∀u,(lit v).p m u→s'.p m u):∀{c1:List SV}{l:List Value},bk m (c1++lit v::c2) l→bk m (c1++s'::c2) l
 | [],[],k=>k.elim
 | [],_::_,k=>⟨⟨h _ k.1.1,k.1.2⟩,k.2⟩
 |_::_,[],k=>k.elim
 |_::_,_::_,k=>⟨k.1,bk.replK h k.2⟩
theorem St.pubK {H1 H':LH}{a:Act}{w:World}{b o:Nat}{T To:TypeId}{cs c1 c2:List SV}{v:Value}{s':SV}(hs:St C n F H a w) (hdel:aq b T cs H H1)
  (hu:br o To (c1++lit v::c2) (c1++s'::c2) H1 H') (hsv:∀(m:Mem) (arr:Array Value),m b=some (.cells arr T (0,0))→bk m cs arr.toList→s'.p m v):St C n F H' a w:=by
 obtain⟨hdef,hn,m,h1,h2,h3,h4,h5⟩:=hs;obtain⟨hmb,arr,hb,hall⟩:=h2.2 _ hdel.mem
 have hle:m.le (fun x=>if x=b then w.heap[b]? else m x):=fun x o hx=>by
  show(if x=b then w.heap[b]? else m x)=some o
  rw [if_neg (fun e=>by rw [e]at hx;rw [hmb]at hx;cases hx)];exact hx
 have hk:=hdel.keys h2.1;have hval:s'.p (fun x=>if x=b then w.heap[b]? else m x) v:=hsv _ arr (by show(if b=b then w.heap[b]? else m b)=_;rw [if_pos rfl];exact hb) (hall.mono hle)
 refine⟨hdef,hn,(fun x=>if x=b then w.heap[b]? else m x),⟨fun x o hx=>?_,Mem.le_trans h1.base hle⟩,⟨hu.keys▸hk.1,fun e he=>?_⟩,⟨Mem.le_trans h3.le hle,fun x hx hnx=>?_,h3.os,h3.tape,h3.output,h3.size,h3.block⟩,
  fun e he=>?_,fun t=>(F t).mono hle (h5 t)⟩
 ·by_cases hxb:x=b
  ·subst hxb;simp only [aV]at hx;exact hx
  ·simp only [if_neg hxb]at hx;exact h1 x o hx
 ·rcases hu.mem' hk.1 e he with rfl|⟨he',hne⟩
  ·obtain⟨q1,arr',q2,q3⟩:=h2.2 _ (hdel.sub _ hu.mem);refine⟨?_,arr',q2,(q3.mono hle).replK fun u hu'=>?_⟩
   ·show(if o=b then w.heap[b]? else m o)=none
    rw [if_neg (hk.2 _ hu.mem)];exact q1
   ·rw [ap]at hu';subst hu';exact hval
  ·obtain⟨q1,arr',q2,q3⟩:=h2.2 e (hdel.sub e he');exact⟨by show(if e.1=b then w.heap[b]? else m e.1)=none;rw [if_neg (hk.2 e he')];exact q1,arr',q2,q3.mono hle⟩
 ·have hxb:x≠b:=fun e=>by
   subst e;rcases h4 _ hdel.mem with h|h
   ·exact hnx h
   ·exact absurd hx (iK.2 h)
  show(if x=b then w.heap[b]? else m x)=_
  rw [if_neg hxb];exact h3.old x hx hnx
 ·have:e.1∈H'.map (·.1):=aj.2 ⟨e,he,rfl⟩;rw [hu.keys]at this;obtain⟨e',he',hk'⟩:=aj.1 this;exact hk'▸h4 e' (hdel.sub e' he')
theorem Pg:Le (lit (.slice none 0 0)) (sl [] 0):=fun m v hv=>by
 rw [ap]at hv;subst hv;exact jq (au _) (by decide) (.inl rfl)
theorem Own.nilE {T:TypeId}{sz k:Nat}{cs:List SV}{s:SV}{Hs:LH}(h:Own T sz k cs s Hs) (hk:k=0):cs=[]:=by
 have:=h.1;rw [hk,bQ]at this;exact cT this
theorem St.pubOwnC {a:Act}{w:World}{o:Nat}{T To:TypeId}{sz k:Nat}{cs c1 c2:List SV}{s:SV}{Hs Rs:LH}(hown:Own T sz k cs s Hs) (hp:H.Perm ((o,To,c1++s::c2)::(Hs++Rs))) (hs:St C n F H a w) :
  St C n F ((o,To,c1++sl cs k::c2)::Rs) a w:=by
 have hs1:=hs.perm hp;have hown':=hown;obtain⟨_,⟨h0,rfl,rfl⟩|⟨b,c,hnc,hcm,rfl,rfl⟩⟩:=hown
 ·have hcs:=hown'.nilE h0;subst hcs;subst h0;rw [a8]at hs1;exact hs1.lowB (.here _) (LeL.app (LeL.refl _) (show LeL (lit (.slice none 0 0)::c2) (sl [] 0::c2)from⟨Pg,LeL.refl _⟩))
 ·exact St.pubK (hs1.perm (List.Perm.swap _ _ _)) (.here _) (.here _) fun m arr h1 h2=>pn h1 h2 hnc hcm
theorem WP.pubOwnC {c:Code}{o:Nat}{T To:TypeId}{sz k:Nat}{cs c1 c2:List SV}{s:SV}{Hs Rs:LH}(hown:Own T sz k cs s Hs) (hp:H.Perm ((o,To,c1++s::c2)::(Hs++Rs)))
  (h:WP P C n c Q F ((o,To,c1++sl cs k::c2)::Rs)):WP P C n c Q F H:=by
 unfold WP at *;exact fun a w hs=>h a w (hs.pubOwnC hown hp)
end
def abc:List (List UInt8):=[[97],[98],[99]]
structure vr where
 ts:List Tr
 L:List Li
 len:ts.length≤3
 ll:L.length≤36
 sm:∀l∈L,l.sm
 gd:∀t∈ts,Gd L t
abbrev vr.nm (e:vr):List (List UInt8):=abc.take e.ts.length
theorem vr.nml (e:vr):e.nm.length=e.ts.length:=by
 have:=e.len;show(abc.take e.ts.length).length=_
 rw [aC];show min e.ts.length 3=_
 omega
theorem vr.evE (e:vr){M:List Li}{LL:Nat}(h1:∀l∈M,l.ok) (h2:∀l∈M,l.le LL) (h3:1≤LL) (h4:LL≤500) (h5:M.length≤100) (h6:∀l∈e.L,l∈M):EvE M LL e.nm e.ts :=
 ⟨h1,h2,h3,h4,h5,(fun t ht=>Tr.lin.mono h6 (e.gd t ht).1),(fun t ht=>by have:=(e.gd t ht).dep;have:=e.ll;omega),e.nml,by rw [e.nml];have:=e.len;omega⟩
abbrev FO (e:vr):SV:=ag [sl (e.nm.map str) e.ts.length,sl (e.ts.map rt) e.ts.length]
abbrev envR:SV:=ex fun e:vr=>Ab.tup [FO e,tqs e.ts]
abbrev Ir:TypeId:=50
abbrev CX:TypeId:=28
theorem Tz (A X Y:LH):(A++(X++Y)).Perm (X++(A++Y)):=by
 rw [←ax,←ax];exact aG.append_right Y
theorem Ty (c:Nat×TypeId×List SV) (A X Y:LH):(c::(X++(A++Y))).Perm (Y++(c::(X++A))):=by
 rw [←ax,←ab];exact aG
theorem Tx (c:Nat×TypeId×List SV) (A X Y:LH):(Y++(c::(X++A))).Perm (c::(A++(X++Y))):=by
 have h1:(Y++(c::(X++A))).Perm ((c::(X++A))++Y):=aG;refine h1.trans ?_;rw [ab];refine List.Perm.cons c ?_;rw [←ax];exact aG.append_right Y
theorem Tw (A X Y:LH):(A++(X++Y)).Perm (Y++(A++X)):=by
 rw [←ax];exact aG
structure TW where
 ts:List Tr
 L:List Li
 s1:SV
 H1:LH
 s2:SV
 H2:LH
theorem Gt {ts:List Tr}{t:Tr}{s:SV}{H:LH}(h:Own Ir 1 (ts.length+1) (ts.map rt++[rt t]) s H):Own Ir 1 (ts++[t]).length ((ts++[t]).map rt) s H:=by
 rw [aH,ac,bH];exact h
theorem NE {ts:List Tr}{t:Tr}{s:SV}{H:LH}(h:Own 37 2 (ts.length+1) ((ts.map tqx).flatten++tqx t) s H):Own 37 2 (ts++[t]).length ((ts++[t]).map tqx).flatten s H:=by
 rw [aH,cH,ac,bH];simp only [aD,iz,bw,j4,bd];exact h
theorem RP (zs:List Int) (hz:zs.length≤400):PuT 5 zs [] envR:=by
 have hreg:=Et zs hz 0 om;rw [show(12*2^0:Nat)=12 from rfl,show(((0:Nat):Int))=0 from rfl]at hreg;refine PuM.intro Tryz.func5 rfl kr fun C b=>?_
 repeat(first|(refine Wo (e9 (r:=[(0,[str [97]]),(1,[str [98]]),(2,[str [99]])]) (cs:=[str [97],str [98],str [99]]) (.cons (sv:=str [97]) rfl inferInstance (.cons (sv:=str [98]) rfl inferInstance (.cons (sv:=str [99]) rfl inferInstance .nil)))) ?_)|(refine Wdo (e9 (r:=[(0,[str [97]]),(1,[str [98]]),(2,[str [99]])]) (cs:=[str [97],str [98],str [99]]) (.cons (sv:=str [97]) rfl inferInstance (.cons (sv:=str [98]) rfl inferInstance (.cons (sv:=str [99]) rfl inferInstance .nil)))) ?_)|(refine A1 ⟨?_⟩;intros))
 refine Wtx (fj zs hz 4 om om) mmA fun k=>?_
 obtain⟨k,hk⟩:=k;simp only [];refine Wo (L9 (sz:=1) k rfl rfl rfl om) ?_;rw [cB,show([str [97],str [98],str [99]]:List SV)=abc.map str from rfl,←mW];generalize hnm:(abc.take k).map str=nms at *;refine A2 ⟨?_⟩;intros;rename_i b2 b4
 refine WP.loopS (ι:=TW) (fun y=>y.ts.length≤k∧y.L.length≤12*y.ts.length∧(∀l∈y.L,l.sm)∧(∀t∈y.ts,Gd y.L t)∧Own Ir 1 y.ts.length (y.ts.map rt) y.s1 y.H1∧Own 37 2 y.ts.length (y.ts.map tqx).flatten y.s2 y.H2) (fun y=>k-y.ts.length)
  (fun y=>fm [(0,lit (.pointer (some ⟨b,0,none⟩))),(2,lit (.pointer (some ⟨b2,0,none⟩))),(4,lit (.pointer (some ⟨b4,0,none⟩))),(5,y.s2),(14,lit (.int .i64 k)),(15,lit (.int .i64 y.ts.length))])
  (fun y=>(b4,CX,[sl nms k,y.s1])::(b2,CX,[lit (.slice none 0 0),lit (.slice none 0 0)])::(b,56,mB zs)::(y.H1++y.H2)) ⟨[],[],lit (.slice none 0 0),[],lit (.slice none 0 0),[]⟩ ⟨an _,au _,(fun l hl=>by cases hl),(fun t ht=>by cases ht),Own.nil _ _,Own.nil _ _⟩ lfA Sr ?_
 rintro ⟨ts,L,s1,H1,s2,H2⟩ ⟨hk1,hLl,hLs,hgd,own1,own2⟩ K hK;simp only at hk1 hLl hLs hgd own1 own2⊢;have hco1:=own1.co;have hco2:=own2.co;by_cases hkl:ts.length<k
 ·refine A2 ⟨?_⟩;intros;refine Wtx hreg mmA fun x=>?_
  obtain⟨x,M,m1,m2,m3⟩:=x;simp only [];have y1:=m3.size (Bl m2);have y2:M.length*(1+M.length)≤12*13:=db m1 om;have w1:=A5 x (Tr.lin.all (fun l hl=>(m2 l hl).ile) m3.1) (by rw [ug];omega)
  have hgo:=fun s1' H1' s2' H2' (h1:Own Ir 1 (ts.length+1) (ts.map rt++[rt x]) s1' H1') (h2:Own 37 2 (ts.length+1) ((ts.map tqx).flatten++tqx x) s2' H2') F' H'=>hK F' H' ⟨ts++[x],L++M,s1',H1',s2',H2'⟩
   ⟨by simp only [ac,bH];omega,by simp only [ac,bH];omega,(fun l hl=>(az.1 hl).elim (hLs l) (m2 l)),
    (fun t ht=>(az.1 ht).elim (fun h=>Gd.mono (fun l hl=>cG _ hl) (hgd t h)) fun h=>by rw [ar.1 h];exact Gd.mono (fun l hl=>cN _ hl) m3),Gt h1,NE h2⟩ (by simp only [ac,bH];omega)
  simp only [ac,bH]at hgo;clear hK hLl hLs hgd m1 m2 m3 y1 y2 hreg;refine A2 ⟨?_⟩;intros;rename_i b9;refine Qz own1 (Tz [(b9,_,_),(b4,_,_),(b2,_,_),(b,_,_)] H1 H2) om (fun s1' H1' own1'=>?_) (cG _ Ms);have hco1':=own1'.co;refine D1 w1 ⟨?_⟩;intros;rename_i b10;refine Qz own2 (Ty _ _ H1' H2) om (fun s2' H2' own2'=>?_) Ms;have hco2':=own2'.co;refine WPL.perm (Tx _ [(b9,_,_),(b4,_,_),(b2,_,_),(b,_,_)] H1' H2') ?_;simp only [ab,a8];replace hgo:=hgo s1' H1' s2' H2' own1' own2';clear own1 own2 own1' own2' w1;refine A2 ⟨?_⟩;intros;refine WPL.store (b:=b4) (o:=1) (sv:=s1') (cs':=[sl nms k,s1']) rfl rfl rfl (.there _ (.there _ (.here _))) rfl rfl ?_;refine A2 ⟨?_⟩;intros;exact hgo _ _ lfA Sw
 ·have hke:ts.length=k:=by omega
  subst hke;have hlt:ts.length≤3:=by omega
  have hfin:∀e1:vr,e1.ts=ts→e1.nm.map str=nms:=fun e1 h=>by
   show(abc.take e1.ts.length).map str=nms
   rw [h];exact hnm
  refine WP.rowS 5 own2 rfl (R:=[(b4,CX,[sl nms ts.length,s1]),(b2,CX,[lit (.slice none 0 0),lit (.slice none 0 0)]),(b,56,mB zs)]++H1) (Tw [(b4,_,_),(b2,_,_),(b,_,_)] H1 H2) ?_;clear hK own2;simp only [ab,a8];refine WP.pubOwnC (o:=b4) (c1:=[sl nms ts.length]) (c2:=[]) own1 (List.Perm.cons _ (aG (l₁:=[(b2,_,_),(b,_,_)]))) ?_;clear own1 hco1 hco2;simp only [ab,a8];have hn:=hfin ⟨ts,L,hlt,om,hLs,hgd⟩ rfl;refine A2 ⟨?_⟩;intros
  exact fK () _ (eJ RVa (RV.tmp rfl) (Le.ex (f:=fun e:vr=>Ab.tup [FO e,tqs e.ts]) ⟨ts,L,hlt,om,hLs,hgd⟩ (by
   simp only [FO];rw [hn];exact Le.refl _))) mmA (LeL.refl _)
def plF (i:Nat) (n:Nd):Nd:={n with ln:=1+(i:Int)%3,cl:=1+(i:Int)}
def plG:Nat→List Nd→List Nd
 |_,[]=>[]
 |i,n::r=>plF i n::plG (i+1) r
theorem qu:∀(ns:List Nd) (i:Nat),(plG i ns).length=ns.length
 | [],_=>rfl
 |_::r,i=>by show(plG (i+1) r).length+1=r.length+1;rw [qu r]
def plK (ns:List Nd) (k:Nat):List Nd:=plG 0 (ns.take k)++ns.drop k
theorem GK:∀(a b:List Nd) (i:Nat),plG i (a++b)=plG i a++plG (i+a.length) b
 | [],b,i=>rfl
 |n::a,b,i=>by
  show plF i n::plG (i+1) (a++b)=plF i n::(plG (i+1) a++plG (i+(a.length+1)) b)
  rw [GK a b (i+1),show i+1+a.length=i+(a.length+1) by omega]
theorem KZ (ns:List Nd):plK ns 0=ns:=rfl
theorem O5 (ns:List Nd):plK ns ns.length=plG 0 ns:=by
 unfold plK;rw [aP,eL,bd]
theorem IE {ns:List Nd}{k:Nat}{n:Nd}(h:ns[k]? = some n):plK ns k=plG 0 (ns.take k)++n::ns.drop (k+1)∧plK ns (k+1)=plG 0 (ns.take k)++plF k n::ns.drop (k+1):=by
 have hk:=(bI.1 h).1;constructor
 ·unfold plK;rw [kw h]
 ·unfold plK;rw [sP,h,Option.toList_some,GK,aC,dv om,aB];simp [plG]
end Go.Ab
