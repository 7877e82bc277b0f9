/- Texts laid one behind the other: ClsE, ScR, Plc, PlcB, Classes. -/
import Derived.Test.YtbcojehfealiaaaGreatDoorB35
set_option linter.all false
set_option maxHeartbeats 16000000
namespace Go.Ab
open Go.Proofs
variable [Base]
open Classical in
noncomputable def rA (t:Tr) (p:Pq):Int:=if∃d,gen t p d∧tow t p d=true then(if∀d,gen t p d→tow t p d=true then 2 else 1)else 0
def Ii (i a:Bool):Int:=if i=true then(if a=true then 2 else 1)else 0
theorem zH {P Q:Prop}{d:Decidable P}{e:Decidable Q}(h:P↔Q){a b a' b':Int}(ha:a=a') (hb:b=b'):(if P then a else b)=if Q then a' else b':=by
 by_cases k:P
 ·rw [if_pos k,if_pos (h.1 k),ha]
 ·rw [if_neg k,if_neg (fun q=>k (h.2 q)),hb]
theorem E3 {t:Tr}{p:Pq}{D:List Pq}(h:kh t p D) (hk:t.lok):Ii ((kU D).any (tow t p)) ((kU D).all (tow t p))=rA t p:=by
 unfold Ii rA;exact zH (h.any hk) (zH (h.all hk) rfl rfl) rfl
theorem I8 {m:M6 Rat}(h:m.det≠0){t:Tr}(hl:t.lok) (p:Pq):rA (t.im m) (m.app p)=rA t p:=by
 have e1:(∃d,gen (t.im m) (m.app p) d∧tow (t.im m) (m.app p) d=true)↔∃d,gen t p d∧tow t p d=true:=by
  constructor
  ·rintro ⟨d,hd,e⟩;have g:=Dv h hl hd;rw [oz h _ d hl]at e;rw [fV h]at g e;exact⟨_,g,e⟩
  ·rintro ⟨d,hd,e⟩;have g:=DF (q:=m.app p) h hl (by rw [fV h];exact hd);exact⟨_,g,by rw [oz h _ _ hl,kK h,fV h];exact e⟩
 have e2:(∀d,gen (t.im m) (m.app p) d→tow (t.im m) (m.app p) d=true)↔∀d,gen t p d→tow t p d=true:=by
  constructor
  ·intro k d hd;have:=k _ (DF (q:=m.app p) h hl (by rw [fV h];exact hd));rw [oz h _ _ hl,kK h,fV h]at this;exact this
  ·intro k d hd;have g:=Dv h hl hd;rw [fV h]at g;rw [oz h _ d hl,fV h];exact k _ g
 unfold rA;exact zH e1 (zH e2 rfl rfl) rfl
theorem nk {p q:Li→Prop}(hpq:∀l,p l→q l):∀{t:Tr},t.all p→t.all q
 | .leaf _,_=>trivial
 | .node _ _ _,h=>⟨hpq _ h.1,nk hpq h.2.1,nk hpq h.2.2⟩
theorem yt (i a:Bool):Pu Tryz.prog 131 [lit (.bool i),lit (.bool a)] (lit (.int .i64 (Ii i a))):=by
 cases i <;> cases a
 all_goals
  refine Pi Tryz.func131 fun C=>?_
  exact Z1
theorem E5 {L:Nat}(h1:1≤L) (hU:L≤500){p:Pq}(hp0:hp p 100000){t:Tr}(hall:t.all fun l=>l.ok∧l.le L) (hlok:t.lok) (hle:t.all fun l=>l.le L) (hsz:cU t≤100000):Pu Tryz.prog 69 [bt t,ppq p] (lit (.int .i64 (rA t p))):=by
 have c1:=tQ h1 hU hp0 t hall 0 [] (lit (.slice none 0 0)) [] (Own.nil _ _) om;rw [Nat.zero_add,List.nil_append]at c1;have hlen:=mI t p;have c2:=fun s Hs (h:Own pa 6 (dB t p).length ((dB t p).map ppx).flatten s Hs)=>rT (N:=3*L+3) om (dB t p) om (mJ h1 t p hall) h
 refine PuH.toPu ?_;refine PuH.intro Tryz.func69 rfl kr fun C hC=>?_
 repeat(first|(refine Wo (aF (sv:=ag _) rfl) ?_)|(refine Wdo (aF (sv:=ag _) rfl) ?_)|(refine A1 ⟨?_⟩;intros))
 refine WfT c1 ?_;intro r1 H1 own1;have hco1:=own1.co;simp only [List.nil_append];repeat(refine A1 ⟨?_⟩;intros)
 refine WfT (c2 r1 H1 own1) ?_;rintro r2 H2 ⟨D,⟨l',f1,f2,f3⟩,f4,f5,own2⟩;have hr:kh t p D:=by rw [f3];exact Bn hlok f1 f2
 have hDp:∀e∈D,hp e (3*L+3):=fun e he=>(mJ h1 t p hall e (f5 e he)).2
 have hgen:=(hr.rep hlok).1;have hcl:=E3 hr hlok;have c3:=xq hDp om om
 have hS:∀e∈kU D,hp e 100000:=fun e he=>by
  unfold kU at he;split at he
  ·rw [List.mem_singleton.1 he];have:=fv;have:=Dx;exact⟨by show ht 1≤_;omega,by show ht 0≤_;omega⟩
  ·rename_i h0;obtain⟨i,hi,rfl⟩:=List.mem_map.1 he;have hi:=List.mem_range.1 hi;have g:∀{k:Nat},k<D.length→hp (D.getD k (0,0)) (3*L+3):=fun hk=>hDp _ (List.mem_of_getElem? (uH hk))
   have:=EO (g hi) (g (Nat.mod_lt (i+1) om));exact⟨Nat.le_trans this.1 om,Nat.le_trans this.2 om⟩
 have hSl:(kU D).length≤1000000:=by
  unfold kU;split
  ·simp
  ·rw [List.length_map,List.length_range];omega
 have c4:=fun e he=>Ai h1 hU hp0 (hS e he) t hle (hgen e he)
 have hco2:=own2.co;simp only [List.nil_append];refine WPL.rowS 14 own2 rfl (R:=[]) (by simp) ?_;rw [←hcl];clear c1 c2 hall hle hsz hlok hlen hgen hr hcl hDp hS own1 own2 f1 f2 f3 f4 f5;generalize kU D=S at *;repeat(first|(refine A1 ⟨?_⟩;intros)|refine W4 c3 ⟨?_⟩)
 refine WP.loopS (ι:=Nat) (fun k=>k≤S.length) (fun k=>S.length-k) (fun k=>fm [(0,bt t),(3,pt (ppx p)),(5,lit (.bool ((S.take k).any (tow t p)))),(6,lit (.bool ((S.take k).all (tow t p)))),(15,pps S),(16,lit (.int .i64 S.length)),(17,lit (.int .i64 k))]) (fun _=>[]) 0
  (Nat.zero_le _) lfA (List.nil_sublist _) ?_
 rintro k hk K hK;by_cases hkl:k<S.length
 ·obtain⟨e,hget,hmm,hat,hne⟩:=elt (f:=ppx) et om hkl;have hgo:=fun F' H'=>hK F' H' (k+1) om om
  have d1:=c4 e hmm;have ea:(S.take (k+1)).any (tow t p)=((S.take k).any (tow t p)||tow t p e):=by rw [cF hget,List.any_append];simp
  have eb:(S.take (k+1)).all (tow t p)=((S.take k).all (tow t p)&&tow t p e):=by rw [cF hget,List.all_append];simp
  rw [ea,eb]at hgo;clear hK c4 ea eb;generalize(S.take k).any (tow t p)=x at *;generalize(S.take k).all (tow t p)=y at *;cases htw:tow t p e
  ·rw [htw]at d1 hgo;rw [Bool.or_false,Bool.and_false]at hgo;repeat(refine A1 ⟨?_⟩;intros)
   refine Wo (a8 (cs':=ppx e) rfl rfl om om hat hne) ?_;repeat(first|(refine A1 ⟨?_⟩;intros)|refine W4 d1 ⟨?_⟩)
   exact hgo _ _ lfA (by repeat(first|exact Sr|exact List.nil_sublist _|refine Sc ?_))
  ·rw [htw]at d1 hgo;rw [Bool.or_true,Bool.and_true]at hgo;repeat(refine A1 ⟨?_⟩;intros)
   refine Wo (a8 (cs':=ppx e) rfl rfl om om hat hne) ?_;repeat(first|(refine A1 ⟨?_⟩;intros)|refine W4 d1 ⟨?_⟩)
   exact hgo _ _ lfA (by repeat(first|exact Sr|exact List.nil_sublist _|refine Sc ?_))
 ·have hke:k=S.length:=by omega
  subst hke;rw [List.take_length];clear hK;have c5:=yt (S.any (tow t p)) (S.all (tow t p));generalize S.any (tow t p)=x at *;generalize S.all (tow t p)=y at *;repeat(first|(refine A1 ⟨?_⟩;intros)|refine W4 c5 ⟨?_⟩)
  exact eL _ _ (ax (RV.tmp rfl) Lr) (List.nil_sublist _) rfl
theorem sU {L:Nat}(h1:1≤L) (hU:L≤500){x y:Rat}(hx:ht x≤90000) (hy:ht y≤90000){t:Tr}(hall:t.all fun l=>l.ok∧l.le L) (hlok:t.lok) (hle:t.all fun l=>l.le L) (hsz:t.size≤60000):Pu Tryz.prog 25 [tq t,pq x y] (Ab.tup [lit (.int .i64 (rA t (x,y))),lit .nilIface]):=by
 have c1:=yv t (nk (fun l h=>⟨h.1,h.2.to om⟩) hall) hsz;have c2:=CA x y om om;have c3:=E5 h1 hU (p:=(x,y)) ⟨by show ht x≤_;omega,by show ht y≤_;omega⟩ hall hlok hle (by rw [←jf];omega);simp only [ppq]at c3;clear hall hlok hle;generalize rA t (x,y)=z at *;refine Pi Tryz.func25 fun C=>?_
 repeat(first|(refine Wo (aF (sv:=ag _) rfl) ?_)|(refine Wdo (aF (sv:=ag _) rfl) ?_)|(refine A1 ⟨?_⟩;intros)|refine W4 c1 ⟨?_⟩|refine W4 c2 ⟨?_⟩|refine W4 c3 ⟨?_⟩)
 exact G2
end Go.Ab
namespace Go.Ab
open Go.Proofs
variable [Base]
abbrev EX (n:Nat):SV:=ex fun t:{t:Tr //∃L:List Li,L.length≤n∧(∀l∈L,l.sm)∧Gd L t}=>rt t.1
theorem gM {n:Nat}{t:Tr}(L:List Li) (h1:L.length≤n) (h2:∀l∈L,l.sm) (h3:Gd L t):Le (rt t) (EX n):=Le.ex (f:=fun t:{t:Tr //∃L:List Li,L.length≤n∧(∀l∈L,l.sm)∧Gd L t}=>rt t.1) ⟨t,L,h1,h2,h3⟩ Lr
theorem lr:∀t:Tr,t.lin (bB t)
 | .leaf _=>trivial
 | .node l a b=>⟨Ms,Tr.lin.mono (fun x hx=>Mc (List.mem_append_left _ hx)) (lr a),Tr.lin.mono (fun x hx=>Mc (List.mem_append_right _ hx)) (lr b)⟩
theorem gU:∀t:Tr,(bB t).length=t.size
 | .leaf _=>rfl
 | .node l a b=>by
  rw [Tr.size_node,←gU a,←gU b];show(l::(bB a++bB b)).length=_
  rw [List.length_cons,List.length_append];omega
theorem eU {p:Li→Prop}:∀{t:Tr},t.all p→∀l∈bB t,p l
 | .leaf _,_,l,h=>by cases h
 | .node m a b,k,l,h=>by
  rcases List.mem_cons.1 h with h|h
  ·rw [h];exact k.1
  ·rcases List.mem_append.1 h with h|h
   ·exact eU k.2.1 l h
   ·exact eU k.2.2 l h
theorem nA:∀t:Tr,eM t≤t.size
 | .leaf _=>Nat.le_refl _
 | .node l a b=>by
  have:=nA a;have:=nA b;rw [Tr.size_node];simp only [eM];omega
theorem Gd.mono {L M:List Li}(hs:∀l∈L,l∈M){t:Tr}(h:Gd L t):Gd M t:=⟨Tr.lin.mono hs h.1,h.2⟩
theorem xl {L:List Li}(h:∀l∈L,l.sm):∀l∈L,l.ok:=fun l hl=>(h l hl).1
theorem uI {L:List Li}(h:∀l∈L,l.sm){t:Tr}(k:Gd L t):t.all fun l=>l.sm:=Tr.lin.all h k.1
theorem DG {rs:List (List Pq)}{fill:Int}(hrl:rs.length≤2) (hrs:∀r∈rs,i0 r):∃L:List Li,L.length≤12∧(∀l∈L,l.sm)∧Gd L (bq (jN (inR rs fill) 20000 ((rs.map dY).flatten) []) []):=by
 have hLl:=gT rs hrs;have hL:=ur hrs;have hlen:((rs.map dY).flatten).length≤12:=by have:=hLl;unfold g8 at this;rw [List.length_map]at this;omega
 have hfw:∀f∈(rs.map dY).flatten,FgG (g8 rs) f:=fun f hf=>by
  obtain⟨e,he,hfe⟩:=List.mem_flatten.1 hf;obtain⟨r,hr,rfl⟩:=List.mem_map.1 he;exact(uO (hrs r hr) f hfe).2.2 _ (List.mem_map.2 ⟨f,hf,rfl⟩)
 have hphi:ft (g8 rs) (rs.map dY).flatten≤12*13:=Nat.le_trans (u4 _ _) (Nat.mul_le_mul hlen om);obtain⟨_,_,z3⟩:=kD (inR rs fill) 20000 ((rs.map dY).flatten) [] hfw om;exact⟨g8 rs,om,hL,Gd.restr (xl hL) z3⟩
theorem fX (zs:List Int) (hz:zs.length≤400):PuT 37 zs [] (EX 12):=by
 have key:∀(rs:List (List Pq)) (fill:Int),rs≠[]→rs.length≤2→(∀r∈rs,i0 r)→(fill=1∨fill=2)→Pu Tryz.prog 87 [rL rs] (Bx rs)∧Pu Tryz.prog 86 [Bx rs,lit (.int .i64 fill)] (rgR rs fill (jO (g8 rs)))∧Pu Tryz.prog 85 [rgR rs fill (jO (g8 rs))] (rt (bq (jN (inR rs fill) 20000 ((rs.map dY).flatten) []) [])):=fun rs fill h0 hl hr hf =>
  ⟨tR rs om hr,EU fill h0 om hr,AF hf om hr⟩
 have fin:∀(rs:List (List Pq)) (fill:Int),rs.length≤2→(∀r∈rs,i0 r)→Le (rt (bq (jN (inR rs fill) 20000 ((rs.map dY).flatten) []) [])) (EX 12):=fun rs fill hl hr=>by
  obtain⟨L,h1,h2,h3⟩:=DG (fill:=fill) hl hr;exact gM L h1 h2 h3
 refine PuM.intro Tryz.func37 rfl kr fun C b=>?_
 repeat(refine A1 ⟨?_⟩;intros)
 refine Wtx (vj zs hz) mmA fun r=>?_
 obtain⟨r,hr⟩:=r;simp only [];refine Wo (gO (s:=rps r) (ds:=[rps r]) rfl inferInstance) ?_;repeat(refine A1 ⟨?_⟩;intros)
 refine Wtx (bR zs hz 3 om om) mmA fun k=>?_
 obtain⟨k,hk⟩:=k;simp only [];by_cases hk0:k=0
 ·subst hk0;repeat(refine A1 ⟨?_⟩;intros)
  refine Wtx (vj zs hz) mmA fun q=>?_
  obtain⟨q,hq⟩:=q;simp only [];refine Wo (bs (r:=[(0,[rps q])]) (cs:=[rps q]) (.cons (sv:=rps q) rfl inferInstance .nil)) ?_;refine Wo (ay (k:=1) (k0:=1) (ds:=[rps q]) rfl rfl rfl rfl om) ?_
  have hrs:∀x∈[r,q],i0 x:=fun x hx=>by
   rcases List.mem_cons.1 hx with h|h
   ·rw [h];exact hr
   ·rw [List.mem_singleton.1 h];exact hq
  have ca:=tR [r,q] (by simp) hrs;repeat(first|(refine A1 ⟨?_⟩;intros)|refine W4 ca ⟨?_⟩)
  refine Wtx (bR zs hz 2 om om) mmA fun k=>?_
  obtain⟨k,hk⟩:=k;simp only [];have hf:(1+(k:Int))=1∨(1+(k:Int))=2:=by omega
  obtain⟨_,c1,c2⟩:=key [r,q] (1+(k:Int)) (by simp) (by simp) hrs hf;have hfin:=fin [r,q] (1+(k:Int)) (by simp) hrs;repeat(first|(refine A1 ⟨?_⟩;intros)|refine W4 c1 ⟨?_⟩|refine W4 c2 ⟨?_⟩)
  exact bN () _ (ax (RV.tmp rfl) hfin) mmA (LeL.refl _)
 ·repeat(refine A1 ⟨?_⟩;intros)
  have hrs:∀x∈[r],i0 x:=fun x hx=>by rw [List.mem_singleton.1 hx];exact hr
  have ca:=(tR [r] (by simp) hrs).arg (l':=[xsl [rps r] 1]) ⟨qS,trivial⟩;repeat(first|(refine A1 ⟨?_⟩;intros)|refine W4 ca ⟨?_⟩)
  refine Wtx (bR zs hz 2 om om) mmA fun k=>?_
  obtain⟨k,hk⟩:=k;simp only [];have hf:(1+(k:Int))=1∨(1+(k:Int))=2:=by omega
  obtain⟨_,c1,c2⟩:=key [r] (1+(k:Int)) (by simp) (by simp) hrs hf;have hfin:=fin [r] (1+(k:Int)) (by simp) hrs;repeat(first|(refine A1 ⟨?_⟩;intros)|refine W4 c1 ⟨?_⟩|refine W4 c2 ⟨?_⟩)
  exact bN () _ (ax (RV.tmp rfl) hfin) mmA (LeL.refl _)
theorem pow_one (d:Nat):12≤12*2^d:=by have:0<2^d:=Nat.pow_pos om;omega
theorem zM {l:Li}(hl:l.sm):Pu Tryz.prog 60 [rt (.node l (.leaf true) (.leaf false))] (rt (bq (.node l (.leaf true) (.leaf false)) [])):=jg _ ⟨hl,trivial,trivial⟩ (by simp [eM])
theorem zN {l:Li}(hl:l.sm):Gd [l] (bq (.node l (.leaf true) (.leaf false)) []):=Gd.restr (fun x hx=>by rw [List.mem_singleton.1 hx];exact hl.1) ⟨List.mem_singleton.2 rfl,trivial,trivial⟩
theorem yF {t:Tr}(h:t.all fun l=>l.ok∧l.le 1):Gd (bB t) (bq t []):=Gd.restr (fun l hl=>(eU h l hl).1) (lr t)
theorem xh (zs:List Int) (hz:zs.length≤400):∀d:Nat,d≤3→PuT 22 zs [lit (.int .i64 (d:Int))] (EX (12*2^d)):=by
 intro d;induction d with
 |zero =>
  intro _;refine PuM.intro Tryz.func22 rfl kr fun C b=>?_
  repeat(refine A1 ⟨?_⟩;intros)
  refine Wtx (bR zs hz 6 om om) mmA fun k=>?_
  obtain⟨k,hk⟩:=k;simp only [];rcases(by omega:k=1∨k=2∨k=3∨k=0∨(k≠0∧k≠1∧k≠2∧k≠3))with rfl|rfl|rfl|rfl|⟨k0,k1,k2,k3⟩
  ·repeat(refine A1 ⟨?_⟩;intros)
   refine Wtx (BS zs hz) mmA fun l=>?_
   obtain⟨l,hok,hle⟩:=l;simp only [];have c:=zM (l:=l) ⟨hok,hle⟩;rw [show rt (.node l (.leaf true) (.leaf false))=pt (rc (.node l (.leaf true) (.leaf false)))from rfl,fq]at c;repeat(first|(refine Wo (aF (sv:=ag _) rfl) ?_)|(refine Wdo (aF (sv:=ag _) rfl) ?_)|(refine A1 ⟨?_⟩;intros)|refine W4 (cB true) ⟨?_⟩|refine W4 (cB false) ⟨?_⟩|refine W4 c ⟨?_⟩)
   exact bN () _ (ax (RV.tmp rfl) (gM [l] (by simp) (fun x hx=>by rw [List.mem_singleton.1 hx];exact⟨hok,hle⟩) (zN ⟨hok,hle⟩))) mmA (LeL.refl _)
  ·repeat(refine A1 ⟨?_⟩;intros)
   refine Wtx (pY zs hz 3 om) mmA fun t=>?_
   obtain⟨t,ht,hs⟩:=t;simp only [];have h8:t.size<8:=hs;have hd:=nA t;have c:=jg t ht om;have hln:=gU t;repeat(first|(refine A1 ⟨?_⟩;intros)|refine W4 c ⟨?_⟩)
   exact bN () _ (ax (RV.tmp rfl) (gM (bB t) (by simp only [Nat.pow_zero];omega) (fun x hx=>eU ht x hx) (yF ht))) mmA (LeL.refl _)
  ·repeat(refine A1 ⟨?_⟩;intros)
   refine Wtx (fX zs hz) mmA fun t=>?_
   obtain⟨t,L,h1,h2,h3⟩:=t;simp only [];have c:=mC t (uI h2 h3);repeat(first|(refine A1 ⟨?_⟩;intros)|refine W4 c ⟨?_⟩)
   exact bN () _ (ax (RV.tmp rfl) (gM L (by simpa using h1) h2 h3.not)) mmA (LeL.refl _)
  ·repeat(refine A1 ⟨?_⟩;intros)
   refine Wtx (fX zs hz) mmA fun t=>?_
   obtain⟨t,L,h1,h2,h3⟩:=t;simp only [];repeat(refine A1 ⟨?_⟩;intros)
   exact bN () _ (ax (RV.tmp rfl) (gM L (by simpa using h1) h2 h3)) mmA (LeL.refl _)
  ·repeat(refine A1 ⟨?_⟩;intros)
   refine Wtx (fX zs hz) mmA fun t=>?_
   obtain⟨t,L,h1,h2,h3⟩:=t;simp only [];repeat(refine A1 ⟨?_⟩;intros)
   exact bN () _ (ax (RV.tmp rfl) (gM L (by simpa using h1) h2 h3)) mmA (LeL.refl _)
 |succ d ih =>
  intro hd;have hr:=ih om;rw [show(d:Int)=((d+1:Nat):Int)-1 from by omega]at hr;have hp:=pow_one (d+1);have hp8:12*2^(d+1)=12*2^d+12*2^d:=by rw [Nat.pow_succ];omega
  have hp3:2^d≤2^3:=Nat.pow_le_pow_right om om;clear ih;refine PuM.intro Tryz.func22 rfl kr fun C b=>?_
  repeat(refine A1 ⟨?_⟩;intros)
  refine Wtx (bR zs hz 6 om om) mmA fun k=>?_
  obtain⟨k,hk⟩:=k;simp only [];rcases(by omega:k=0∨k=1∨k=2∨k=3∨(k≠0∧k≠1∧k≠2∧k≠3))with rfl|rfl|rfl|rfl|⟨k0,k1,k2,k3⟩
  ·repeat(refine A1 ⟨?_⟩;intros)
   refine Wtx hr mmA fun t=>?_
   obtain⟨t,L,h1,h2,h3⟩:=t;simp only [];repeat(refine A1 ⟨?_⟩;intros)
   refine Wtx (bR zs hz 4 om om) mmA fun o=>?_
   obtain⟨o,ho⟩:=o;simp only [];repeat(refine A1 ⟨?_⟩;intros)
   refine Wtx hr mmA fun u=>?_
   obtain⟨u,M,m1,m2,m3⟩:=u;simp only [];have q1:=h3.dep;have q2:=m3.dep;have hLM:∀l∈L++M,l.sm:=fun l hl=>(List.mem_append.1 hl).elim (h2 l) (m2 l)
   have g1:=Gd.mono (M:=L++M) (fun l hl=>List.mem_append_left _ hl) h3;have g2:=Gd.mono (M:=L++M) (fun l hl=>List.mem_append_right _ hl) m3;have c:=gK (1+(o:Int)) om u (uI m2 m3) t [] (uI h2 h3) (fun m h=>by cases h) (by simp only [List.length_nil];omega);have c':=c.arg (l':=[lit (.int .i64 (1+(o:Int))),rt t,rt u,lit (.slice none 0 0)]) ⟨Le.refl _,Le.refl _,Le.refl _,ew,trivial⟩;have hg:Gd (L++M) (dE (1+(o:Int)) t u []):=Gd.merge (xl hLM) g1.1 g2.1;have hlen:(L++M).length≤12*2^(d+1):=by rw [List.length_append];omega
   generalize dE (1+(o:Int)) t u []=r at *;clear c h3 m3 g1 g2 h2 m2;repeat(first|(refine A1 ⟨?_⟩;intros)|refine W4 c' ⟨?_⟩)
   exact bN () _ (ax (RV.tmp rfl) (gM (L++M) hlen hLM hg)) mmA (LeL.refl _)
  ·repeat(refine A1 ⟨?_⟩;intros)
   refine Wtx (BS zs hz) mmA fun l=>?_
   obtain⟨l,hok,hle⟩:=l;simp only [];have c:=zM (l:=l) ⟨hok,hle⟩;rw [show rt (.node l (.leaf true) (.leaf false))=pt (rc (.node l (.leaf true) (.leaf false)))from rfl,fq]at c;repeat(first|(refine Wo (aF (sv:=ag _) rfl) ?_)|(refine Wdo (aF (sv:=ag _) rfl) ?_)|(refine A1 ⟨?_⟩;intros)|refine W4 (cB true) ⟨?_⟩|refine W4 (cB false) ⟨?_⟩|refine W4 c ⟨?_⟩)
   exact bN () _ (ax (RV.tmp rfl) (gM [l] (by simp only [List.length_singleton];omega) (fun x hx=>by rw [List.mem_singleton.1 hx];exact⟨hok,hle⟩) (zN ⟨hok,hle⟩))) mmA (LeL.refl _)
  ·repeat(refine A1 ⟨?_⟩;intros)
   refine Wtx (pY zs hz 3 om) mmA fun t=>?_
   obtain⟨t,ht,hs⟩:=t;simp only [];have h8:t.size<8:=hs;have hd:=nA t;have c:=jg t ht om;have hln:=gU t;repeat(first|(refine A1 ⟨?_⟩;intros)|refine W4 c ⟨?_⟩)
   exact bN () _ (ax (RV.tmp rfl) (gM (bB t) om (fun x hx=>eU ht x hx) (yF ht))) mmA (LeL.refl _)
  ·repeat(refine A1 ⟨?_⟩;intros)
   refine Wtx (fX zs hz) mmA fun t=>?_
   obtain⟨t,L,h1,h2,h3⟩:=t;simp only [];have c:=mC t (uI h2 h3);repeat(first|(refine A1 ⟨?_⟩;intros)|refine W4 c ⟨?_⟩)
   exact bN () _ (ax (RV.tmp rfl) (gM L om h2 h3.not)) mmA (LeL.refl _)
  ·repeat(refine A1 ⟨?_⟩;intros)
   refine Wtx (fX zs hz) mmA fun t=>?_
   obtain⟨t,L,h1,h2,h3⟩:=t;simp only [];repeat(refine A1 ⟨?_⟩;intros)
   exact bN () _ (ax (RV.tmp rfl) (gM L om h2 h3)) mmA (LeL.refl _)
section
variable {P:Program}{C:Ctx}{n:Nat}{F:Fr}{H:LH}{ops:Array Oper}{Q:Fr→LH→Prop}{rest:List Oper}{ty:TypeId}{pos:String}{aft:Array Edge}
theorem WPL.newN {d:Nat}{op:Op}{T:TypeId}{z:List SV}{mk:Nat→Value}(hT:jM P op F T z mk) (k:∀b,WPL P C n ops rest Q (upd F d (lit (mk b))) ((b,T,z)::H)) (hd:Nat.blt d n=true:=by exact rfl) (hdf:(!n8 op)=true:=by exact rfl) :
  WPL P C n ops (⟨some d,op,ty,pos,aft,none⟩::rest) Q F H:=by
 unfold WPL;intro a w hs Q hq;refine wpList_plain rfl fun K' hK'=>?_
 obtain⟨hdef,hn,m,h1,h2,h3,h4,h5⟩:=id hs
 have hp:∀x,(ev F x).p m (a.eval x):=fun x=>by
  cases x with
  |tmp t=>exact h5 t
  |const v=>unfold ev lit;rfl
  |global g=>unfold ev lit;rfl
  |func f=>unfold ev lit;rfl
 obtain⟨arr,hrun,hall⟩:=hT w ⟨some d,op,ty,pos,aft,none⟩ a rfl ⟨m,fun t _=>h5 t⟩;unfold Oper.wp;rw [hrun];have h:=k w.heap.size;unfold WPL at h;exact hK' _ _ (h _ _ (St.push (Nat.blt_eq.mp hd) hs fun m hm=>hall m fun t _=>hm (.tmp t)) Q hq)
end
section
variable {P:Program}{C:Ctx}{n:Nat}{F:Fr}{ops:Array Oper}{rs:List Nat}{Hc E:LH}{K:Fr→LH→Prop}{s i d:Nat}{r:List NO'}{ty:TypeId}{pos:String}{aft:Array Edge}
theorem ZkB {T e:TypeId}{sz by_:Nat}{z:List SV}{g:Bool} [hS:TSl P T e] [hT:TY P e sz by_ z g]{x:Operand}{sv:SV}{ds:List SV}(hx:ev F x=sv) (hco:CO sv ds)
  (k:∀s' H',Own e sz 1 ds s' H'→Mz P C n ops rs Hc K (s+1) r (upd F d s') (H'++E))
  (hf:fx ((List.range 1).map fun i=>(i*sz,sz)) (List.replicate 1 z).flatten [(0,ds)]=some ds:=by exact rfl) (hsz:Nat.ble (1*sz) 16777216=true:=by exact rfl) (hpos:Nat.blt 0 sz=true:=by exact rfl) (hds:ds.length=1*sz:=by exact rfl)
  (ho:ops[i]? = some ⟨some d, .buildSlice T 1 [(0,x)].toArray,ty,pos,aft,none⟩:=by exact rfl) (hr:rs[s]? = some i:=by exact rfl) (hd:Nat.blt d n=true:=by exact rfl) :
  Mz P C n ops rs Hc K s ((i,⟨some d, .buildSlice T 1 [(0,x)].toArray,ty,pos,aft,none⟩)::r) F E:=by
 refine .row (Post:=fun sv E'=>∃H',Own e sz 1 ds sv H'∧E'=H'++E) hr (TZ.of ho rfl fun F1 hF1=>?_) fun sv E' hP=>?_
 ·have hx1:ev F1 x=sv:=by rw [←hx];exact(cD (by simp [Op.operands]) hF1)
  refine WPL.newN (fO (.cons hx1 hco .nil) hf hsz hpos) (fun b=>WPL.nil ⟨lit (mkS 1 b),⟨[(b,e,ds)]++E,rfl,[(b,e,ds)],⟨hds, .inr ⟨b,1,Nat.le_refl _,by simp only [maxLen];omega,rfl,?_⟩⟩,rfl⟩,rfl⟩) hd;rw [Nat.sub_self];simp
 ·obtain⟨H',hR,rfl⟩:=hP;exact k sv H' hR
theorem ZkO {T e:TypeId}{sz by_:Nat}{z:List SV}{g:Bool} [hS:TSl P T e] [hT:TY P e sz by_ z g]{x y:Operand}{n0 k0:Nat}{cs ds:List SV}{so:SV}{Hs Er:LH}
  (hown:Own e sz n0 cs so Hs) (hs:Tk E Hs Er) (hl:n0+k0≤1000000000) (hds:ds.length=k0*sz) (k:∀s' H',Own e sz (n0+k0) (cs++ds) s' H'→Mz P C n ops rs Hc K (s+1) r (upd F d s') (H'++Er))
  (hx:ev F x=so:=by exact rfl) (hy:ev F y=sl ds k0:=by exact rfl) (hpos:0<sz:=by decide) (hby:by_≤10000:=by decide)
  (ho:ops[i]? = some ⟨some d, .call ⟨.builtin .append,#[x,y],#[T,T]⟩,ty,pos,aft,none⟩:=by exact rfl) (hr:rs[s]? = some i:=by exact rfl) (hd:Nat.blt d n=true:=by exact rfl) :
  Mz P C n ops rs Hc K s ((i,⟨some d, .call ⟨.builtin .append,#[x,y],#[T,T]⟩,ty,pos,aft,none⟩)::r) F E:=by
 refine .row (Post:=fun sv E'=>∃H',Own e sz (n0+k0) (cs++ds) sv H'∧E'=H'++Er) hr (TZ.of ho rfl fun F1 hF1=>?_) fun sv E' hP=>?_
 ·have hx1:ev F1 x=so:=by rw [←hx];exact(cD (by simp [Op.operands,Call.operands]) hF1)
  have hy1:ev F1 y=sl ds k0:=by rw [←hy];exact(cD (by simp [Op.operands,Call.operands]) hF1)
  exact v8 hown ((hs.perm.append_right Hc).trans (List.Perm.of_eq (List.append_assoc _ _ _))) hl hds (fun s' H' hO=>WPL.nil ⟨s',⟨H'++Er,(List.append_assoc _ _ _).symm,H',hO,rfl⟩,rfl⟩) hx1 hy1 hpos hby hd
 ·obtain⟨H',hR,rfl⟩:=hP;exact k sv H' hR
end
theorem ig:∀t:Tr,(bB t).length=cU t:=fun t=>by rw [gU,jf]
theorem nY:∀t:Tr,cU t≤1000000→Pu Tryz.prog 122 [rt t] (lqs (bB t))
 | .leaf i,_=>by
  show Pu _ _ [pt (rc (.leaf i))] (lqs [])
  rw [gC];refine Pi Tryz.func122 fun C=>?_
  repeat(refine A1 ⟨?_⟩;intros)
  exact aM (ax (RV.tmp rfl) (ew))
 | .node l a b,hn=>by
  have hs:cU (.node l a b)=1+cU a+cU b:=rfl;have ia:=nY a om;have ib:=nY b om;have la:=ig a;have lb:=ig b
  have e:lqs (bB (.node l a b))=sl (lqx l++((bB a).map lqx).flatten++((bB b).map lqx).flatten) (1+(bB a).length+(bB b).length):=by
   show sl ((l::(bB a++bB b)).map lqx).flatten (l::(bB a++bB b)).length=_
   rw [List.map_cons,List.flatten_cons,List.map_append,List.flatten_append,List.length_cons,List.length_append,List.append_assoc];congr 1;omega
  rw [e];clear e;show Pu _ _ [pt (rc (.node l a b))] _
  rw [fq];have fa:=bk dz (bB a);have fb:=bk dz (bB b);generalize bB a=A at *;generalize bB b=B at *;refine PuH.toPu ?_;refine PuH.intro Tryz.func122 rfl kr fun C hC=>?_
  repeat(first|(refine AS ⟨?_⟩;intros)|(refine O1 ⟨?_⟩;intros))
  refine WdZ 17 [0,1,2,3,5,6,7,8,9,11,12,13,14,4,10,15,16] [4,10,16] [] [] ?_;refine ZkD 13 ?_;repeat(first|(refine A1 ⟨?_⟩;intros)|refine W4 ia ⟨?_⟩)
  refine rP ?_;refine ZkB (sv:=ag (lqx l)) (ds:=lqx l) rfl inferInstance (fun s1 H1 o1=>?_);simp only [List.append_nil];refine ZkO o1 (Tk.same _) om fa (fun s2 H2 o2=>?_);refine ZkD 1 ?_;repeat(first|(refine A1 ⟨?_⟩;intros)|refine W4 ib ⟨?_⟩)
  refine rP ?_;simp only [List.append_nil];refine ZkO o2 (Tk.same _) om fb (fun s3 H3 o3=>?_);refine ZkN ?_;simp only [List.append_nil];clear o1 o2;have hco:=o3.co;refine WPL.rowS 23 o3 rfl (R:=[]) (by simp) ?_;repeat(refine A1 ⟨?_⟩;intros)
  exact eL _ _ (ax (RV.tmp rfl) Lr) (List.nil_sublist _) rfl
theorem xC {t:Tr}(hn:cU t≤10000) (hh:t.all fun l=>l.le 1000000):Pu Tryz.prog 65 [rt t] (lqs (jO (bB t))):=by
 have c1:=nY t om;have c2:=mF (bB t) (by rw [ig];omega) (fun m hm=>eU hh m hm);clear hh hn;generalize bB t=A at *;generalize jO A=B at *;refine Pi Tryz.func65 fun C=>?_
 exact Y2 c1 c2
section
variable {P:Program}{C:Ctx}{n:Nat}{F:Fr}{H:LH}{ops:Array Oper}{rs:List Nat}{Hc E:LH}{ia d0:Nat}{XK:SV→LH→Prop}{K:Fr→LH→Prop}{ph:Bool}{s i d:Nat}{r:List NO'}{ty:TypeId}{pos:String}{aft:Array Edge}
theorem tC {f:FuncId}{l:List Operand}{tys:Array TypeId}{T:TypeId}{b:Nat}{args:Nat→List SV}{cs:List SV}{α:Type}{res:α→SV}{X R:LH}(hc:PuM P f T args cs (fun _:Unit=>cs) (fun _=>ex res)) (hm:(b,T,cs)∈E) (ha:l.map (ev F)=args b)
  (ho:ops[i]? = some ⟨some d, .call ⟨.value (.func f),l.toArray,tys⟩,ty,pos,aft,none⟩) (hd:Nat.blt d n=true) :
  TZ P C n ops i ⟨some d, .call ⟨.value (.func f),l.toArray,tys⟩,ty,pos,aft,none⟩ F (X++(E++Hc)) (fun sv H'=>∃E',H'=X++(E'++Hc)∧(∃x,sv=res x)∧E'=E):=by
 refine TZ.of ho rfl fun F1 hF1=>?_
 have ha1:l.map (ev F1)=args b:=by
  rw [←ha];exact List.map_congr_left fun x hx=>(cD (by simp [Op.operands,Call.operands,hx]) hF1)
 exact Wtx hc (List.mem_append_right _ (List.mem_append_left _ hm)) (fun x=>WPL.nil ⟨res x,⟨E,rfl,⟨x,rfl⟩,rfl⟩,rfl⟩) ha1 hd
theorem ZkT {f:FuncId}{l:List Operand}{tys:Array TypeId}{T:TypeId}{b:Nat}{args:Nat→List SV}{cs:List SV}{α:Type}{res:α→SV}(hc:PuM P f T args cs (fun _:Unit=>cs) (fun _=>ex res)) (hm:(b,T,cs)∈E)
  (k:∀x,Mz P C n ops rs Hc K (s+1) r (upd F d (res x)) E) (ha:l.map (ev F)=args b:=by exact rfl)
  (ho:ops[i]? = some ⟨some d, .call ⟨.value (.func f),l.toArray,tys⟩,ty,pos,aft,none⟩:=by exact rfl) (hr:rs[s]? = some i:=by exact rfl) (hd:Nat.blt d n=true:=by exact rfl) :
  Mz P C n ops rs Hc K s ((i,⟨some d, .call ⟨.value (.func f),l.toArray,tys⟩,ty,pos,aft,none⟩)::r) F E :=
 .row (Post:=fun sv E'=>(∃x,sv=res x)∧E'=E) hr (tC (X:=[]) (R:=[]) hc hm ha ho hd) (fun sv E' ⟨⟨x,h1⟩,h2⟩=>by rw [h1,h2];exact k x)
theorem YkT {f:FuncId}{l:List Operand}{tys:Array TypeId}{T:TypeId}{b:Nat}{args:Nat→List SV}{cs:List SV}{α:Type}{res:α→SV}(hc:PuM P f T args cs (fun _:Unit=>cs) (fun _=>ex res)) (hm:(b,T,cs)∈E)
  (k:∀x,My P C n ops rs Hc ia d0 XK K ph (s+1) r (upd F d (res x)) E) (ha:l.map (ev F)=args b:=by exact rfl) (hlk:bo ops i d0=false:=by decide +kernel)
  (ho:ops[i]? = some ⟨some d, .call ⟨.value (.func f),l.toArray,tys⟩,ty,pos,aft,none⟩:=by exact rfl) (hr:rs[s]? = some i:=by exact rfl) (hd:Nat.blt d n=true:=by exact rfl) :
  My P C n ops rs Hc ia d0 XK K ph s ((i,⟨some d, .call ⟨.value (.func f),l.toArray,tys⟩,ty,pos,aft,none⟩)::r) F E:=by
 cases ph with
 |false=>exact .row0 (Post:=fun sv E'=>(∃x,sv=res x)∧E'=E) hr hlk (fun X _=>tC (R:=[]) hc hm ha ho hd) (fun sv E' ⟨⟨x,h1⟩,h2⟩=>by rw [h1,h2];exact k x)
 |true=>exact .row1 (Post:=fun sv E'=>(∃x,sv=res x)∧E'=E) hr (tC (X:=[]) (R:=[]) hc hm ha ho hd) (fun sv E' ⟨⟨x,h1⟩,h2⟩=>by rw [h1,h2];exact k x)
end
theorem CF {α:Type}(a b c:α):[a,b,c].Perm [c,a,b]:=List.perm_append_comm (l₁:=[a,b]) (l₂:=[c])
theorem HJ {α:Type}(a b c:α):[a,b,c].Perm [c,b,a]:=(CF a b c).trans ((List.Perm.swap b a []).cons c)
abbrev smallPt:SV:=ex fun p:{p:Pq // hp p 40}=>ag (rpx p.1)
abbrev rpT:TypeId:=70
theorem Ca {l:Li}(h:l.sm){t:Rat}(ht1:ht t≤1):hp (atL l t) 40:=by
 have:=yw h ht1;exact⟨Nat.le_trans this.1 om,Nat.le_trans this.2 om⟩
theorem CC (zs:List Int) (hz:zs.length≤400){L:List Li}(hL:L.length≤100){t:Tr}(hs:∀l∈L,l.sm) (ht:t.lin L) (hsz:cU t≤10000):PuT 24 zs [rt t] smallPt:=by
 have c1:=xC hsz (Tr.lin.all (fun l hl=>(hs l hl).2.to om) ht)
 have hsm:∀l∈jO (bB t),l.sm:=fun l hl=>by
  obtain⟨x,hx,rfl⟩:=wJ.1 hl;exact Bt (eU (Tr.lin.all hs ht) x hx)
 have hlen:(jO (bB t)).length≤10000:=Nat.le_trans (wK _) (by rw [ig];exact hsz);clear hL hs ht hsz;generalize jO (bB t)=A at *;have le1:∀{p:Pq},hp p 40→Le (ag (rpx p)) smallPt:=fun {p} h=>Le.ex (f:=fun p:{p:Pq // hp p 40}=>ag (rpx p.1)) ⟨p,h⟩ Lr
 by_cases h0:A=[]
 ·subst h0;refine PuM.intro Tryz.func24 rfl kr fun C b=>?_
  repeat(first|(refine A1 ⟨?_⟩;intros)|refine W4 c1 ⟨?_⟩)
  refine Wtx (nP zs hz) mmA fun p=>?_
  obtain⟨p,hp1,hp2⟩:=p;simp only [];repeat(refine A1 ⟨?_⟩;intros)
  exact bN () _ (ax (RV.cellA rfl List.mem_cons_self rfl rfl) (le1 (p:=p) ⟨om,om⟩)) mmA (LeL.refl _)
 ·have hpos:=List.length_pos_iff.2 h0;refine PuM.intro Tryz.func24 rfl kr fun C b=>?_
  repeat(first|(refine A1 ⟨?_⟩;intros)|refine W4 c1 ⟨?_⟩)
  refine Wtx (bR zs hz A.length om om) mmA fun k=>?_
  obtain⟨k,hk⟩:=k;simp only [];obtain⟨a,hget,hmm,hat,hne⟩:=elt dz om (show k<A.length by omega);repeat(refine A1 ⟨?_⟩;intros)
  refine Wo (a8 (cs':=lqx a) rfl rfl om om hat hne) ?_;repeat(refine A1 ⟨?_⟩;intros)
  refine Wtx (bR zs hz 3 om om) mmA fun j=>?_
  obtain⟨j,hj⟩:=j;simp only [];have ha:=hsm a hmm;rcases(by omega:j=0∨j=1∨(j≠0∧j≠1))with rfl|rfl|⟨j0,j1⟩
  ·repeat(first|(refine AS ⟨?_⟩;intros)|(refine O1 ⟨?_⟩;intros))
   refine WP.perm (CF _ _ _) ?_;refine GR 14 [12,0,1,2,3,4,5,6,7,8,9,10,11,13] [5,13] 12 7 (fun sv X=>∃b,sv=lit (.pointer (some ⟨b,0,none⟩))∧X=[(b,rpT,ve)]) [_] _ ?_;refine Ip rfl ?_;refine YkD 5 ?_;repeat(refine A1 ⟨?_⟩;intros)
   refine ul ?_;refine YkT (bR zs hz A.length om om) List.mem_cons_self (fun k2=>?_);obtain⟨k2,hk2⟩:=k2;simp only [];obtain⟨a2,hget2,hmm2,hat2,_⟩:=elt dz om (show k2<A.length by omega);have d1:=qo ha (hsm a2 hmm2)
   have hp1:(ie a a2).isSome=true→hp ((ie a a2).getD (0,0)) 40:=fun h=>by
    cases e:ie a a2 with
    |none=>rw [e]at h;cases h
    |some p =>
     have:=De ha (hsm a2 hmm2) e;exact⟨Nat.le_trans this.1 om,Nat.le_trans this.2 om⟩
   generalize(ie a a2).isSome=bb at *;generalize(ie a a2).getD (0,0)=p at *;refine YkD 6 ?_;refine Wdo (a8 (cs':=lqx a2) rfl rfl om om hat2 hne) ?_;repeat(first|(refine A1 ⟨?_⟩;intros)|refine W4 d1 ⟨?_⟩)
   refine ul ?_;refine Ir (sv:=ag (rpx p)) (ds:=rpx p) rfl (fun b7=>?_) rfl (hvx:=fun h=>by cases h);refine GQ ?_;cases bb
   ·repeat(refine A1 ⟨?_⟩;intros)
    refine Wtx (nP zs hz) mmA fun p=>?_
    obtain⟨p,hp1,hp2⟩:=p;simp only [];repeat(refine A1 ⟨?_⟩;intros)
    exact bN () _ (ax (RV.cellA rfl (Mc (Mc (Mc Ms))) rfl rfl) (le1 (p:=p) ⟨om,om⟩)) mmA (LeL.refl _)
   ·replace hp1:=hp1 rfl;repeat(refine A1 ⟨?_⟩;intros)
    exact bN () _ (ax (RV.cellA rfl (Mc (Mc (Mc Ms))) rfl rfl) (le1 hp1)) mmA (LeL.refl _)
  ·repeat(first|(refine AS ⟨?_⟩;intros)|(refine O1 ⟨?_⟩;intros))
   refine WP.perm (HJ _ _ _) ?_;refine WdZ 5 [0,1,2,3,4] [2,4] [_,_] _ ?_;refine ZkD 2 ?_;repeat(refine A1 ⟨?_⟩;intros)
   refine rP ?_;refine ZkT (kY zs hz) List.mem_cons_self (fun x=>?_);obtain⟨x,hx⟩:=x;simp only [];have d1:=xF (t:=x) ha om;have hp1:=Ca ha hx;generalize atL a x=p at *;refine ZkD 1 ?_;repeat(first|(refine A1 ⟨?_⟩;intros)|refine W4 d1 ⟨?_⟩)
   refine rP ?_;refine ZkS (sv:=ag (rpx p)) (cs':=rpx p) rfl rfl rfl (.there _ (.here _)) rfl rfl ?_;refine ZkN ?_;repeat(refine A1 ⟨?_⟩;intros)
   exact bN () _ (ax (RV.cellA rfl (Mc Ms) rfl rfl) (le1 hp1)) mmA (LeL.refl _)
  ·repeat(refine A1 ⟨?_⟩;intros)
   refine Wtx (nP zs hz) mmA fun p=>?_
   obtain⟨p,hp1,hp2⟩:=p;simp only [];repeat(refine A1 ⟨?_⟩;intros)
   exact bN () _ (ax (RV.cellA rfl (Mc Ms) rfl rfl) (le1 (p:=p) ⟨om,om⟩)) mmA (LeL.refl _)
theorem v7 {m:M6 Rat}(hd:m.det≠0) (hm:m.le 1):∀{t:Tr},(t.all fun l=>l.ok∧l.le 1)→((t.im m).all fun l=>l.ok∧l.le 16)
 | .leaf _,_=>trivial
 | .node _ _ _,h=>⟨⟨Li.im_ok hd h.1.1,Li.im_le16 hd h.1.1 hm h.1.2⟩,v7 hd hm h.2.1,v7 hd hm h.2.2⟩
theorem v6:∀{t:Tr}{p q:Li→Prop},(t.all fun l=>p l∧q l)→t.all p
 | .leaf _,_,_,_=>trivial
 | .node _ _ _,_,_,h=>⟨h.1.1,v6 h.2.1,v6 h.2.2⟩
theorem uZ:∀{t:Tr}{p q:Li→Prop},(t.all fun l=>p l∧q l)→t.all q
 | .leaf _,_,_,_=>trivial
 | .node _ _ _,_,_,h=>⟨h.1.2,uZ h.2.1,uZ h.2.2⟩
theorem pA:∀{t:Tr},(t.all fun l=>l.ok)→t.lok
 | .leaf _,_=>trivial
 | .node _ _ _,h=>⟨h.1,pA h.2.1,pA h.2.2⟩
set_option maxRecDepth 20000 in
theorem wS (zs:List Int) (hz:zs.length≤9223372036854775807):Pu Tryz.prog 4 [nsl .i64 zs] (lit (.bool true)):=by
 have hk:(zs.take (min zs.length 400)).length≤400:=by simp;omega
 have hnew:=I4 zs hz;generalize zs.take (min zs.length 400)=ys at *;have hmap:=EC ys hk;have hreg:=xh ys hk 0 om;rw [show(12*2^0:Nat)=12 from rfl,show(((0:Nat):Int))=0 from rfl]at hreg;clear hz;refine Pi Tryz.func4 fun C=>?_
 repeat(refine A1 ⟨?_⟩;intros)
 refine WPL.callN hnew rfl rfl fun bb=>?_
 repeat(refine A1 ⟨?_⟩;intros)
 refine Wtx hmap mmA fun ma=>?_
 obtain⟨m,hm⟩:=ma;simp only [];have c5:=G7 (hm.le_mono (L':=30) om) om;rw [show m.a*m.e-m.b*m.d=m.det by unfold M6.det;grind]at c5;have hd:=M6.det_ht hm;have c6:=jI m.det om;clear hd;by_cases hz:m.det=0
 ·have hs:m.det.num.sign=0:=by rw [hz];rfl
  rw [hs]at c6;exact Y3 c5 c6 zG
 ·have hs:m.det.num.sign≠0:=fun e=>hz (Rat.num_eq_zero.1 (Int.sign_eq_zero_iff_zero.1 e))
  have c1:=Ad hm om;generalize m.det.num.sign=sg at *;repeat(first|(refine A1 ⟨?_⟩;intros)|refine W4 c5 ⟨?_⟩|refine W4 c6 ⟨?_⟩)
  refine Wtx hreg mmA fun x=>?_
  obtain⟨t,L,x1,x2,x3⟩:=x;simp only [];have ho:=xl x2;have y2:=x3.size ho;have y3:L.length*(1+L.length)≤12*13:=Nat.mul_le_mul x1 om;have g3:t.all fun l=>l.ok∧l.le 1:=Tr.lin.all (fun l hl=>x2 l hl) x3.1
  have hpl:=CC ys hk om x2 x3.1 om;have w1:=Aw t (nk (fun l h=>h.2.to om) g3) (by rw [jf];omega);have d2:=GO hm om om hz g3 (by rw [jf];omega);have g4:=v7 hz hm g3;have hlok:=pA (v6 g3);have sx:(t.im m).size=t.size:=Tr.im_size m t;have l1:=fun(x y:Rat) (hx:ht x≤90000) (hy:ht y≤90000)=>sU (L:=1) om om hx hy g3 hlok (uZ g3) (by rw [jf];omega)
  have l2:=fun(x y:Rat) (hx:ht x≤90000) (hy:ht y≤90000)=>sU (L:=16) om om hx hy g4 (pA (v6 g4)) (uZ g4) (by rw [sx,jf];omega)
  have hic:=I8 hz hlok;clear x1 x2 x3 ho y2 y3 g3 g4 hlok sx hs;repeat(refine A1 ⟨?_⟩;intros)
  refine Wtx hpl mmA fun p=>?_
  obtain⟨⟨px,py⟩,hp1,hp2⟩:=p;simp only []at hp1 hp2⊢;have c2:=q7 px py om om;have ap:=wZ (hm.le_mono (L':=10000) om) (x:=px) (y:=py) om om;obtain⟨ma,mb,mc,md,me,mf'⟩:=hm;have m1:=af m.a px;have m2:=af m.b py;have m3:=af m.d px;have m4:=af m.e py;have m5:=aO (m.a*px) (m.b*py);have m6:=aO (m.d*px) (m.e*py);have m7:=aO (m.a*px+m.b*py) m.c;have m8:=aO (m.d*px+m.e*py) m.f;have k1:=l1 px py om om;have k2:=l2 (m.a*px+m.b*py+m.c) (m.d*px+m.e*py+m.f) om om;rw [show rA (t.im m) (m.a*px+m.b*py+m.c,m.d*px+m.e*py+m.f)=rA t (px,py)from hic (px,py)]at k2;clear l1 l2 hic hpl hreg hnew hmap m1 m2 m3 m4 m5 m6 m7 m8 ma mb mc md me mf' hp1 hp2 hz;generalize rA t (px,py)=z at *;generalize m.a*px+m.b*py+m.c=u at *;generalize m.d*px+m.e*py+m.f=v at *;generalize t.im m=t' at *;repeat(first|(refine A1 ⟨?_⟩;intros)|refine W4 c2 ⟨?_⟩|refine W4 c1 ⟨?_⟩|refine W4 w1 ⟨?_⟩|refine W4 d2 ⟨?_⟩|refine W4 k1 ⟨?_⟩|refine W4 ap ⟨?_⟩|refine W4 k2 ⟨?_⟩|refine W4 zG ⟨?_⟩)
  exact E1
end Go.Ab
