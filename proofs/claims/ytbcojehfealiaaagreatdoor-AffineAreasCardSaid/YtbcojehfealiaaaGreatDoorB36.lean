/- Texts laid one behind the other: ArF, ImS, ArG, MsA. -/
import Derived.Test.YtbcojehfealiaaaGreatDoorB35
set_option linter.all false
set_option maxHeartbeats 16000000
namespace Go.Ab
open Go.Proofs
variable [Base]
theorem Cu {l m:Li}(h:bH l m≠0){p q:Pq}(p1:a8 l p=0) (p2:a8 m p=0) (q1:a8 l q=0) (q2:a8 m q=0):p=q:=by
 unfold bH at h;unfold a8 at p1 p2 q1 q2;have e1:((l.a:Rat)*m.b-m.a*l.b)*(p.1-q.1)=0:=by grind
 have e2:((l.a:Rat)*m.b-m.a*l.b)*(p.2-q.2)=0:=by grind
 have f1:=(Rat.mul_eq_zero.1 e1).resolve_left h;have f2:=(Rat.mul_eq_zero.1 e2).resolve_left h;exact Prod.ext (by grind) (by grind)
def dq (c:PC):List Pq:=((List.range c.length).map fun i=>if 0<(a9 (dirL (c.getD i zSd).1) (dirL (c.getD ((i+1)%c.length) zSd).1)).num.sign then [aY (c.getD i zSd).1 (c.getD ((i+1)%c.length) zSd).1]else []).flatten
theorem Dv {c:PC}(h:bZ c) (ho:fI c) (hb:Bdd c):dq c=c.map hiP:=by
 have e:(List.range c.length).map (fun i=>if 0<(a9 (dirL (c.getD i zSd).1) (dirL (c.getD ((i+1)%c.length) zSd).1)).num.sign then [aY (c.getD i zSd).1 (c.getD ((i+1)%c.length) zSd).1]else [])=(List.range c.length).map fun i=>[hiP (c.getD i zSd)]:=by
  refine List.map_congr_left fun i hi=>?_
  have hi:=List.mem_range.1 hi;have hs:=List.getElem?_eq_getElem hi;obtain⟨s',n1,n2,n3,_,_⟩:=tG h ho hs (hb _ (List.getElem_mem hi)).2;have e1:c.getD i zSd=c[i]:=by rw [List.getD,hs];rfl
  have e2:c.getD ((i+1)%c.length) zSd=s':=by rw [List.getD,n1];rfl
  rw [e1,e2,if_pos (bp.2 n3)]
  have hd:bH c[i].1 s'.1≠0:=by
   rw [vS]at n3;intro z;have e:slp s'.1 c[i].1=bH c[i].1 s'.1:=by unfold slp bH;grind
   rw [e,z]at n3;grind
  obtain⟨m1,m2⟩:=AQ hd;rw [Cu hd m1 m2 (fk (h.ok _ (List.getElem_mem hi)) _) n2]
 unfold dq;rw [e]
 have e2:((List.range c.length).map fun i=>[hiP (c.getD i zSd)])=(c.map hiP).map fun p=>[p]:=by
  rw [List.map_map];exact oZ zSd (fun s=>[hiP s]) c
 rw [e2];induction c.map hiP with
 |nil=>rfl
 |cons a l ih=>rw [List.map_cons,List.flatten_cons,ih];rfl
def fV (v:List Pq):List (Pq×Pq):=(List.range v.length).map fun i=>(v.getD i (0,0),v.getD ((i+1)%v.length) (0,0))
theorem CS {c:PC}(h:bZ c) (ho:fI c) (hb:Bdd c) (F:Pq→Pq→Rat):bF ((fV (dq c)).map fun e=>F e.1 e.2)=bF (c.map fun s=>F (loP s) (hiP s)):=by
 rw [Dv h ho hb,←Bm h ho hb F];unfold fV;rw [List.map_map,List.length_map];refine congrArg bF (List.map_congr_left fun i hi=>?_);have hi:=List.mem_range.1 hi;have hj:(i+1)%c.length<c.length:=Nat.mod_lt _ om
 have g:∀{k:Nat},k<c.length→(c.map hiP).getD k (0,0)=hiP (c.getD k zSd):=fun hk=>by
  rw [List.getD,List.getElem?_map,List.getElem?_eq_getElem hk,List.getD,List.getElem?_eq_getElem hk];rfl
 show F ((c.map hiP).getD i (0,0)) ((c.map hiP).getD ((i+1)%c.length) (0,0))=_
 rw [g hi,g hj]
def aj (l:List PC):List (Pq×Pq):=(l.map fun c=>fV (dq c)).flatten
theorem ta {α:Type}(f:α→Rat):∀l:List (List α),bF (l.flatten.map f)=bF (l.map fun a=>bF (a.map f))
 | []=>rfl
 |a::l=>by
  rw [List.flatten_cons,List.map_append,nK,ta f l];rfl
theorem mV {l:List PC}(hl:∀c∈l,bZ c∧fI c) (hb:l.all bndP=true) (F:Pq→Pq→Rat):bF ((aj l).map fun e=>F e.1 e.2)=cw (fun c=>bF (c.map fun s=>F (loP s) (hiP s))) l:=by
 unfold aj;rw [ta,List.map_map];refine congrArg bF (List.map_congr_left fun c hc=>?_);obtain⟨h1,h2⟩:=hl c hc;exact CS h1 h2 (qx (List.all_eq_true.1 hb c hc)) F
theorem Df {l:List PC}(hl:∀c∈l,bZ c∧fI c) (hb:l.all bndP=true):((aj l).map fun e=>a9 e.1 e.2).foldl (· + ·) 0=cw ar2 l:=by
 rw [li,mV hl hb a9];show 0+cw ar2 l=_
 grind
theorem vj {l:List PC}(hl:∀c∈l,bZ c∧fI c) (hb:l.all bndP=true):((aj l).map fun e=>(e.1.1+e.2.1)*a9 e.1 e.2).foldl (· + ·) 0=cw mx6 l:=by
 rw [li,mV hl hb fun p q=>(p.1+q.1)*a9 p q];show 0+cw mx6 l=_
 grind
theorem vi {l:List PC}(hl:∀c∈l,bZ c∧fI c) (hb:l.all bndP=true):((aj l).map fun e=>(e.1.2+e.2.2)*a9 e.1 e.2).foldl (· + ·) 0=cw my6 l:=by
 rw [li,mV hl hb fun p q=>(p.2+q.2)*a9 p q];show 0+cw my6 l=_
 grind
theorem B3 {h:Nat}:∀(l:List Rat) (s:Rat),(∀x∈l,ht x≤h)→ht (l.foldl (· + ·) s)≤ht s+l.length*(h+1)
 | [],s,_=>by simp
 |x::l,s,H=>by
  rw [List.foldl_cons,List.length_cons];have a:=B3 l (s+x) fun y hy=>H y (Mc hy)
  have b:=aI s x;have c:=H x Ms;have d:(l.length+1)*(h+1)=l.length*(h+1)+(h+1):=Nat.succ_mul _ _;omega
theorem JL (x R:Rat):x*((x.den:Rat)*R)=(x.num:Rat)*R:=by
 have h:x*(x.den:Rat)=(x.num:Rat):=by
  have h0:(x.den:Rat)≠0:=fun e=>x.den_nz (by exact_mod_cast e)
  have e:(x.num:Rat)/((x.den:Nat):Rat)=x:=by rw [←Rat.mkRat_eq_div,Rat.mkRat_self]
  have e2:(x.num:Rat)/(x.den:Rat)*(x.den:Rat)=(x.num:Rat):=Rat.div_mul_cancel h0;rw [e]at e2;exact e2
 rw [←Rat.mul_assoc,h]
theorem mP (a b:Int):il (a-b)≤max (il a) (il b)+1:=by
 rw [Int.sub_eq_add_neg];have:=pm a (-b);rwa [cH]at this
theorem wU {x y z:Int}{k:Nat}(h:x≠0∨y≠0) (hx:il x≤k) (hy:il y≤k) (hz:il z≤k):(dV (x:Rat) (y:Rat) (z:Rat)).le k:=by
 obtain⟨a,b,c⟩:=wT z h;exact⟨Nat.le_trans (aM a) hx,Nat.le_trans (aM b) hy,Nat.le_trans (aM c) hz⟩
theorem Li.im_le16 {m:M6 Rat}{l:Li}(hd:m.det≠0) (hl:l.ok) (hm:m.le 1) (h:l.le 1):(l.im m).le 16:=by
 obtain⟨ma,mb,mc,md,me,mf⟩:=hm;obtain⟨la,lb,lc⟩:=h;have hne:=Li.im_ne hd hl
 have nd:∀x:Rat,ht x≤1→il x.num≤1∧il (x.den:Int)≤1:=fun x hx=>by
  unfold ht at hx;rw [mQ];omega
 obtain⟨na,da⟩:=nd _ ma;obtain⟨nb,db⟩:=nd _ mb;obtain⟨nc,dc⟩:=nd _ mc;obtain⟨ndd,dd⟩:=nd _ md;obtain⟨ne,de⟩:=nd _ me;obtain⟨nf,df⟩:=nd _ mf;have posd:∀x:Rat,0<(x.den:Rat):=fun x=>by exact_mod_cast x.den_pos
 have dt:m.det=m.a*m.e-m.d*m.b:=rfl;let R:Rat→Rat→Rat→Rat→Rat→Rat:=fun p q r s t=>(p.den:Rat)*q.den*r.den*s.den*t.den
 let W:Rat→Rat→Rat→Rat→Rat→Int:=fun p q r s t=>(p.den:Int)*q.den*r.den*s.den*t.den
 have hW:∀p q r s t:Rat,((W p q r s t:Int):Rat)=R p q r s t:=fun p q r s t=>by
  show(((p.den:Int)*q.den*r.den*s.den*t.den:Int):Rat)=_
  push_cast
  rfl
 have ilW:∀p q r s t:Rat,il (p.den:Int)≤1→il (q.den:Int)≤1→il (r.den:Int)≤1→il (s.den:Int)≤1→il (t.den:Int)≤1→il (W p q r s t)≤5:=fun p q r s t h1 h2 h3 h4 h5=>by
  have a:=bG (p.den:Int) q.den;have b:=bG ((p.den:Int)*q.den) r.den;have c:=bG ((p.den:Int)*q.den*r.den) s.den;have d:=bG ((p.den:Int)*q.den*r.den*s.den) t.den;show il ((p.den:Int)*q.den*r.den*s.den*t.den)≤5
  omega
 obtain⟨Q,hQ⟩:∃Q:Rat,Q=(m.a.den:Rat)*m.b.den*m.c.den*m.d.den*m.e.den*m.f.den:=⟨_,rfl⟩
 obtain⟨Qi,hQi⟩:∃Qi:Int,Qi=(m.a.den:Int)*m.b.den*m.c.den*m.d.den*m.e.den*m.f.den:=⟨_,rfl⟩
 have cQ:((Qi:Int):Rat)=Q:=by rw [hQi,hQ];push_cast;rfl
 have ilQ:il Qi≤6:=by
  have:=ilW m.a m.b m.c m.d m.e da db dc dd de;have b:=bG (W m.a m.b m.c m.d m.e) m.f.den;rw [hQi];exact Nat.le_trans b om
 have Qpos:0<Q:=by
  rw [hQ];exact Rat.mul_pos (Rat.mul_pos (Rat.mul_pos (Rat.mul_pos (Rat.mul_pos (posd _) (posd _)) (posd _)) (posd _)) (posd _)) (posd _)
 have ent:∀x p q r s t:Rat,Q=(x.den:Rat)*R p q r s t→il x.num≤1→il (W p q r s t)≤5→∃X:Int,x*Q=(X:Rat)∧il X≤6:=fun x p q r s t hq hx hw=>by
  refine⟨x.num*W p q r s t,?_,?_⟩
  ·rw [hq,JL,Rat.intCast_mul,hW]
  ·have:=bG x.num (W p q r s t);omega
 obtain⟨A,hA,lA⟩:=ent m.a m.b m.c m.d m.e m.f (by rw [hQ];show _=(m.a.den:Rat)*((m.b.den:Rat)*m.c.den*m.d.den*m.e.den*m.f.den);grind) na (ilW _ _ _ _ _ db dc dd de df);obtain⟨B,hB,lB⟩:=ent m.b m.a m.c m.d m.e m.f (by rw [hQ];show _=(m.b.den:Rat)*((m.a.den:Rat)*m.c.den*m.d.den*m.e.den*m.f.den);grind) nb (ilW _ _ _ _ _ da dc dd de df);obtain⟨C,hC,lC⟩:=ent m.c m.a m.b m.d m.e m.f (by rw [hQ];show _=(m.c.den:Rat)*((m.a.den:Rat)*m.b.den*m.d.den*m.e.den*m.f.den);grind) nc (ilW _ _ _ _ _ da db dd de df);obtain⟨D,hD,lD⟩:=ent m.d m.a m.b m.c m.e m.f (by rw [hQ];show _=(m.d.den:Rat)*((m.a.den:Rat)*m.b.den*m.c.den*m.e.den*m.f.den);grind) ndd (ilW _ _ _ _ _ da db dc de df);obtain⟨E,hE,lE⟩:=ent m.e m.a m.b m.c m.d m.f (by rw [hQ];show _=(m.e.den:Rat)*((m.a.den:Rat)*m.b.den*m.c.den*m.d.den*m.f.den);grind) ne (ilW _ _ _ _ _ da db dc dd df);obtain⟨F,hF,lF⟩:=ent m.f m.a m.b m.c m.d m.e (by rw [hQ];show _=(m.f.den:Rat)*((m.a.den:Rat)*m.b.den*m.c.den*m.d.den*m.e.den);grind) nf (ilW _ _ _ _ _ da db dc dd de);clear hQ hQi ent ilW hW nd posd;obtain⟨X,hX⟩:∃X:Int,X=(l.a*E-l.b*D)*Qi:=⟨_,rfl⟩
 obtain⟨Y,hY⟩:∃Y:Int,Y=(l.b*A-l.a*B)*Qi:=⟨_,rfl⟩
 obtain⟨Z,hZ⟩:∃Z:Int,Z=l.c*(A*E-D*B)-(l.a*(E*C-B*F)+l.b*(A*F-D*C)):=⟨_,rfl⟩
 have lX:il X≤16:=by
  have a:=bG l.a E;have b:=bG l.b D;have c:=mP (l.a*E) (l.b*D);have d:=bG (l.a*E-l.b*D) Qi;rw [hX];omega
 have lY:il Y≤16:=by
  have a:=bG l.b A;have b:=bG l.a B;have c:=mP (l.b*A) (l.a*B);have d:=bG (l.b*A-l.a*B) Qi;rw [hY];omega
 have lZ:il Z≤16:=by
  have a1:=bG A E;have a2:=bG D B;have a3:=mP (A*E) (D*B);have a4:=bG l.c (A*E-D*B);have b1:=bG E C;have b2:=bG B F;have b3:=mP (E*C) (B*F);have b4:=bG l.a (E*C-B*F);have c1:=bG A F;have c2:=bG D C;have c3:=mP (A*F) (D*C);have c4:=bG l.b (A*F-D*C);have d1:=pm (l.a*(E*C-B*F)) (l.b*(A*F-D*C));have d2:=mP (l.c*(A*E-D*B)) (l.a*(E*C-B*F)+l.b*(A*F-D*C));rw [hZ];omega
 have hdi:m.det*m.det⁻¹=1:=Rat.mul_inv_cancel _ hd;have ca:m.inv.a=m.e*m.det⁻¹:=rfl;have cb:m.inv.b = -m.b*m.det⁻¹:=rfl;have cc:m.inv.c = -(m.e*m.det⁻¹*m.c + -m.b*m.det⁻¹*m.f):=rfl;have cd:m.inv.d = -m.d*m.det⁻¹:=rfl;have ce:m.inv.e=m.a*m.det⁻¹:=rfl;have cf:m.inv.f = -(-m.d*m.det⁻¹*m.c+m.a*m.det⁻¹*m.f):=rfl
 have tX:m.det*(Q*Q)*((l.a:Rat)*m.inv.a+l.b*m.inv.d)=(X:Rat):=by
  rw [hX,Rat.intCast_mul,Rat.intCast_sub,Rat.intCast_mul,Rat.intCast_mul,←hE,←hD,cQ,ca,cd];generalize m.det=z at *;generalize z⁻¹=w at *;grind
 have tY:m.det*(Q*Q)*((l.a:Rat)*m.inv.b+l.b*m.inv.e)=(Y:Rat):=by
  rw [hY,Rat.intCast_mul,Rat.intCast_sub,Rat.intCast_mul,Rat.intCast_mul,←hA,←hB,cQ,cb,ce];generalize m.det=z at *;generalize z⁻¹=w at *;grind
 have tZ:m.det*(Q*Q)*((l.a:Rat)*m.inv.c+l.b*m.inv.f+l.c)=(Z:Rat):=by
  rw [hZ];push_cast
  rw [←hA,←hB,←hC,←hD,←hE,←hF,cc,cf]
  have e:m.det*(Q*Q)*((l.a:Rat) * -(m.e*m.det⁻¹*m.c + -m.b*m.det⁻¹*m.f)+l.b * -(-m.d*m.det⁻¹*m.c+m.a*m.det⁻¹*m.f)+l.c)=(m.det*m.det⁻¹)*(Q*Q)*(-(l.a:Rat)*(m.e*m.c-m.b*m.f)-l.b*(m.a*m.f-m.d*m.c))+m.det*(Q*Q)*l.c:=by
   generalize m.det⁻¹=w;generalize m.det=z;grind
  rw [e,hdi,dt];grind
 have hXY:X≠0∨Y≠0:=by
  rcases hne with k|k
  ·refine .inl fun z=>k ?_
   rw [z]at tX;have:=Rat.mul_pos Qpos Qpos;rcases Rat.mul_eq_zero.1 (show m.det*(Q*Q)*((l.a:Rat)*m.inv.a+l.b*m.inv.d)=0 from tX)with y|y
   ·rcases Rat.mul_eq_zero.1 y with y|y
    ·exact absurd y hd
    ·grind
   ·exact y
  ·refine .inr fun z=>k ?_
   rw [z]at tY;have:=Rat.mul_pos Qpos Qpos;rcases Rat.mul_eq_zero.1 (show m.det*(Q*Q)*((l.a:Rat)*m.inv.b+l.b*m.inv.e)=0 from tY)with y|y
   ·rcases Rat.mul_eq_zero.1 y with y|y
    ·exact absurd y hd
    ·grind
   ·exact y
 have q2:=Rat.mul_pos Qpos Qpos;show(dV ((l.a:Rat)*m.inv.a+l.b*m.inv.d) ((l.a:Rat)*m.inv.b+l.b*m.inv.e) ((l.a:Rat)*m.inv.c+l.b*m.inv.f+l.c)).le 16
 by_cases hp:0<m.det
 ·rw [←nS (m.det*(Q*Q)) _ _ _ (Rat.mul_pos hp q2),tX,tY,tZ];exact wU hXY lX lY lZ
 ·have hn:0 < -m.det:=by grind
  have nx : -m.det*(Q*Q)*((l.a:Rat)*m.inv.a+l.b*m.inv.d)=((-X:Int):Rat):=by rw [Rat.intCast_neg,←tX];grind
  have ny : -m.det*(Q*Q)*((l.a:Rat)*m.inv.b+l.b*m.inv.e)=((-Y:Int):Rat):=by rw [Rat.intCast_neg,←tY];grind
  have nz : -m.det*(Q*Q)*((l.a:Rat)*m.inv.c+l.b*m.inv.f+l.c)=((-Z:Int):Rat):=by rw [Rat.intCast_neg,←tZ];grind
  rw [←nS (-m.det*(Q*Q)) _ _ _ (Rat.mul_pos hn q2),nx,ny,nz];exact wU om (by rw [cH];exact lX) (by rw [cH];exact lY) (by rw [cH];exact lZ)
theorem qM:∀l:List Rat,(∀x∈l,0<x)→l≠[]→0<bF l
 | [],_,h=>absurd rfl h
 | [x],h,_=>by
  show 0<x+0
  have:=h x Ms;grind
 |x::y::l,h,_=>by
  show 0<x+bF (y::l)
  have h1:=h x Ms;have h2:=qM (y::l) (fun z hz=>h z (Mc hz)) (by simp);grind
theorem IV {c:PC}(h:bZ c) (ho:fI c) (hb:Bdd c) (hn:c≠[]):0<ar2 c:=by
 obtain⟨q,hq⟩:=h.inn;have z1:=fW h ho hb fun p=>p.1
 have z2:=fW h ho hb fun p=>p.2
 have e:ar2 c=bF (c.map fun s=>a9 (loP s) (hiP s)+(q.2*((hiP s).1 + -1*(loP s).1) + -q.1*((hiP s).2 + -1*(loP s).2))):=by
  rw [cV (fun s=>a9 (loP s) (hiP s)),cV (fun s=>q.2*((hiP s).1 + -1*(loP s).1)),bK,bK,z1,z2];show ar2 c=ar2 c+_
  grind
 rw [e];refine qM _ (fun x hx=>?_) (by simpa using hn);obtain⟨s,hs,rfl⟩:=List.mem_map.1 hx;have hv:=hq s.1 (List.mem_map.2 ⟨s,hs,rfl⟩);have on:=fk (h.ok s hs) s.2.lo
 have hne:s.2.lo<s.2.hi:=by
  obtain⟨_,t,ht⟩:=h.span s hs;rcases ht.1 with r|r
  ·rw [(hb s hs).1]at r;cases r
  ·rcases ht.2 with w|w
   ·rw [(hb s hs).2]at w;cases w
   ·grind
 have e2:a9 (loP s) (hiP s)+(q.2*((hiP s).1 + -1*(loP s).1) + -q.1*((hiP s).2 + -1*(loP s).2))=(s.2.hi-s.2.lo)*(a8 s.1 q-a8 s.1 (loP s)):=by
  show(atL s.1 s.2.lo).1*(atL s.1 s.2.hi).2-(atL s.1 s.2.lo).2*(atL s.1 s.2.hi).1+(q.2*((atL s.1 s.2.hi).1 + -1*(atL s.1 s.2.lo).1) + -q.1*((atL s.1 s.2.hi).2 + -1*(atL s.1 s.2.lo).2))=(s.2.hi-s.2.lo)*(a8 s.1 q-a8 s.1 (atL s.1 s.2.lo))
  unfold atL bO dirL a8;simp only;grind
 rw [e2];show 0<_*(a8 s.1 q-a8 s.1 (atL s.1 s.2.lo))
 rw [on];exact Rat.mul_pos (by grind) (by grind)
theorem KC {c:PC}(h:bndP c=true):c≠[]:=fun e=>by rw [e]at h;unfold bndP at h;simp at h
theorem Gj {l:List PC}(hl:∀c∈l,bZ c∧fI c) (hb:l.all bndP=true) (hn:l≠[]):0<cw ar2 l:=by
 refine qM _ (fun x hx=>?_) (by simpa using hn);obtain⟨c,hc,rfl⟩:=List.mem_map.1 hx;have hbc:=List.all_eq_true.1 hb c hc;exact IV (hl c hc).1 (hl c hc).2 (qx hbc) (KC hbc)
theorem Ef {A B:Int}{k:Nat}(hA:il A≤k) (hB:il B≤k) (h1:1≤k):ht ((A:Rat)/(B:Rat))≤k:=by
 have key:∀(A:Int) (n:Nat),il A≤k→il (n:Int)≤k→ht ((A:Rat)/((n:Int):Rat))≤k:=fun A n hA hn=>by
  have e:(A:Rat)/((n:Int):Rat)=mkRat A n:=by rw [Rat.mkRat_eq_div];rfl
  rw [e];have:=rX A n;rw [mQ]at hn;omega
 by_cases hp:0≤B
 ·obtain⟨n,rfl⟩:=Int.eq_ofNat_of_zero_le hp;exact key A n hA hB
 ·obtain⟨n,hn⟩:=Int.eq_ofNat_of_zero_le (show 0≤-B by omega);have hB0:(B:Rat)≠0:=fun e=>hp (by rw [Rat.intCast_eq_zero_iff.1 e];exact Int.le_refl 0)
  have e:(A:Rat)/(B:Rat)=((-A:Int):Rat)/((n:Int):Rat):=by
   rw [←hn,Rat.intCast_neg,Rat.intCast_neg,Rat.div_def,Rat.div_def];have i1:=Rat.mul_inv_cancel _ hB0;have i2:=Rat.mul_inv_cancel (-(B:Rat)) (by grind);generalize(B:Rat)⁻¹=x at *;generalize(-(B:Rat))⁻¹=y at *;generalize(B:Rat)=b at *;have:y = -x:=by grind
   rw [this];grind
  rw [e];exact key (-A) n (by rw [cH];exact hA) (by rw [←hn,cH];exact hB)
theorem F5 {l m:Li}{L:Nat}(hl:l.le L) (hm:m.le L):hp (aY l m) (2*L+1):=by
 obtain⟨a1,b1,c1⟩:=hl;obtain⟨a2,b2,c2⟩:=hm
 have p:∀{x y z w:Int},il x≤L→il y≤L→il z≤L→il w≤L→il (x*y-z*w)≤2*L+1:=fun {x y z w} hx hy hz hw=>by
  have h1:=bG x y;have h2:=bG z w;have h3:=mP (x*y) (z*w);omega
 have ed:bH l m=((l.a*m.b-m.a*l.b:Int):Rat):=by unfold bH;push_cast;rfl
 have e1:(l.b:Rat)*m.c-m.b*l.c=((l.b*m.c-m.b*l.c:Int):Rat):=by push_cast;rfl
 have e2:(m.a:Rat)*l.c-l.a*m.c=((m.a*l.c-l.a*m.c:Int):Rat):=by push_cast;rfl
 unfold aY;rw [ed,e1,e2];exact⟨Ef (p b1 c2 b2 c1) (p a1 b2 a2 b1) om,Ef (p a2 c1 a1 c2) (p a1 b2 a2 b1) om⟩
theorem kX {p q:Pq}{h:Nat}(hp1:hp p h) (hq:hp q h):ht (a9 p q)≤4*h+3:=by
 obtain⟨a,b⟩:=hp1;obtain⟨c,d⟩:=hq;have h1:=ae p.1 q.2;have h2:=ae p.2 q.1;have h3:=cI (p.1*q.2) (p.2*q.1);unfold a9;omega
theorem wh {c:PC}{L:Nat}(h:∀s∈c,s.1.le L):∀p∈dq c,hp p (2*L+1):=fun p hp'=>by
 unfold dq at hp';obtain⟨l,hl,hpl⟩:=List.mem_flatten.1 hp';obtain⟨i,hi,rfl⟩:=List.mem_map.1 hl;have hi:=List.mem_range.1 hi;have hj:(i+1)%c.length<c.length:=Nat.mod_lt _ om
 have g:∀{k:Nat},k<c.length→(c.getD k zSd).1.le L:=fun hk=>by
  rw [List.getD,List.getElem?_eq_getElem hk];exact h _ (List.getElem_mem hk)
 split at hpl
 ·rw [List.mem_singleton.1 hpl];exact F5 (g hi) (g hj)
 ·cases hpl
theorem sX (c:PC):(dq c).length≤c.length:=by
 unfold dq;rw [List.length_flatten,List.map_map]
 have key:∀(l:List Nat) (f:Nat→Nat),(∀i∈l,f i≤1)→(l.map f).sum≤l.length:=fun l f=>by
  induction l with
  |nil=>intro _;simp
  |cons a l ih =>
   intro H;rw [List.map_cons,List.sum_cons,List.length_cons];have:=ih fun i hi=>H i (Mc hi)
   have:=H a Ms;omega
 refine Nat.le_trans (key _ _ fun i _=>?_) (by rw [List.length_range];exact Nat.le_refl _);simp only [Function.comp];split <;> simp
theorem CT {v:List Pq}{h:Nat}(hv:∀p∈v,hp p h):∀e∈fV v,hp e.1 h∧hp e.2 h:=fun e he=>by
 unfold fV at he;obtain⟨i,hi,rfl⟩:=List.mem_map.1 he;have hi:=List.mem_range.1 hi
 have g:∀{k:Nat},k<v.length→hp (v.getD k (0,0)) h:=fun hk=>by
  rw [List.getD,List.getElem?_eq_getElem hk];exact hv _ (List.getElem_mem hk)
 exact⟨g hi,g (Nat.mod_lt _ om)⟩
theorem uh {l:List PC}{L:Nat}(h:∀c∈l,∀s∈c,s.1.le L):∀e∈aj l,hp e.1 (2*L+1)∧hp e.2 (2*L+1):=fun e he=>by
 unfold aj at he;obtain⟨x,hx,hex⟩:=List.mem_flatten.1 he;obtain⟨c,hc,rfl⟩:=List.mem_map.1 hx;exact CT (wh (h c hc)) e hex
theorem zK {l:List PC}{k n:Nat}(h:∀c∈l,c.length≤k) (hn:l.length≤n):(aj l).length≤n*k:=by
 have key:∀l:List PC,(∀c∈l,c.length≤k)→(aj l).length≤l.length*k:=fun l=>by
  induction l with
  |nil=>intro _;simp [aj]
  |cons c l ih =>
   intro H;have e:aj (c::l)=fV (dq c)++aj l:=rfl;have a:=ih fun x hx=>H x (Mc hx)
   have b:=sX c;have d:=H c Ms;have f:(fV (dq c)).length=(dq c).length:=by unfold fV;rw [List.length_map,List.length_range]
   rw [e,List.length_append,List.length_cons,Nat.succ_mul];omega
 exact Nat.le_trans (key l h) (Nat.mul_le_mul_right k hn)
theorem lJ {L:Nat}(h1:1≤L):∀(t:Tr) (c:PC),(t.all fun l=>l.le L)→(∀s∈c,yh L s)→∀x∈aN t c,(∀s∈x.1,yh L s)∧x.1.length≤c.length+fj t
 | .leaf i,c,_,hc,x,hx=>by
  unfold aN at hx;rw [List.mem_singleton.1 hx];exact⟨hc,Nat.le_add_right _ _⟩
 | .node l a b,c,h,hc,x,hx=>by
  have hd:fj (.node l a b)=1+max (fj a) (fj b):=rfl;have n1:=lW (aP l) c l;have n2:=lW (aP l.neg) c l.neg;have hln:l.neg.le L:=⟨by show il (-l.a)≤L;rw [cH];exact h.1.a,by show il (-l.b)≤L;rw [cH];exact h.1.b,by show il (-l.c)≤L;rw [cH];exact h.1.c⟩
  unfold aN at hx;rcases List.mem_append.1 hx with hx|hx
  ·split at hx
   ·obtain⟨g1,g2⟩:=lJ h1 a _ h.2.1 (oF hc h.1 h1) x hx;exact⟨g1,by rw [hd];omega⟩
   ·cases hx
  ·split at hx
   ·obtain⟨g1,g2⟩:=lJ h1 b _ h.2.2 (oF hc hln h1) x hx;exact⟨g1,by rw [hd];omega⟩
   ·cases hx
structure ArT (t:Tr):Prop where
 lok:t.lok
 le:t.all fun l=>l.le 16
 dep:fj t≤12
 size:iO t≤156
 bnd:(inC t).all bndP=true
theorem ArT.inC_le {t:Tr}(h:ArT t):∀c∈inC t,(∀s∈c,yh 16 s)∧c.length≤12:=fun c hc=>by
 obtain⟨x,hx,rfl⟩:=List.mem_map.1 hc;obtain⟨a,b⟩:=lJ (L:=16) om t [] h.le (fun s hs=>by cases hs) x (List.mem_filter.1 hx).1;have:=h.dep;exact⟨a,by simp at b;omega⟩
theorem ArT.inC_len {t:Tr}(h:ArT t):(inC t).length≤157:=by
 have h1:=iA t [];have h2:=iV t;have h3:=h.size;have h4:(inC t).length≤(aN t []).length:=by unfold inC;rw [List.length_map];exact List.length_filter_le _ _
 omega
theorem ArT.edges {t:Tr}(h:ArT t):(aj (inC t)).length≤1884∧∀e∈aj (inC t),hp e.1 33∧hp e.2 33 :=
 ⟨zK (fun c hc=>(h.inC_le c hc).2) h.inC_len,uh (L:=16) fun c hc s hs=>((h.inC_le c hc).1 s hs).1⟩
theorem ArT.area {t:Tr}(h:ArT t):((aj (inC t)).map fun e=>a9 e.1 e.2).foldl (· + ·) 0=cw ar2 (inC t):=Df (jq h.lok) h.bnd
theorem ArT.pos {t:Tr}(h:ArT t) (hn:inC t≠[]):0<cw ar2 (inC t):=Gj (jq h.lok) h.bnd hn
structure LD where
 k:Nat
 s:SV
 Hs:LH
theorem Ek {l m:Li}{L:Nat}(hl:l.le L) (hm:m.le L) (h1:1≤L) (hU:L≤10000) (hd:bH l m≠0):Pu Tryz.prog 209 [lfl l,lfl m] (Ab.tup [ppq (aY l m),lit (.bool true)]):=by
 obtain⟨a1,a2,a3⟩:=hl.hts h1;obtain⟨b1,b2,b3⟩:=hm.hts h1;have c1:=gn (l.a:Rat) l.b l.c;have c2:=gn (m.a:Rat) m.b m.c;have c3:=jD (l.a:Rat) l.b m.a m.b om om om om;have ed:(l.a:Rat)*m.b-l.b*m.a=bH l m:=by unfold bH;grind
 have h2:=ae (l.a:Rat) m.b;have h3:=ae (l.b:Rat) m.a;have h4:=cI ((l.a:Rat)*m.b) (l.b*m.a);rw [ed]at c3 h4;have c4:=l9 (bH l m);rw [decide_eq_false (fun e=>hd (Rat.num_eq_zero.1 e))]at c4;have c5:=dY (l.b:Rat) m.c om om;have c6:=dY (l.c:Rat) m.b om om;have c7:=dY (l.c:Rat) m.a om om;have c8:=dY (l.a:Rat) m.c om om;have k1:=ae (l.b:Rat) m.c;have k2:=ae (l.c:Rat) m.b;have k3:=ae (l.c:Rat) m.a;have k4:=ae (l.a:Rat) m.c;have k5:=cI ((l.b:Rat)*m.c) (l.c*m.b);have k6:=cI ((l.c:Rat)*m.a) (l.a*m.c);have d1:=nN ((l.b:Rat)*m.c) (l.c*m.b) om om;have d2:=nN ((l.c:Rat)*m.a) (l.a*m.c) om om;have d3:=ov ((l.b:Rat)*m.c-l.c*m.b) (bH l m) om om;have d4:=ov ((l.c:Rat)*m.a-l.a*m.c) (bH l m) om om
 have em:aY l m=(((l.b:Rat)*m.c-l.c*m.b)/bH l m,((l.c:Rat)*m.a-l.a*m.c)/bH l m):=by
  unfold aY;rw [show(l.b:Rat)*m.c-m.b*l.c=l.b*m.c-l.c*m.b by grind,show(m.a:Rat)*l.c-l.a*m.c=l.c*m.a-l.a*m.c by grind]
 rw [em];clear em ed a1 a2 a3 b1 b2 b3 h2 h3 h4 k1 k2 k3 k4 k5 k6 hl hm hd;generalize((l.b:Rat)*m.c-l.c*m.b)/bH l m=x at *;generalize((l.c:Rat)*m.a-l.a*m.c)/bH l m=y at *;generalize(l.b:Rat)*m.c-l.c*m.b=x1 at *;generalize(l.c:Rat)*m.a-l.a*m.c=y1 at *;generalize(l.b:Rat)*m.c=x2 at *;generalize(l.c:Rat)*m.b=x3 at *;generalize(l.c:Rat)*m.a=y2 at *;generalize(l.a:Rat)*m.c=y3 at *;generalize bH l m=d at *;refine Pi Tryz.func209 fun C=>?_
 repeat(first|(refine AS ⟨?_⟩;intros)|(refine O1 ⟨?_⟩;intros))
 refine WdL 6 1 ?_;repeat(first|(refine A1 ⟨?_⟩;intros)|refine W4 c1 ⟨?_⟩|refine W4 c2 ⟨?_⟩|refine W4 c3 ⟨?_⟩)
 refine dL1 fun b=>?_
 refine Gs (sv:=fr d) (cs':=frx d) rfl rfl rfl (by first|exact .here _|exact .there _ (.here _)) rfl rfl ?_ ?_
 ·(repeat(first|exact LOk.nil|refine Lsk ?_|refine Lcv ?_))
 refine Gn ?_ ?_
 ·(repeat(first|exact LOk.nil|refine Lsk ?_|refine Lcv ?_))
 repeat(first|(refine AS ⟨?_⟩;intros)|(refine O1 ⟨?_⟩;intros)|(refine Wcx (c4) ?_)|(refine dH (c4) ?_))
 refine WdL 14 1 ?_;repeat(first|(refine A1 ⟨?_⟩;intros)|refine W4 c5 ⟨?_⟩|refine W4 c6 ⟨?_⟩|refine W4 d1 ⟨?_⟩|refine W4 d3 ⟨?_⟩)
 refine dL1 fun b=>?_
 refine Gs (sv:=fr x) (cs':=frx x) rfl rfl rfl (by first|exact .here _|exact .there _ (.here _)) rfl rfl ?_ ?_
 ·(repeat(first|exact LOk.nil|refine Lsk ?_|refine Lcv ?_))
 refine Gn ?_ ?_
 ·(repeat(first|exact LOk.nil|refine Lsk ?_|refine Lcv ?_))
 repeat(first|(refine AS ⟨?_⟩;intros)|(refine O1 ⟨?_⟩;intros))
 refine WdL 14 1 ?_;repeat(first|(refine A1 ⟨?_⟩;intros)|refine W4 c7 ⟨?_⟩|refine W4 c8 ⟨?_⟩|refine W4 d2 ⟨?_⟩|refine W4 d4 ⟨?_⟩)
 refine dL1 fun b=>?_
 refine Gs (sv:=fr y) (cs':=frx y) rfl rfl rfl (by first|exact .here _|exact .there _ (.here _)) rfl rfl ?_ ?_
 ·(repeat(first|exact LOk.nil|refine Lsk ?_|refine Lcv ?_))
 refine Gn ?_ ?_
 ·(repeat(first|exact LOk.nil|refine Lsk ?_|refine Lcv ?_))
 repeat(refine A1 ⟨?_⟩;intros)
 exact G3
def qE (c:PC) (i:Nat):List Pq:=if 0<(a9 (dirL (c.getD i zSd).1) (dirL (c.getD ((i+1)%c.length) zSd).1)).num.sign then [aY (c.getD i zSd).1 (c.getD ((i+1)%c.length) zSd).1]else []
def uz (c:PC) (k:Nat):List Pq:=((List.range k).map (qE c)).flatten
theorem GB (c:PC):uz c c.length=dq c:=rfl
theorem wg (c:PC) (k:Nat):uz c (k+1)=uz c k++qE c k:=by unfold uz;rw [List.range_succ,List.map_append,List.flatten_append];simp
theorem GA (c:PC) (k:Nat):(uz c k).length≤k:=by
 induction k with
 |zero=>simp [uz]
 |succ k ih =>
  rw [wg,List.length_append];have:(qE c k).length≤1:=by unfold qE;split <;> simp
  omega
abbrev gpT:TypeId:=94
theorem Hp {l:List Pq}{p:Pq}{s:SV}{H:LH}(h:Own gpT 6 (l.length+1) ((l.map ppx).flatten++ppx p) s H):Own gpT 6 (l++[p]).length ((l++[p]).map ppx).flatten s H:=by
 rw [List.map_append,List.flatten_append,List.length_append];simpa using h
theorem wi {c:PC}{L:Nat}(hc:∀s∈c,s.1.le L) (h1:1≤L) (hU:L≤10000) (hn:c.length≤100000):Pu Tryz.prog 155 [pcs c] (pps (dq c)):=by
 refine Pi Tryz.func155 fun C=>?_
 repeat(refine A1 ⟨?_⟩;intros)
 refine WP.loopS (ι:=LD) (fun y=>y.k≤c.length∧Own gpT 6 (uz c y.k).length ((uz c y.k).map ppx).flatten y.s y.Hs) (fun y=>c.length-y.k) (fun y=>fm [(0,pcs c),(3,y.s),(9,pcs c),(10,lit (.int .i64 c.length)),(11,lit (.int .i64 y.k))]) (fun y=>y.Hs) ⟨0,lit (.slice none 0 0),[]⟩
  ⟨Nat.zero_le _,Own.nil _ _⟩ lfA (List.nil_sublist _) ?_
 rintro ⟨k,s,Hs⟩ ⟨hk,hown⟩ K hK;simp only at hk hown⊢;have hco:=hown.co;by_cases hkl:k<c.length
 ·obtain⟨a,hget,hmm,hat,hne⟩:=elt eU om hkl;have hml:(k+1)%c.length<c.length:=Nat.mod_lt _ om;obtain⟨b,hget2,hmm2,hat2,_⟩:=elt eU om hml;have htm:((k:Int)+1).tmod (c.length:Int)=(((k+1)%c.length:Nat):Int):=rfl;have htm1:0≤((k:Int)+1).tmod (c.length:Int):=by rw [htm];omega
  have htm2:((k:Int)+1).tmod (c.length:Int)<(c.length:Int):=by rw [htm];exact_mod_cast hml
  have hat2':(((c.map fgx).flatten).drop ((((k:Int)+1).tmod (c.length:Int)).toNat*17)).take 17=fgx b:=by rw [htm];exact hat2
  have hgo:=fun s' Hs' h F' H'=>hK F' H' ⟨k+1,s',Hs'⟩ ⟨by simp only;omega,h⟩ (by simp only;omega)
  have e1:c.getD k zSd=a:=by rw [List.getD,hget];rfl
  have e2:c.getD ((k+1)%c.length) zSd=b:=by rw [List.getD,hget2];rfl
  have hvl:=GA c k;simp only [wg]at hgo;unfold qE at hgo;rw [e1,e2]at hgo;have ha:=hc a hmm;have hb:=hc b hmm2;have d1:=lN a.1 (ha.gr om);have d2:=lN b.1 (hb.gr om);obtain⟨a1,a2,a3⟩:=ha.hts h1;obtain⟨b1,b2,b3⟩:=hb.hts h1;have n1:ht (-(a.1.a:Rat))≤L:=by rw [ck];exact a1
  have n2:ht (-(b.1.a:Rat))≤L:=by rw [ck];exact b1
  have d3:=jD (a.1.b:Rat) (-(a.1.a:Rat)) b.1.b (-(b.1.a:Rat)) om om om om;have m1:=ae (a.1.b:Rat) (-(b.1.a:Rat));have m2:=ae (-(a.1.a:Rat)) (b.1.b:Rat);have m3:=cI ((a.1.b:Rat)*(-(b.1.a:Rat))) ((-(a.1.a:Rat))*(b.1.b:Rat));have d4:=gM ((a.1.b:Rat)*(-(b.1.a:Rat))-(-(a.1.a:Rat))*(b.1.b:Rat)) om;have ec:(a.1.b:Rat)*(-(b.1.a:Rat))-(-(a.1.a:Rat))*(b.1.b:Rat)=a9 (dirL a.1) (dirL b.1):=rfl;rw [ec]at d3 d4;generalize uz c k=v at *;clear hK hget hget2 e1 e2 a1 a2 a3 b1 b2 b3 n1 n2 m1 m2 m3 ec hat2 htm;by_cases hs:0<(a9 (dirL a.1) (dirL b.1)).num.sign
  ·have hd:bH a.1 b.1≠0:=fun z=>by
    have e:a9 (dirL a.1) (dirL b.1)=bH a.1 b.1:=by unfold a9 dirL bH;simp only;grind
    rw [e,z]at hs;exact absurd hs (by decide)
   have d5:=Ek ha hb h1 hU hd;rw [if_pos hs]at hgo;generalize(a9 (dirL a.1) (dirL b.1)).num.sign=z at *;generalize a9 (dirL a.1) (dirL b.1)=x at *;generalize aY a.1 b.1=p at *;clear hd hc ha hb hmm hmm2;repeat(refine A1 ⟨?_⟩;intros)
   refine Wo (aa (cs':=fgx a) rfl rfl om om hat hne) ?_;repeat(refine A1 ⟨?_⟩;intros)
   refine Wo (aa (cs':=fgx b) rfl rfl htm1 htm2 hat2' hne) ?_;repeat(first|(refine Wo (aH (ppx p) rfl) ?_)|(refine Wdo (aH (ppx p) rfl) ?_)|(refine A1 ⟨?_⟩;intros)|refine W4 d1 ⟨?_⟩|refine W4 d2 ⟨?_⟩|refine W4 d3 ⟨?_⟩|refine W4 d4 ⟨?_⟩|refine W4 d5 ⟨?_⟩)
   refine jS (ds:=ppx p) hown (Tk.skip _ (Tk.skip _ (Tk.skip _ (Tk.same _)))) om (fun s' H1 hown'=>?_);have hco':=hown'.co;replace hgo:=hgo s' H1 (Hp hown');clear hown hown';repeat(refine A1 ⟨?_⟩;intros)
   exact hgo _ _ lfA (by repeat(first|exact Sr|refine Sc ?_))
  ·rw [if_neg hs,List.append_nil]at hgo;replace hgo:=hgo s Hs hown;generalize(a9 (dirL a.1) (dirL b.1)).num.sign=z at *;generalize a9 (dirL a.1) (dirL b.1)=x at *;clear hc ha hb hmm hmm2 hown;repeat(refine A1 ⟨?_⟩;intros)
   refine Wo (aa (cs':=fgx a) rfl rfl om om hat hne) ?_;repeat(refine A1 ⟨?_⟩;intros)
   refine Wo (aa (cs':=fgx b) rfl rfl htm1 htm2 hat2' hne) ?_;repeat(first|(refine A1 ⟨?_⟩;intros)|refine W4 d1 ⟨?_⟩|refine W4 d2 ⟨?_⟩|refine W4 d3 ⟨?_⟩|refine W4 d4 ⟨?_⟩)
   exact hgo _ _ lfA (by repeat(first|exact Sr|refine Sc ?_))
 ·have hke:k=c.length:=by omega
  subst hke;rw [GB]at hown;refine WP.rowS 3 hown rfl (by rw [List.append_nil]) ?_;clear hK hown;repeat(refine A1 ⟨?_⟩;intros)
  exact aS (aJ (RV.tmp rfl) Lr)
abbrev gcT:TypeId:=238
abbrev css (l:List PC):SV:=sl (l.map fun c=>[pcs c]).flatten l.length
def inK (l:List (PC×Bool)):List PC:=(l.filter fun x=>x.2).map Prod.fst
theorem Fw {l:List (PC×Bool)}{k:Nat}{x:PC×Bool}(h:l[k]? = some x):inK (l.take (k+1))=inK (l.take k)++(if x.2 then [x.1]else []):=by
 unfold inK;rw [dM h,List.filter_append,List.map_append];cases hx:x.2 <;> simp [hx]
theorem Ix (l:List (PC×Bool)):(inK l).length≤l.length:=by unfold inK;rw [List.length_map];exact List.length_filter_le _ _
theorem Hq {l:List PC}{c:PC}{s:SV}{H:LH}(h:Own gcT 1 (l.length+1) ((l.map fun c=>[pcs c]).flatten++[pcs c]) s H):Own gcT 1 (l++[c]).length ((l++[c]).map fun c=>[pcs c]).flatten s H:=by
 rw [List.map_append,List.flatten_append,List.length_append];simpa using h
theorem Da {L:Nat}(h1:1≤L) (hU:L≤500) (t:Tr) (hall:t.all fun l=>l.le L) (hd:fj t≤100000) (hn:cD t≤1000000):Pu Tryz.prog 152 [bt t] (css (inC t)):=by
 have c1:=D8 h1 hU t hall hd om;have hpl:=iA t [];have e0:inC t=inK (aN t []):=rfl;rw [e0];clear e0 hall hd;generalize aN t []=l at *;refine Pi Tryz.func152 fun C=>?_
 repeat(first|(refine A1 ⟨?_⟩;intros)|refine W4 c1 ⟨?_⟩)
 refine WP.loopS (ι:=LD) (fun y=>y.k≤l.length∧Own gcT 1 (inK (l.take y.k)).length ((inK (l.take y.k)).map fun c=>[pcs c]).flatten y.s y.Hs) (fun y=>l.length-y.k) (fun y=>fm [(3,y.s),(7,pls l),(8,lit (.int .i64 l.length)),(9,lit (.int .i64 y.k))]) (fun y=>y.Hs) ⟨0,lit (.slice none 0 0),[]⟩
  ⟨Nat.zero_le _,Own.nil _ _⟩ lfA (List.nil_sublist _) ?_
 clear c1;rintro ⟨k,s,Hs⟩ ⟨hk,hown⟩ K hK;simp only at hk hown⊢;have hco:=hown.co;by_cases hkl:k<l.length
 ·obtain⟨⟨c,i⟩,hget,hmm,hat,hne⟩:=elt Hb om hkl;have hgo:=fun s' Hs' h F' H'=>hK F' H' ⟨k+1,s',Hs'⟩ ⟨by simp only;omega,h⟩ (by simp only;omega)
  simp only [Fw hget]at hgo;have hle:=Ix (l.take k);rw [List.length_take]at hle;rw [show ptx (c,i)=[pcs c,pt (bc (.leaf i))]from rfl,oI]at hat;generalize inK (l.take k)=d at *;clear hK hget hmm;cases i
  ·rw [if_neg (by decide),List.append_nil]at hgo;replace hgo:=hgo s Hs hown;clear hown;repeat(refine A1 ⟨?_⟩;intros)
   refine Wo (aa (cs':=_) rfl rfl om om hat hne) ?_;repeat(refine A1 ⟨?_⟩;intros)
   exact hgo _ _ lfA (by repeat(first|exact Sr|refine Sc ?_))
  ·rw [if_pos rfl]at hgo;repeat(refine A1 ⟨?_⟩;intros)
   refine Wo (aa (cs':=_) rfl rfl om om hat hne) ?_;repeat(first|(refine Wo (iC (s:=pcs c) (ds:=[pcs c]) rfl inferInstance) ?_)|(refine Wdo (iC (s:=pcs c) (ds:=[pcs c]) rfl inferInstance) ?_)|(refine A1 ⟨?_⟩;intros))
   refine jS (ds:=[pcs c]) hown (Tk.skip _ (Tk.same _)) om (fun s' H1 hown'=>?_);have hco':=hown'.co;replace hgo:=hgo s' H1 (Hq hown');clear hown hown';repeat(refine A1 ⟨?_⟩;intros)
   exact hgo _ _ lfA (by repeat(first|exact Sr|refine Sc ?_))
 ·have hke:k=l.length:=by omega
  subst hke;rw [List.take_length]at hown;refine WP.rowS 3 hown rfl (by rw [List.append_nil]) ?_;clear hK hown;repeat(refine A1 ⟨?_⟩;intros)
  exact aS (aJ (RV.tmp rfl) Lr)
theorem Cv {t:Tr}{L:Nat}(h1:1≤L) (hU:L≤500) (hall:t.all fun l=>l.le L) (c1:Pu Tryz.prog 38 [tq t] (Ab.tup [bt t,lit (.bool true)])) (hd:fj t≤1024) (hn:cD t≤1000000):Pu Tryz.prog 95 [tq t] (Ab.tup [css (inC t),lit .nilIface]):=by
 have c2:=sn t om;have c3:=Da h1 hU t hall om hn;clear hall;generalize inC t=r at *;refine Pi Tryz.func95 fun C=>?_
 repeat(first|(refine Wo (bh (sv:=ag _) rfl) ?_)|(refine Wdo (bh (sv:=ag _) rfl) ?_)|(refine A1 ⟨?_⟩;intros)|refine W4 c1 ⟨?_⟩|refine W4 c2 ⟨?_⟩|refine W4 c3 ⟨?_⟩)
 exact G2
theorem FX {l:List PC}{k:Nat}(hk:k<l.length):∃c,l[k]? = some c∧c∈l∧(((l.map fun c=>[pcs c]).flatten).drop (k*1)).take 1=[pcs c]∧(l.map fun c=>[pcs c]).flatten≠[]:=elt (f:=fun c=>[pcs c]) (n:=1) (fun _=>rfl) om hk
theorem Ih (l:List PC) (hl:l.length≤100000) (hc:∀c∈l,c.length≤100000):Pu Tryz.prog 96 [css l] (lit (.bool (l.all bndP))):=by
 have hR0:((l.drop 0).all bndP)=l.all bndP:=rfl;generalize l.all bndP=R at *;refine Pi Tryz.func96 fun C=>?_
 repeat(refine A1 ⟨?_⟩;intros)
 refine WP.loopS (ι:=Nat) (fun k=>k≤l.length∧(l.drop k).all bndP=R) (fun k=>l.length-k) (fun k=>fm [(5,css l),(6,lit (.int .i64 l.length)),(7,lit (.int .i64 k))]) (fun _=>[]) 0 ⟨Nat.zero_le _,hR0⟩ lfA (List.nil_sublist _) ?_;clear hR0;rintro k ⟨hk,hR⟩ K hK;by_cases hkl:k<l.length
 ·obtain⟨c,hget,hmm,hat,hne⟩:=FX hkl;have hgo:=fun(h:(l.drop (k+1)).all bndP=R) F' H'=>hK F' H' (k+1) ⟨om,h⟩ om
  rw [i9 hget,List.all_cons]at hR;have c1:=y8 c (hc c hmm);clear hK hget hmm hc;cases hb:bndP c
  ·rw [hb]at c1 hR;rw [Bool.false_and]at hR;subst hR;clear hgo;repeat(refine A1 ⟨?_⟩;intros)
   refine Wo (aa (cs':=[pcs c]) rfl rfl om om hat hne) ?_;exact Y1 c1
  ·rw [hb]at c1 hR;rw [Bool.true_and]at hR;replace hgo:=hgo hR;clear hR;repeat(refine A1 ⟨?_⟩;intros)
   refine Wo (aa (cs':=[pcs c]) rfl rfl om om hat hne) ?_;repeat(first|(refine A1 ⟨?_⟩;intros)|refine W4 c1 ⟨?_⟩)
   exact hgo _ _ lfA (List.nil_sublist _)
 ·have hke:k=l.length:=by omega
  subst hke;rw [List.drop_length]at hR;rw [←hR];clear hK hR;exact Z1
theorem rH {t:Tr}(h:ArT t) (c1:Pu Tryz.prog 38 [tq t] (Ab.tup [bt t,lit (.bool true)])):Pu Tryz.prog 42 [tq t] (Ab.tup [css (inC t),lit .nilIface]):=by
 have hz:=h.size;have hd:=h.dep;have c2:=Cv (L:=16) om om h.le c1 om (by rw [iV];omega);have hn:=h.inC_len;have c3:=Ih (inC t) om (fun c hc=>by have:=(h.inC_le c hc).2;omega);rw [h.bnd]at c3;clear h c1;generalize inC t=r at *;refine Pi Tryz.func42 fun C=>?_
 repeat(first|(refine Wo (bh (sv:=ag _) rfl) ?_)|(refine Wdo (bh (sv:=ag _) rfl) ?_)|(refine A1 ⟨?_⟩;intros)|refine W4 c2 ⟨?_⟩|refine W4 c3 ⟨?_⟩)
 exact G2
end Go.Ab
