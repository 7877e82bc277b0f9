/- Texts laid one behind the other: BndP, Fpos, StrB, WExpr, Def, RExpr, PExpr. -/
import Derived.Test.YtjopjomoejfehaaGreatDoorB35
import Derived.Defers
import Derived.Recover
set_option linter.all false
namespace Go.Ab
open Go.Proofs
variable [Base]
abbrev su:Nat:=9223372036854775807
def bnd (m n:Nat):Nat:=min (m+(m+1)*n) su
theorem Mo (m n:Nat):bnd m n≤su:=Nat.min_le_right _ _
def gX (env:List UInt8→Option Nat) (n:Nd) (st:List Nat):Option (Nat×List Nat) :=
 if n.k=1 then(match env n.nm with
  |some v=>some (v,st)
  |none=>none)
 else if n.k=4 then some (1,st)
 else if n.k=5 then(match st with
  |a::r=>some (a,r)
  | []=>none)
 else if n.k=6 then(match st with
  |b::a::r=>some (bnd a b,r)
  |_=>none)
 else some (0,st)
def vZ (env:List UInt8→Option Nat):List Nd→List Nat→List Nat→Option (List Nat)
 | [],_,out=>some out
 |n::ns,st,out=>match gX env n st with
  |some (v,r)=>vZ env ns (v::r) (out++[v])
  |none=>none
theorem sh (env:List UInt8→Option Nat) (n:Nd) (ns:List Nd) (st out:List Nat):vZ env (n::ns) st out=match gX env n st with
  |some (v,r)=>vZ env ns (v::r) (out++[v])
  |none=>none:=rfl
inductive BS (out:List Nat):List (Ex×Nat)→List Nat→Prop
 |nil:BS out [] []
 |cons {x:Ex}{j v:Nat}{st:List (Ex×Nat)}{vs:List Nat}(h:out[j]? = some v) (k:BS out st vs):BS out ((x,j)::st) (v::vs)
theorem BS.more {out:List Nat}{st:List (Ex×Nat)}{vs:List Nat}(h:BS out st vs) (v:Nat):BS (out++[v]) st vs:=by
 induction h with
 |nil=>exact .nil
 |cons h _ ih=>exact .cons (by rw [dO (bC.1 h).1];exact h) ih
theorem Jh {env:List UInt8→Option Nat}{n:Nd}{st st':List (Ex×Nat)}{vs out:List Nat}{i:Nat}(h:stp i n st=some st') (hb:BS out st vs) (hi:out.length=i) :
  match gX env n vs with
  |some (v,r)=>BS (out++[v]) st' (v::r)
  |none=>n.k=1∧env n.nm=none:=by
 have hlast:∀v,(out++[v])[i]? = some v:=fun v=>by rw [←hi];simp
 unfold stp at h;by_cases e:okN n=true
 case neg=>rw [if_neg e]at h;cases h
 rw [if_pos e]at h;obtain⟨hk,_⟩:=Ae e;unfold gX;by_cases k5:n.k=5
 ·rw [if_neg om,if_neg om,if_pos k5];rw [if_pos k5]at h;cases hb with
  |nil=>cases h
  |cons h1 h2 =>
   simp only at h⊢;split at h
   ·obtain rfl:=bk h;exact .cons (hlast _) (h2.more _)
   ·cases h
 rw [if_neg k5]at h;by_cases k6:n.k=6
 ·rw [if_neg om,if_neg om,if_neg k5,if_pos k6];rw [if_pos k6]at h;cases hb with
  |nil=>cases h
  |cons h1 h2 =>
   cases h2 with
   |nil=>cases h
   |cons h3 h4 =>
    simp only at h⊢;split at h
    ·obtain rfl:=bk h;exact .cons (hlast _) (h4.more _)
    ·cases h
 rw [if_neg k6]at h;obtain rfl:=bk h;by_cases k1:n.k=1
 ·rw [if_pos k1];cases he:env n.nm with
  |none=>exact⟨k1,rfl⟩
  |some v=>exact .cons (hlast _) (hb.more _)
 rw [if_neg k1];by_cases k4:n.k=4
 ·rw [if_pos k4];exact .cons (hlast _) (hb.more _)
 ·rw [if_neg k4,if_neg k5,if_neg k6];exact .cons (hlast _) (hb.more _)
theorem Ea {env:List UInt8→Option Nat}:∀{ns:List Nd}{st out o:List Nat},vZ env ns st out=some o→o.length=out.length+ns.length
 | [],st,out,o,h=>by obtain rfl:=bk h;simp
 |n::ns,st,out,o,h=>by
  rw [sh]at h;cases hb:gX env n st with
  |none=>rw [hb]at h;cases h
  |some q =>
   rw [hb]at h;have:=Ea h;simp only [ac,bh,aE,br]at this⊢;omega
theorem Ml {env:List UInt8→Option Nat}(hE:∀s v,env s=some v→v≤su){n:Nd}{st r:List Nat}{v:Nat}(hs:∀x∈st,x≤su) (h:gX env n st=some (v,r)):v≤su∧∀x∈r,x≤su:=by
 unfold gX at h;by_cases k1:n.k=1
 ·rw [if_pos k1]at h;cases he:env n.nm with
  |none=>rw [he]at h;cases h
  |some u=>rw [he]at h;simp only [bA,cB]at h;obtain⟨rfl,rfl⟩:=h;exact⟨hE _ _ he,hs⟩
 rw [if_neg k1]at h;by_cases k4:n.k=4
 ·rw [if_pos k4]at h;simp only [bA,cB]at h;obtain⟨rfl,rfl⟩:=h;exact⟨by decide,hs⟩
 rw [if_neg k4]at h;by_cases k5:n.k=5
 ·rw [if_pos k5]at h;match st,h with
  |a::r',h=>simp only [bA,cB]at h;obtain⟨rfl,rfl⟩:=h;exact⟨hs a (by simp),fun x hx=>hs x (by simp [hx])⟩
 rw [if_neg k5]at h;by_cases k6:n.k=6
 ·rw [if_pos k6]at h;match st,h with
  |b::a::r',h=>simp only [bA,cB]at h;obtain⟨rfl,rfl⟩:=h;exact⟨Mo _ _,fun x hx=>hs x (by simp [hx])⟩
 rw [if_neg k6]at h;simp only [bA,cB]at h;obtain⟨rfl,rfl⟩:=h;exact⟨ak _,hs⟩
def jp (l:List Nat):Nat:=l.foldl max 0
theorem uM:∀(l:List Nat) (a:Nat),a≤l.foldl max a∧∀x∈l,x≤l.foldl max a
 | [],a=>⟨ar _,fun _ h=>by cases h⟩
 |b::l,a=>by
  obtain⟨h1,h2⟩:=uM l (max a b);refine⟨aO (sP _ _) h1,fun x hx=>?_⟩;rcases an.1 hx with rfl|hx
  ·exact aO (nG _ _) h1
  ·exact h2 x hx
theorem GT {l:List Nat}{x:Nat}(h:x∈l):x≤jp l:=(uM l 0).2 x h
theorem Ao (l:List Nat) (x:Nat):jp (l++[x])=max (jp l) x:=by unfold jp;rw [jB];rfl
theorem uL:∀(l:List Nat) (a b:Nat),a≤b→(∀x∈l,x≤b)→l.foldl max a≤b
 | [],a,b,h,_=>h
 |c::l,a,b,h,k=>uL l (max a c) b (Nat.max_le.2 ⟨h,k c (by simp)⟩) fun x hx=>k x (by simp [hx])
theorem BC {l:List Nat}{b:Nat}(h:∀x∈l,x≤b):jp l≤b:=uL l 0 b (ak _) h
def sA (l:List (List UInt8)) (s:List UInt8):Int:=match l.findIdx? (fun x=>decide (x=s))with
 |some i=>(i:Int)
 |none => -1
theorem OV {l:List (List UInt8)}{s:List UInt8}{k:Nat}(hk:k<l.length) (h:∀j,j<k→l[j]?≠some s) (he:l[k]? = some s):sA l s=k:=by
 have:l.findIdx? (fun x=>decide (x=s))=some k:=by
  rw [xb];refine⟨hk,?_,fun j hj=>?_⟩
  ·rw [ax hk]at he;simpa using he
  ·have:=h j hj;rw [ax om]at this;simpa using this
 unfold sA;rw [this]
theorem IX {l:List (List UInt8)}{s:List UInt8}(h:∀j,j<l.length→l[j]?≠some s):sA l s = -1:=by
 have:l.findIdx? (fun x=>decide (x=s))=none:=by
  rw [List.findIdx?_eq_none_iff];intro x hx;obtain⟨j,hj⟩:=sG.1 hx;have:=h j (bC.1 hj).1;rw [hj]at this;simpa using this
 unfold sA;rw [this]
theorem Hg (l:List (List UInt8)) (s:List UInt8):sA l s<0∧sA l s = -1∨∃i:Nat,sA l s=i∧i<l.length:=by
 unfold sA;cases h:l.findIdx? (fun x=>decide (x=s))with
 |none=>exact .inl ⟨by decide,rfl⟩
 |some i =>
  rw [xb]at h;exact .inr ⟨i,rfl,h.1⟩
theorem N3 {l:List (List UInt8)}{k:Nat}{s:List UInt8}(h:l[k]? = some s):((l.map str).drop (((k:Nat):Int).toNat*1)).take 1=[str s]:=by
 obtain⟨hk,rfl⟩:=bC.1 h;rw [e9,cw,jf (by simpa using hk)];simp
theorem DH (l:List (List UInt8)) (s:List UInt8) (hl:l.length≤1000000000):Pu Tryz.prog 44 [sl (l.map str) l.length,str s] (lit (.int .i64 (sA l s))):=by
 refine Pi Tryz.func44 fun C=>?_
 refine A2 ⟨?_⟩;intros
 refine WP.loop (ι:=Nat) (fun k=>k≤l.length∧∀j,j<k→l[j]?≠some s) (fun k=>l.length-k)
  (fun k=>fm [(0,sl (l.map str) l.length),(1,str s),(7,lit (.int .i64 l.length)),(8,lit (.int .i64 k))]) (fun _=>[]) 0 ⟨ak _,fun j hj=>by omega⟩ lfA rfl ?_
 rintro k ⟨hk,hall⟩ K hK;by_cases hkl:k<l.length
 ·have hget:=ax hkl;have hat:=N3 hget;have hne:l.map str≠[]:=fun e=>by rw [lr]at e;rw [e]at hkl;simp at hkl
  by_cases he:l[k]=s
  ·have hf:=OV hkl hall (by rw [hget,he]);rw [hf];rw [he]at hat;clear hK hall;refine A2 ⟨?_⟩;intros;refine Wo (ae rfl rfl om om hat hne) ?_;refine A2 ⟨?_⟩;intros;refine Wo (bZ (r:=true) rfl rfl (a9 rfl)) ?_;exact Z1
  ·have hgo:=fun F' H' (h:LeF F' (fm [(0,sl (l.map str) l.length),(1,str s),(7,lit (.int .i64 l.length)),(8,lit (.int .i64 (k+1:Nat)))])) (h2:H'=[])=>hK F' H' (k+1) ⟨om,fun j hj=>by
    rcases Nat.lt_succ_iff_lt_or_eq.1 hj with h|rfl
    ·exact hall j h
    ·rw [hget];simpa using he⟩ om h h2
   generalize l[k]=x at *;clear hK hall;refine A2 ⟨?_⟩;intros;refine Wo (ae rfl rfl om om hat hne) ?_;refine A2 ⟨?_⟩;intros;refine Wo (bZ (r:=false) rfl rfl (ab (fun e=>he e.symm))) ?_;refine A2 ⟨?_⟩;intros;exact hgo _ _ lfA rfl
 ·obtain rfl:k=l.length:=by omega
  rw [IX hall];clear hK hall;exact Z1
theorem QF (l:List Nat) (h0:l≠[]) (hl:l.length≤1000000000) (hm:∀x∈l,x≤9223372036854775807):Pu Tryz.prog 22 [nsl .i64 (l.map Int.ofNat)] (lit (.int .i64 (jp l:Nat))):=by
 have hlen:(l.map Int.ofNat).length=l.length:=cq ..;have hpos:0<l.length:=ez.2 h0;have hgd:∀k,(l.map Int.ofNat).getD k 0=((l.getD k 0:Nat):Int):=fun k=>by simp [List.getD,gG];cases l[k]? <;> rfl
 have hgm:∀k,l.getD k 0≤9223372036854775807:=fun k=>by
  by_cases hk:k<l.length
  ·rw [List.getD,ax hk];exact hm _ (fC hk)
  ·rw [List.getD,cM om];decide
 have hlm:∀k,jp (l.take k)≤9223372036854775807:=fun k=>BC fun x hx=>hm x (fD hx)
 have hstep:∀k,k<l.length→jp (l.take (k+1))=max (jp (l.take k)) (l.getD k 0):=fun k hk=>by
  rw [nk,List.getD,ax hk];exact Ao _ _
 have hfirst:jp (l.take 1)=l.getD 0 0:=by rw [hstep 0 hpos];simp [jp]
 refine Pi Tryz.func22 fun C=>?_
 refine A2 ⟨?_⟩;intros;refine Wo (Bp (i:=0) rfl rfl om) ?_;rw [hgd 0];refine A2 ⟨?_⟩;intros
 refine WP.loop (ι:=Nat) (fun k=>1≤k∧k≤l.length) (fun k=>l.length-k)
  (fun k=>fm [(0,nsl .i64 (l.map Int.ofNat)),(3,lit (.int .i64 (jp (l.take k):Nat))),(4,lit (.int .i64 k))]) (fun _=>[]) 1 ⟨ar _,hpos⟩ (by rw [hfirst];(repeat(first|exact LeF.nil _|refine LeF.cons Lr ?_|refine LeF.cons (Le.int om) ?_))) rfl ?_
 rintro k ⟨hk1,hk⟩ K hK;by_cases hkl:k<l.length
 ·have hs:=hstep k hkl;have hgo:=fun F' H' (h:LeF F' (fm [(0,nsl .i64 (l.map Int.ofNat)),(3,lit (.int .i64 (jp (l.take (k+1)):Nat))),(4,lit (.int .i64 (k+1:Nat)))])) (h2:H'=[])=>hK F' H' (k+1) ⟨om,om⟩ om h h2
  rw [hs]at hgo;have hg:=hgd k;have m1:=hgm k;have m2:=hlm k;clear hK hgd hgm hlm hstep hs hfirst;generalize l.getD k 0=x at *;generalize jp (l.take k)=y at *;refine A2 ⟨?_⟩;intros;rw [hg];refine Wo (lc rfl rfl (r:=((max y x:Nat):Int)) (by split <;> omega)) ?_;refine A2 ⟨?_⟩;intros;exact hgo _ _ lfA rfl
 ·obtain rfl:k=l.length:=by omega
  rw [aX];clear hK hgd hgm hlm hstep hfirst;exact Z1
theorem IW {w:World}{b:Nat}{T:TypeId}{arr:Array Value}{l:List UInt8}{rest:List SV}{m:Mem}(hb:w.heap[b]? = some (.cells arr T (0,0))) (hall:bn m (bys l++rest) arr.toList) (j:Nat) (y:UInt8) (hj:l[j]? = some y):w.cell? ((⟨b,0,none⟩:Addr).add j)=some (.int .u8 y.toNat):=by
 rw [cG,eB w b _ arr _ _ hb];have hjl:j<l.length:=(bC.1 hj).1
 have hg:(bys l++rest)[j]? = some (lit (.int .u8 (y.toNat:Nat))):=by
  rw [dO (by rw [mT];exact hjl)];simp [bys,hj]
 obtain⟨v,hv,hp,_⟩:=hall.get hg;rw [ap]at hp;subst hp;simpa using hv
section
variable {P:Program}{C:Ctx}{n:Nat}{F:Fr}{H:LH}{ops:Array Oper}{K:Fr→LH→Prop}{rest:List Oper}{ty:TypeId}{pos:String}{aft:Array Edge}
theorem qy (w:World) (b n k:Nat) (h:k≠b):(w.freeze ⟨b,0,none⟩ n).heap[k]? = w.heap[k]?:=by
 unfold World.freeze;split
 ·rfl
 ·simp only [vk];rw [if_neg (fun e=>h e.symm)]
theorem WPL.unsafeStr {d:Nat}{x y:Operand}{pt it e:TypeId}{g:Nat}{l:List UInt8}{more:List SV}{H':LH}(hp:P.underlying pt=some (.pointer e)) (hc:P.cellsOf e=1) (hx:ev F x=lit (.pointer (some ⟨g,0,none⟩))) (hy:ev F y=lit (.int .i64 l.length)) (hl:l≠[]) (hl2:l.length≤9223372036854775807)
  (hdel:aq g e (bys l++more) H H') (k:WPL P C n ops rest K (upd F d (str l)) H') (hd:Nat.blt d n=true) :
  WPL P C n ops (⟨some d, .call ⟨.builtin .unsafeString,#[x,y],#[pt,it]⟩,ty,pos,aft,none⟩::rest) K F H:=by
 unfold WPL;intro a w hs Q hq;refine wpList_plain rfl fun K' hK'=>?_
 have hs':=hs.drop hdel;obtain⟨hdef,hn,m,h1,h2,h3,h4,h5⟩:=hs
 have hpp:∀x,(ev F x).p m (a.eval x):=fun x=>by
  cases x with
  |tmp t=>exact h5 t
  |const v=>unfold ev lit;rfl
  |global g=>unfold ev lit;rfl
  |func f=>unfold ev lit;rfl
 have e0:=hpp x;rw [hx,ap]at e0;have e1:=hpp y;rw [hy,ap]at e1;obtain⟨hmb,arr,hb,hall⟩:=h2.2 _ hdel.mem;have hlen:=hall.length;simp only [ac,mT,aR]at hlen;have hsh:w.shape? g=some (e,arr.size):=by simp [World.shape?,hb]
 have hrun:=Lib.run_unsafeString_row (P:=P) (w:=w) pt it ty e hp hc g arr.size hsh l hl om hl2 (fun j y hj=>IW hb hall j y hj);unfold Oper.wp
 have hexec:execOp a.eval (⟨some d, .call ⟨.builtin .unsafeString,#[x,y],#[pt,it]⟩,ty,pos,aft,none⟩:Oper)=(do let v←Builtin.unsafeString_ #[pt,it] ty #[a.eval x,a.eval y];pure (.value v)):=by
  simp [execOp,resolve,invoke,builtin]
 rw [hexec,e0,e1];simp only [Sem.run_bind,hrun,Result.andThen_ok,Sem.run_pure];unfold WPL at k;have hkeys:=hdel.keys h2.1;refine hK' _ _ (k (a.put (some d) (.string ⟨l.toArray⟩)) _ ⟨hdef,by simpa [Act.put] using hn,m,?_,?_,?_,fun e he=>h4 e (hdel.sub e he),fun t=>?_⟩ Q hq)
 ·exact⟨fun j o hj=>by rw [qy _ _ _ _ (fun e=>by rw [e,hmb]at hj;cases hj)];exact h1 j o hj,h1.base⟩
 ·refine⟨hkeys.1,fun e he=>?_⟩;obtain⟨q1,arr',q2,q3⟩:=h2.2 e (hdel.sub e he);exact⟨q1,arr',by rw [qy _ _ _ _ (hkeys.2 e he)];exact q2,q3⟩
 ·have hz:(w.freeze ⟨g,0,none⟩ l.length).heap.size=w.heap.size:=by unfold World.freeze;split <;> simp
  have ho:(w.freeze ⟨g,0,none⟩ l.length).os=w.os∧(w.freeze ⟨g,0,none⟩ l.length).tape=w.tape∧(w.freeze ⟨g,0,none⟩ l.length).output=w.output∧(w.freeze ⟨g,0,none⟩ l.length).drawn=w.drawn:=by unfold World.freeze;split <;> exact⟨rfl,rfl,rfl,rfl⟩
  refine⟨h3.le,h3.old,ho.1.trans h3.os,ho.2.1.trans h3.tape,⟨ho.2.2.1.trans h3.output.1,aO h3.output.2 (oY ho.2.2.2.symm)⟩,hz▸h3.size,fun j hlt hnj=>?_⟩;rw [qy _ _ _ _ ?_]
  ·exact h3.block j hlt hnj
  ·rintro rfl;rcases h4 _ hdel.mem with h|h
   ·exact hnj h
   ·exact absurd hlt (iG.2 h)
 ·rw [gV (cR (ay.mp hd) hn)];unfold Ab.upd;by_cases ht:t=d
  ·subst ht;rw [if_pos rfl,cX];exact ap.2 rfl
  ·rw [if_neg ht]
   have:Nat.beq t d=false:=by
    cases hbb:Nat.beq t d with
    |false=>rfl
    |true=>exact absurd (bM hbb) ht
   rw [this];exact h5 t
end
theorem QH {w d:Nat}{l:List UInt8}{H:LH}(h:Wtr w l d H):PuH Tryz.prog 150 [lit (.pointer (some ⟨w,0,none⟩))] H (fun r H'=>r=lit (.int .i64 l.length)∧H'=H) noX:=by
 obtain⟨a,s,Hb,ha,hb,rfl⟩:=h;rcases hb with⟨rfl,rfl,rfl⟩|⟨hne,b,c,hlc,hc,rfl,rfl⟩
 ·refine PuH.intro Tryz.func150 rfl kr fun C hC=>?_
  refine A2 ⟨?_⟩;intros;exact cD _ _ (bO (RV.tmp rfl) Lr) Sr ⟨rfl,rfl⟩
 ·refine PuH.intro Tryz.func150 rfl kr fun C hC=>?_
  refine A2 ⟨?_⟩;intros;exact cD _ _ (bO (RV.tmp rfl) Lr) Sr ⟨rfl,rfl⟩
theorem Bm {P:Program}{F:Fr}{H:LH}{ty:TypeId}{x:Operand}{b k c:Nat}{ts:Array TypeId}(hc:c≠0) (hx:ev F x=lit (.slice (some ⟨b,0,none⟩) k c)):OpV P (.call ⟨.builtin .unsafeSliceData,#[x],ts⟩) ty F H (lit (.pointer (some ⟨b,0,none⟩))) :=
 OpV.pure fun m w o a ho _ _ _ h=>by
  have h0:=h x (by simp [Op.operands,Call.operands]);rw [hx,ap]at h0;have hrun:=Lib.run_unsafeSliceData_row (P:=P) (w:=w) ts o.type ⟨b,0,none⟩ k c hc;exact⟨_,by simp [execOp,ho,resolve,invoke,builtin,h0,hrun],ap.2 rfl⟩
theorem FO {w d:Nat}{l:List UInt8}{H:LH}(h:Wtr w l d H) (hne:l≠[]) (hl:l.length≤1000000000):PuH Tryz.prog 151 [lit (.pointer (some ⟨w,0,none⟩))] H (fun r H'=>r=str l) noX:=by
 obtain⟨a,s,Hb,ha,hb,rfl⟩:=h;rcases hb with⟨rfl,_⟩|⟨_,b,c,hlc,hc,rfl,rfl⟩
 ·exact absurd rfl hne
 have hlp:=ez.2 hne;refine PuH.intro Tryz.func151 rfl kr fun C hC=>?_
 repeat(first|(refine AS ⟨?_⟩;intros)|(refine O1 ⟨?_⟩;intros))
 refine WdN 10 ?_;refine A2 ⟨?_⟩;intros;refine Wdo (Bm om rfl) ?_;refine A2 ⟨?_⟩;intros;simp only [eL,bG];refine WPL.unsafeStr kr kr rfl rfl hne om (.there _ (.here _)) ?_ rfl;refine A2 ⟨?_⟩;intros;exact cD _ _ (bO (RV.tmp rfl) Lr) (aF _) rfl
theorem Jx {ns:List Nd}{L w d b:Nat}{l:List UInt8}{H:LH}(hok:∀n∈ns,n.ok L) (hL:L≤200) (hns:ns.length≤100000) (h:Wtr w l d H) (hf:okL ns=false) :
  PuH Tryz.prog 106 [lit (.pointer (some ⟨w,0,none⟩)),lit (.pointer (some ⟨b,0,none⟩))] ((b,32,[sl (ns.map ndx).flatten ns.length])::H) (fun _ _=>False) (fun pv _=>pv=inval):=by
 have c:=QZ hok hL hns h hf;refine PuH.intro Tryz.func106 rfl kr fun C hC=>?_
 refine A2 ⟨?_⟩;intros;refine WfX c ?_ ?_
 ·rintro _ _ ⟨⟩
 ·rintro _ _ rfl;rw [hC]
theorem Cb {ns:List Nd}{L w d b:Nat}{l:List UInt8}{H:LH}(hok:∀n∈ns,n.ok L) (hL:L≤200) (hns:ns.length≤90) (h:Wtr w l d H) (ht:okL ns=true){t:Ex}(hat:t.At ns (ns.length-1)) (hsz:t.size=ns.length) (hl:l.length+t.txt.length≤70000000) :
  PuH Tryz.prog 106 [lit (.pointer (some ⟨w,0,none⟩)),lit (.pointer (some ⟨b,0,none⟩))] ((b,32,[sl (ns.map ndx).flatten ns.length])::H) (fun r H'=>t.good=true∧r=Ab.tup []∧Wtr w (l++t.txt) 0 H') (fun pv _=>t.good=false∧pv=inval):=by
 have c:=QY hok hL om h ht hat hsz (by have:=t.dep_le;omega) hl;refine PuH.intro Tryz.func106 rfl kr fun C hC=>?_
 refine A2 ⟨?_⟩;intros;refine WfX c ?_ ?_
 ·rintro _ _ ⟨g,rfl,h'⟩;simp only [aa,a8];refine A2 ⟨?_⟩;intros;exact gE _ _ jx (fZ _ _) ⟨g,rfl,h'⟩
 ·rintro _ _ ⟨g,rfl⟩;rw [hC];exact⟨g,rfl⟩
theorem AU (w:Nat):Wtr w [] 0 [(w,279,wrC ws (lit (.slice none 0 0)) 0 false)]:=⟨_,_,[], .inl rfl,Byt.nil,rfl⟩
section
variable {P:Program}{C:Ctx}{n:Nat}{F:Fr}{H:LH}{Post:Exit→Act→World→Prop}{ops:Array Oper}{rest:List Oper}
def WPT (P:Program) (C:Ctx) (n:Nat) (c:Code) (Post:Exit→Act→World→Prop) (F:Fr) (H:LH):Prop:=∀a w,St C n F H a w→c.wp P Post a w
def WTL (P:Program) (C:Ctx) (n:Nat) (ops:Array Oper) (l:List Oper) (Post:Exit→Act→World→Prop) (F:Fr) (H:LH):Prop:=∀a w,St C n F H a w→wpList P ops Post l a w
def onN (K:Fr→LH→Prop):Exit→Fr→LH→Prop
 | .normal,F,H=>K F H
 |_,_,_=>False
theorem onN.i {K:Fr→LH→Prop}(h:K F H):onN K .normal F H:=h
theorem WPT.seq {x y:Code}(hpan:∀pv H,¬C.pan pv H) (h:WP P C n x (onN fun F H=>WPT P C n y Post F H) F H):WPT P C n (.seq x y) Post F H:=by
 intro a w hs;unfold WP at h;refine wp_seq (wp_mono (h a w hs) ?_);rintro e a' w' (⟨F',H',hs',hq⟩|⟨ch,rfl,_,m,v,pv,H',_,_,_,_,_,_,hx⟩)
 ·cases e with
  |normal=>exact hq a' w' hs'
  |_=>exact hq.elim
 ·exact absurd hx (hpan _ _)
theorem WPT.fin {c:Code}{Q:Exit→Fr→LH→Prop}(h:WP P C n c Q F H) (k:∀e a w,oC C n Q e a w→Post e a w):WPT P C n c Post F H:=by
 unfold WP at h;exact fun a w hs=>wp_mono (h a w hs) k
theorem WPT.reg {id:Nat}{l:List Oper}{y:Code}(h:WTL P C n l.toArray l (Exit.then (y.wp P Post) Post) F H):WPT P C n (.seq (.region id l.toArray false) y) Post F H :=
 fun a w hs=>wp_seq (wp_region_lit (h a w hs))
theorem WTL.nil {y:Code}(h:WPT P C n y Post F H):WTL P C n ops [] (Exit.then (y.wp P Post) Post) F H:=fun a w hs=>wpList_nil (h a w hs)
theorem WTL.val {d:Nat}{op:Op}{ty:TypeId}{pos:String}{aft:Array Edge}{sv:SV}(hop:OpV P op ty F H sv) (k:WTL P C n ops rest Post (upd F d sv) H) (hd:Nat.blt d n=true):WTL P C n ops (⟨some d,op,ty,pos,aft,none⟩::rest) Post F H:=by
 intro a w hs;obtain⟨hdef,hn,m,h1,h2,h3,h4,h5⟩:=hs;refine wpList_plain rfl fun K' hK'=>?_
 unfold OpV at hop;refine hop m w _ a rfl rfl h1 h2 (fun t _=>h5 t) K' Post fun v m' w' hv hm' hH' r=>hK' _ _ ?_
 exact k _ _ (St.put (ay.mp hd) hdef hn h2 h3 h4 h5 hv hm' hH' r)
theorem dA.lits {m:Mem}:∀{cv vs:List Value},dA m (cv.map lit) vs→vs=cv
 | [],[],_=>rfl
 |_::_,_::_,h=>by rw [ap.1 h.1,h.2.lits]
 | [],_::_,h=>h.elim
 |_::_,[],h=>h.elim
theorem WPT.defer {id d:Nat}{f:FuncId}{l2:List Operand}{tys:Array TypeId}{ty ty2:TypeId}{pos pos2:String}{aft aft2:Array Edge}{y:Code}{cv:List Value}{X1:SV→LH→Prop}(hcap:l2.map (ev F)=cv.map lit) (hd:Nat.blt d n=true)
  (k:∀C1:Ctx,C1={C with pan:=X1,dfs:=⟨.fn (.func f) cv.toArray,#[]⟩::C.dfs}→WPT P C1 n y Post (upd F d (fnv f [] (cv.map lit))) H) :
  WPT P C n (.seq (.region id [⟨some d, .makeFunc (.func f) #[] l2.toArray,ty,pos,aft,none⟩,⟨none, .defer ⟨.value (.tmp d),#[],tys⟩,ty2,pos2,aft2,none⟩].toArray false) y) Post F H:=by
 intro a w hs;refine wp_seq (wp_region_lit ?_);obtain⟨hdef,hn,m,h1,h2,h3,h4,h5⟩:=hs;refine wpList_plain rfl fun K1 hK1=>?_
 have hop:OpV P (.makeFunc (.func f) ([]:List Operand).toArray l2.toArray) ty F H (fnv f [] (cv.map lit)):=wo rfl hcap;unfold OpV at hop;refine hop m w _ a rfl rfl h1 h2 (fun t _=>h5 t) K1 _ fun v m' w' hv hm' hH' r=>hK1 _ _ ?_
 have hst:=St.put (ay.mp hd) hdef hn h2 h3 h4 h5 hv hm' hH' r;unfold fnv at hv;obtain⟨x,yv,rfl,hx,hy⟩:=hv
 have hx':x = #[]:=by
  cases x with
  |mk l=>cases l with
   |nil=>rfl
   |cons _ _=>exact hx.elim
 have hy':=hy.lits;have hyv:yv=cv.toArray:=by rw [←hy']
 subst hx' hyv;refine wpList_plain rfl fun K2 hK2=>?_
 unfold Oper.wp
 have hev:(a.put (some d) (.func (.func f) #[] cv.toArray)).eval (.tmp d) = .func (.func f) #[] cv.toArray:=by
  show(a.put (some d) _).tmps.getD d undef=_
  rw [gV (cR (ay.mp hd) hn),if_pos rfl]
 have hrun:(execOp (a.put (some d) (.func (.func f) #[] cv.toArray)).eval (⟨none, .defer ⟨.value (.tmp d),#[],tys⟩,ty2,pos2,aft2,none⟩:Oper)).run P w' = .ok (.defer ⟨.fn (.func f) cv.toArray,#[]⟩) w':=by
  simp [execOp,resolve,hev,Deferred.ofValue]
 rw [hrun];refine hK2 _ _ (wpList_nil ?_);refine k _ rfl _ _ ?_;obtain⟨gdef,gn,gm,g1,g2,g3,g4,g5⟩:=hst;exact⟨by show _::_=_::_;rw [gdef],gn,gm,g1,g2,g3,g4,g5⟩
theorem WTL.call {d:Nat}{x:Operand}{s:SV}{f:FuncId}{first caps:List SV}{l:List Operand}{tys:Array TypeId}{ty:TypeId}{pos:String}{aft:Array Edge}{svs:List SV}{Hin Rs:LH}{R X:SV→LH→Prop}(hx:ev F x=s) [hfv:FV s f first caps] (hc:PuH P f svs Hin R X)
  (hs:H.Perm (Hin++Rs)) (ha:first++l.map (ev F)++caps=svs) (hd:Nat.blt d n=true)
  (k:∀res H',R res H'→WTL P C n ops rest Post (upd F d res) (H'++Rs))
  (kx:∀v pv H' m' (a:Act) w',X pv H'→a.defers=C.dfs→dB m' w'→HOk m' w' (H'++Rs)→Rel C.ks C.m C.w m' w'→(∀e∈H'++Rs,e.1∈C.ks∨C.w.heap.size≤e.1)→pv.p m' v→(∀t,(F t).p m' (a.tmps.getD t undef))→Post (.panic [{v:=v,recovered:=false}]) a w') :
  WTL P C n ops (⟨some d, .call ⟨.value x,l.toArray,tys⟩,ty,pos,aft,none⟩::rest) Post F H:=by
 intro a w hst;obtain⟨hdef,hn,m,h1,h2,h3,h4,h5⟩:=hst
 have hp:∀x,(ev F x).p m (a.eval x):=fun x=>by
  cases x with
  |tmp t=>exact h5 t
  |const v=>unfold ev lit;rfl
  |global g=>unfold ev lit;rfl
  |func f=>unfold ev lit;rfl
 have hargs:=qC (m:=m) (a:=a) l fun x _=>hp x
 have e0:=hp x;rw [hx]at e0;obtain⟨fa,ca,hv,hfa,hca⟩:=hfv.h _ _ e0;have hall:dA m svs (fa.toList++l.map a.eval++ca.toList):=ha▸(hfa.append hargs).append hca
 have h2':=h2.perm hs;have hHin:HOk m w Hin:=⟨by have:=h2'.1;rw [aB]at this;exact(jg.1 this).1,fun e he=>h2'.2 e (by simp [he])⟩
 unfold PuH at hc;have hcall:=hc.2 m w _ h1 hHin hall;refine wpList_plain rfl fun K' hK'=>?_
 unfold Oper.wp;rw [zV hc.1 hv];refine Calls.mono hcall ?_;rintro _ w' ⟨m',H',hm',hH',hr,hnew,hres⟩
 have hnk:∀e∈Rs,e.1∉keys Hin:=fun e he hk=>by
  obtain⟨e',he',hke⟩:=aj.1 hk;have:=h2'.1;rw [aB]at this;exact(jg.1 this).2.2 _ (aj.2 ⟨e',he',rfl⟩) _ (aj.2 ⟨e,he,rfl⟩) hke
 have hRs:∀e∈Rs,m' e.1=none∧jv m' w' e.1 e.2.1 e.2.2:=fun e he=>by
  obtain⟨g1,g2⟩:=h2'.2 e (by simp [he]);have hlt:=g2.lt;obtain⟨arr,g3,g4⟩:=g2;exact⟨(hr.old _ hlt (hnk e he)).trans g1,arr,(hr.block _ hlt (hnk e he)).trans g3,g4.mono hr.le⟩
 have hHn:HOk m' w' (H'++Rs):=by
  refine⟨?_,fun e he=>?_⟩
  ·rw [aB,jg];refine⟨hH'.1,by have:=h2'.1;rw [aB]at this;exact(jg.1 this).2.1,fun x hx y hy hxy=>?_⟩;obtain⟨e1,he1,rfl⟩:=aj.1 hx;obtain⟨e2,he2,rfl⟩:=aj.1 hy;rcases hnew e1 he1 with h|h
   ·exact hnk e2 he2 (hxy▸h)
   ·have:=(h2'.2 e2 (by simp [he2])).2.lt;omega
  ·rcases az.1 he with h|h
   ·exact hH'.2 e h
   ·exact hRs e h
 have hrel:Rel C.ks C.m C.w m' w':=h3.trans hr fun b hb hk=>by
  obtain⟨e',he',rfl⟩:=aj.1 hk;rcases h4 e' (hs.mem_iff.2 (by simp [he']))with h|h
  ·exact h
  ·exact absurd hb (iG.2 h)
 have hown:∀e∈H'++Rs,e.1∈C.ks∨C.w.heap.size≤e.1:=fun e he=>by
  rcases az.1 he with h|h
  ·rcases hnew e h with h|h
   ·obtain⟨e',he',hke⟩:=aj.1 h;have:=h4 e' (hs.mem_iff.2 (by simp [he']));rw [hke]at this;exact this
   ·exact .inr (aO h3.size h)
  ·exact h4 e (hs.mem_iff.2 (by simp [h]))
 rcases hres with⟨v,res,rfl,hv',hR⟩|⟨v,pv,rfl,hv',hX⟩
 ·refine hK' _ _ (k res H' hR _ _ ?_);refine⟨hdef,by simpa [Act.put] using hn,m',hm',hHn,hrel,hown,fun t=>?_⟩;rw [gV (cR (ay.mp hd) hn)];unfold Ab.upd;by_cases ht:t=d
  ·subst ht;rw [if_pos rfl,cX];exact hv'
  ·rw [if_neg ht]
   have:Nat.beq t d=false:=by
    cases hb:Nat.beq t d with
    |false=>rfl
    |true=>exact absurd (bM hb) ht
   rw [this];exact(F t).mono hr.le (h5 t)
 ·exact kx v pv H' m' a w' hX hdef hm' hHn hrel hown hv' fun t=>(F t).mono hr.le (h5 t)
def FJ (C:Ctx) (R:SV→LH→Prop):Ending→World→Prop:=fun e w'=>∃m' H',dB m' w'∧HOk m' w' H'∧Rel C.ks C.m C.w m' w'∧(∀e∈H',e.1∈C.ks∨C.w.heap.size≤e.1)∧∃v res,e = .returned v∧res.p m' v∧R res H'
theorem PuH.introD {f:FuncId}{fn:Func}{c:Code}{args:List SV}{Hin:LH}{R:SV→LH→Prop}(hf:P.funcs[f]? = some fn) (hb:fn.body=some c) (hbod:kQ P f=true)
  (h:∀C:Ctx,(∀pv H,¬C.pan pv H)→C.dfs=[]→WPT P C fn.ntmps c (bodyPostD P fn (FJ C R)) (ini args) Hin):PuH P f args Hin R noX:=by
 unfold PuH;refine⟨hbod,fun m w vs hm hH ha=>?_⟩;refine Calls.mono (calls_of_wp_defers hf hb ?_) (R:=FJ ⟨keys Hin,m,w,noX,[]⟩ R) ?_
 ·refine h ⟨keys Hin,m,w,noX,[]⟩ (fun _ _ h=>h) rfl _ w ?_;refine⟨rfl,by simp only [rD,rC];omega,m,hm,hH,Rel.refl _ _ _,fun e he => .inl (ye he),fun t=>?_⟩;have:=yw (us:=List.replicate (fn.ntmps-vs.toArray.size) undef) ha t;rw [show vs.toArray++Array.replicate (fn.ntmps-vs.toArray.size) undef=(vs++List.replicate (fn.ntmps-vs.toArray.size) undef).toArray from by simp];exact this
 ·rintro e w' ⟨m',H',a1,a2,a3,a4,v,res,a5,a6,a7⟩;exact⟨m',H',a1,a2,a3,a4, .inl ⟨v,res,a5,a6,a7⟩⟩
theorem RM {fn:Func}{C1 C:Ctx}{g:FuncId}{cv:Array Value}{R:SV→LH→Prop}(hC:∃X,C1={C with pan:=X,dfs:=[⟨.fn (.func g) cv,#[]⟩]}) (hb:kQ P g=true) (hpan:∀pv H,¬C1.pan pv H)
  (hidle:∀w,CallsD P g cv .returning w fun e u' w'=>(∃v,e = .returned v)∧u' = .returning∧w'=w):∀e a w,oC C1 n (DU P fn.results R) e a w→bodyPostD P fn (FJ C R) e a w:=by
 obtain⟨X,rfl⟩:=hC;rintro e a w (⟨F',H',⟨hdef,_,m',hm',hH',hr',h4',hp'⟩,hq⟩|⟨ch,rfl,_,m',v,pv,H',_,_,_,_,_,_,hx⟩)
 ·have fin:(∃res H2,oq P fn.results.toList res F' H'∧H2.Sublist H'∧R res H2)→Leaves P fn a.tmps (FJ C R) a.defers .returning w:=by
   rintro ⟨res,H2,he,hsub,hR⟩;obtain⟨v,hv,hpv⟩:=tY rfl he hm' hH' hp';rw [hdef];refine leaves_cons (f:=g) (args:=cv) (by simp) (by simp only [invoke,i5 hb,kH]) ?_;refine(hidle w).mono ?_;rintro e u' w' ⟨⟨v0,rfl⟩,rfl,rfl⟩;exact⟨v,hv,m',H2,hm',hH'.sub' hsub,hr',fun e he=>h4' e (hsub.subset he),v,res,rfl,hpv,hR⟩
  unfold DU at hq;cases e with
  |normal=>exact fin hq
  |ret=>exact fin hq
  |exit id=>exact hq.elim
  |goto l=>exact hq.elim
  |panic ch=>exact hq.elim
  |outgrown=>exact hq.elim
 ·exact absurd hx (hpan _ _)
theorem SA {fn:Func}{C:Ctx}{g:FuncId}{cv:Array Value}{R:SV→LH→Prop}{a:Act}{w:World}{v:Value}(hb:kQ P g=true) (hdef:a.defers=[⟨.fn (.func g) cv,#[]⟩])
  (h:CallsD P g cv (.panicking [{v:=v,recovered:=false}]) w fun e u' w'=>(∃v',e = .returned v')∧u' = .panicking [{v:=v,recovered:=true}]∧∃v2,(results fn a.tmps).run P w' = .ok v2 w'∧FJ C R (.returned v2) w') :
  bodyPostD P fn (FJ C R) (.panic [{v:=v,recovered:=false}]) a w:=by
 show Leaves P fn a.tmps (FJ C R) a.defers _ w
 rw [hdef];refine leaves_cons (f:=g) (args:=cv) (by simp) (by simp only [invoke,i5 hb,kH]) ?_;refine h.mono ?_;rintro e u' w' ⟨⟨v0,rfl⟩,rfl,v2,h1,h2⟩;exact⟨v2,h1,h2⟩
theorem PJ {m:Mem}{tmps:Array Value}:∀(l:List (Nat×SV)),(∀e∈l,e.2.p m (tmps.getD e.1 undef))→∀t,(fm l t).p m (tmps.getD t undef)
 | [],_,t=>by show(Ab.top).p m _;unfold Ab.top;trivial
 |(d,s)::r,h,t=>by
  show(upd (fm r) d s t).p m _
  by_cases ht:t=d
  ·subst ht;rw [bW];exact h (t,s) (by simp)
  ·rw [bD ht];exact PJ r (fun e he=>h e (by simp [he])) t
theorem ML {c:Code}{Q:Exit→Fr→LH→Prop}{Q':Exit→Act→List Frame→World→Prop}{a:Act}{w:World}{cs:List Frame}(h:WP P C n c Q F H) (hst:St C n F H a w) (k:∀e a' w',oC C n Q e a' w'→Q' e a' cs w'):c.wpS P Q' a cs w :=
 wpS_of_wp (wp_mono (by unfold WP at h;exact h a w hst) k)
end
theorem FM (p q:Addr) (w:World):CallsD Tryz.prog 149 #[.pointer (some p), .pointer (some q)] .returning w fun e u' w'=>(∃v,e = .returned v)∧u' = .returning∧w'=w:=by
 refine callsD_of_wpS Tryz.func149 rfl fun c₀ cs hu=>?_
 apply wpS_seq;apply wpS_region;simp [wpOpsS,go_sem,recoverD,hu,Exit.thenS];apply wpS_seq;apply wpS_region;simp [wpOpsS,go_sem,Exit.thenS];refine wpS_cond (t:=false) (by simp [Act.eval,Array.replicate]) ?_;simp only [bJ,aQ];refine wpS_of_wp (wp_skip ?_);cases c₀;simp_all [bodyPostS,results,Exit.thenS]
theorem Bs {F:Fr}{H:LH}{ty:TypeId}{x:Operand}(hx:ev F x=inval):OpV Tryz.prog (.typeAssert x 20 272 true) ty F H (Ab.tup [ag [],lit (.bool true)]) :=
 OpV.pure fun m w o a ho _ _ _ h=>by
  have h0:=h x (by simp [Op.operands]);rw [hx,ap]at h0;have hrun:(Instr.typeAssert (.iface 272 (.agg #[])) 20 272 true).run Tryz.prog w = .ok (.tuple #[.agg #[], .bool true]) w:=by kernel_rfl
  refine⟨.tuple #[.agg #[], .bool true],by simp [execOp,ho,h0,hrun],?_⟩;unfold Ab.tup;exact⟨_,rfl,by unfold ag;exact⟨#[],rfl,trivial⟩,ap.2 rfl,trivial⟩
theorem Jg [iO 3]{b2 b3:Nat}{w:World}{m:Mem}{s0 e0:SV}{v:Value}(hm:dB m w) (hv:inval.p m v) (hH:HOk m w [(b3,35,[e0]),(b2,9,[s0])]) :
  CallsD Tryz.prog 149 #[.pointer (some ⟨b2,0,none⟩), .pointer (some ⟨b3,0,none⟩)] (.panicking [{v:=v,recovered:=false}]) w fun e u' w'=>(∃v',e = .returned v')∧u' = .panicking [{v:=v,recovered:=true}]∧
   ∃m',dB m' w'∧HOk m' w' [(b3,35,[lit (jo 3)]),(b2,9,[str []])]∧Rel [b3,b2] m w m' w':=by
 have hv':=ap.1 hv;subst hv';refine callsD_of_wpS Tryz.func149 rfl fun c₀ cs hu=>?_
 apply wpS_seq;apply wpS_region;simp [wpOpsS,go_sem,recoverD,hu,Exit.thenS]
 refine ML (C:=⟨[b3,b2],m,w,noX,[]⟩) (n:=17) (F:=fm [(0,lit (.pointer (some ⟨b2,0,none⟩))),(1,lit (.pointer (some ⟨b3,0,none⟩))),(2,inval)]) (H:=[(b3,35,[e0]),(b2,9,[s0])])
  (Q:=fun e _ H'=>e = .normal∧[(b3,35,[lit (jo 3)]),(b2,9,[str []])].Sublist H') ?_ ⟨rfl,by simp,m,hm,hH,Rel.refl _ _ _,fun e he => .inl (by simp at he⊢;rcases he with rfl|rfl <;> simp),PJ _ ?_⟩ ?_
 ·refine A2 ⟨?_⟩;intros;refine Wo (Bs rfl) ?_;refine A2 ⟨?_⟩;intros;exact⟨rfl,Sq⟩
 ·intro e he;simp only [an,fE,eN]at he;rcases he with rfl|rfl|rfl
  ·rw [ap];simp
  ·rw [ap];simp
  ·rw [ap];simp
 ·rintro e a' w' (⟨F',H',⟨hdef,_,m',hm',hH',hr',h4',hp'⟩,rfl,hsub⟩|⟨ch,rfl,_,_,_,_,_,_,_,_,_,_,_,hx⟩)
  ·refine⟨hdef,_,rfl, .tuple #[],?_,⟨_,rfl⟩,rfl,m',hm',hH'.sub' hsub,hr'⟩;simp [results]
  ·exact hx.elim
theorem xw [iO 3]{b:Nat}{T:TypeId}{cs:List SV}{g:FuncId}{good:Bool}{t:List UInt8}(hne:good=true→t≠[]) (hlen:t.length≤65536)
  (hc:∀w,PuH Tryz.prog g [lit (.pointer (some ⟨w,0,none⟩)),lit (.pointer (some ⟨b,0,none⟩))] [(b,T,cs),(w,279,wrC ws (lit (.slice none 0 0)) 0 false)] (fun r H'=>good=true∧r=Ab.tup []∧Wtr w t 0 H') (fun pv _=>good=false∧pv=inval)) :
  PuH Tryz.prog 105 [fnv g [] [lit (.pointer (some ⟨b,0,none⟩))]] [(b,T,cs)] (fun r _=>r=(if good=true then Ab.tup [str t,lit .nilIface]else Ab.tup [str [],lit (jo 3)])) noX:=by
 refine PuH.introD Tryz.func105 rfl kr fun C hC0 hC1=>?_
 refine WPT.seq hC0 ?_;refine A2 ⟨?_⟩;intros;rename_i b2 b3;refine onN.i ?_;refine WPT.defer (cv:=[.pointer (some ⟨b2,0,none⟩), .pointer (some ⟨b3,0,none⟩)]) (X1:=noX) rfl rfl fun C1 hC=>?_
 rw [hC1]at hC;have hC2:∀pv H,¬C1.pan pv H:=fun pv H h=>by rw [hC]at h;exact h
 refine WPT.seq hC2 ?_;refine A2 ⟨?_⟩;intros;rename_i w;refine onN.i ?_;refine WPT.reg ?_;refine WTL.val (op := .move _) Ov0 ?_ rfl;refine WTL.val (op := .move _) Ov0 ?_ rfl;refine WTL.call (s:=fnv g [] [lit (.pointer (some ⟨b,0,none⟩))]) (l:=[.tmp 9]) rfl (hc w) (Tk.perm (Tk.cons (aq.there _ (aq.there _ (aq.there _ (aq.here _)))) (Tk.cons (aq.here _) (Tk.nil _)))) rfl rfl ?_ ?_
 ·rintro _ H' ⟨hg,rfl,a,s,Hb,ha,hb,rfl⟩;refine WTL.nil ?_;refine WPT.fin (Q:=DU Tryz.prog Tryz.f105.results fun r _=>r=(if good=true then Ab.tup [str t,lit .nilIface]else Ab.tup [str [],lit (jo 3)])) ?_ (RM ⟨_,hC⟩ kr hC2 fun w=>FM _ _ w);have hl0:=hne hg;refine WP.perm aC ?_;simp only [aa,a8];refine A2 ⟨?_⟩;intros;refine WgE ?_;refine WfH (QH ⟨a,s,Hb,ha,hb,rfl⟩) ?_;rintro _ _ ⟨rfl,rfl⟩;refine WPL.perm aC ?_;simp only [aa,a8];refine A2 ⟨?_⟩;intros;refine WfH (FO ⟨a,s,Hb,ha,hb,rfl⟩ hl0 om) ?_;rintro _ H2 rfl;refine WPL.perm aC ?_;simp only [aa,a8];refine A2 ⟨?_⟩;intros;exact cD _ _ (eJ (RV.cell1 (b:=b2) rfl (Mc Ms) rfl) (RV.cell1 (b:=b3) rfl cN rfl) Lr) (aF _) (by rw [if_pos hg])
 ·subst hC;rintro v pv H' m' a' w' ⟨hg,rfl⟩ hdef hm' hH' hrel hown hpv hF;refine SA (g:=149) (cv := #[.pointer (some ⟨b2,0,none⟩), .pointer (some ⟨b3,0,none⟩)]) kr hdef ?_
  have hsub:∀e∈[(b3,35,[lit (jo 3)]),(b2,9,[str []])],e.1∈C.ks∨C.w.heap.size≤e.1:=fun e he=>by
   simp only [an,fE,eN]at he;rcases he with rfl|rfl
   ·exact hown (b3,35,[lit .nilIface]) (cO _ (Ms))
   ·exact hown (b2,9,[lit (.string ⟨#[]⟩)]) (cO _ (Mc (Ms)))
  refine(Jg hm' hpv hH'.tail).mono ?_;rintro e u' w2 ⟨he,hu,m2,g1,g2,g3⟩;refine⟨he,hu,?_⟩;obtain⟨v2,hv2,hp2⟩:=tY (fn:=Tryz.f105) (tmps:=a'.tmps) (P:=Tryz.prog) rfl (eJ (RV.cell1 (b:=b2) rfl (Mc Ms) rfl) (RV.cell1 (b:=b3) rfl cN rfl) Lr) g1 g2 fun x=>SV.mono _ g3.le (hF x)
  refine⟨v2,hv2,m2,_,g1,g2,hrel.trans g3 fun x hx hk=>?_,hsub,v2,_,rfl,hp2,by rw [hg];rfl⟩
  have:x∈C.ks∨C.w.heap.size≤x:=by
   simp only [keys,aG,fw,an,fE,eN]at hk;rcases hk with rfl|rfl
   ·exact hsub _ Ms
   ·exact hsub _ (Mc Ms)
  rcases this with h|h
  ·exact h
  ·exact absurd hx (iG.2 h)
section
variable {P:Program}{C:Ctx}{n:Nat}{Q:Exit→Fr→LH→Prop}{F:Fr}{H:LH}{ops:Array Oper}
end
def otx (ns:List Nd):Option (List UInt8):=match stk ns 0 []with
 |some [(t,_)]=>if t.good=true then some t.txt else none
 |_=>none
theorem KV (ns:List Nd):(okL ns=false∧otx ns=none)∨∃t:Ex,okL ns=true∧t.At ns (ns.length-1)∧t.size=ns.length∧otx ns=if t.good=true then some t.txt else none:=by
 have h:=N4 ns;unfold otx;cases hst:stk ns 0 []with
 |none=>rw [hst]at h;exact .inl ⟨h,rfl⟩
 |some st =>
  rw [hst]at h;simp only at h;obtain⟨h1,h2⟩:=h;match st,h1,h2 with
  | [],h1,_=>exact .inl ⟨by rw [h1];rfl,rfl⟩
  | [(t,j)],h1,h2 =>
   obtain⟨a,b⟩:=h2 t j [] rfl;obtain⟨rfl,c⟩:=b rfl;exact .inr ⟨t,by rw [h1];rfl,a,c,rfl⟩
  |_::_::r,h1,_=>exact .inl ⟨by rw [h1];simp,rfl⟩
theorem Ex.txt_ne:∀{t:Ex}{ns:List Nd}{i:Nat},t.At ns i→t.good=true→t.txt≠[]
 | .leaf n,ns,i,hat,h=>by
  obtain⟨_,h1,h4⟩:=hat;unfold Ex.txt;unfold Ex.good at h;by_cases k1:n.k=1
  ·rw [if_pos k1]at h⊢;intro e;rw [e]at h;revert h;decide
  rw [if_neg k1];by_cases k2:n.k=2
  ·rw [if_pos k2];decide
  rw [if_neg k2];by_cases k3:n.k=3
  ·rw [if_pos k3];decide
  rw [if_neg k3];simp
 | .un n x,ns,i,hat,h=>by
  unfold Ex.txt;simp
 | .bi n l r,ns,i,hat,h=>by
  unfold Ex.txt;have:=wF n.op;intro e;have h2:=congrArg List.length e;simp only [ac,br]at h2;omega
theorem Ex.txt_len {L:Nat}(hL:L≤20){ns:List Nd}(hok:∀n∈ns,n.ok L):∀{t:Ex}{i:Nat},t.At ns i→t.txt.length≤2000*t.size
 | .leaf n,i,hat=>by
  have hm:=hok n (bo hat.1);have h1:=ud hm.a hm.b;have h2:=ud hm.c hm.e;have h3:=hm.nm;simp only [Ex.txt,Ex.size];split
  ·omega
  split
  ·simp
  split
  ·simp
  ·unfold A3;simp only [ac,aE,br];omega
 | .un n x,i,hat=>by
  obtain⟨_,_,j,_,hx⟩:=hat;have h1:=Ex.txt_len hL hok hx;have h2:=mL (decide (rk x.top<3)) x.txt;simp only [Ex.txt,Ex.size,ac,aE,br];omega
 | .bi n l r,i,hat=>by
  obtain⟨_,_,_,j,k,_,_,hl,hr⟩:=hat;have h1:=Ex.txt_len hL hok hl;have h2:=Ex.txt_len hL hok hr;have h3:=mL (decide (rk l.top<rk n)) l.txt;have h4:=mL (decide (rk r.top<rk n+1)) r.txt;have h5:=wF n.op;simp only [Ex.txt,Ex.size,ac];omega
def CU (g:Nat):Option (List UInt8)→SV
 |some t=>Ab.tup [str t,lit .nilIface]
 |none=>Ab.tup [str [],lit (jo g)]
theorem txt_len {L:Nat}(hL:L≤20){ns:List Nd}(hok:∀n∈ns,n.ok L) (hns:ns.length≤30){t:Ex}{i:Nat}(hat:t.At ns i) (hs:t.size=ns.length):t.rtxt.length≤65536:=by
 have:=Ex.rtxt_len hL hok hat;omega
theorem AV [iO 3] (ns:List Nd){L:Nat}(hok:∀n∈ns,n.ok L) (hL:L≤20) (hns:ns.length≤30):Pu Tryz.prog 69 [sl (ns.map ndx).flatten ns.length] (CU 3 (otx ns)):=by
 rcases KV ns with⟨h1,h2⟩|⟨t,h1,h2,h3,h4⟩
 ·rw [h2];show Pu _ _ _ (Ab.tup [str [],lit (jo 3)])
  have c:=fun b=>xw (b:=b) (T:=32) (cs:=[sl (ns.map ndx).flatten ns.length]) (good:=false) (t:=[]) (fun h=>by cases h) (by simp) (fun w=>(Jx (b:=b) hok om om (AU w) h1).mono (fun _ _ h=>h.elim) fun pv _ h=>⟨rfl,h⟩)
  refine Pi Tryz.func69 fun C=>?_
  refine A2 ⟨?_⟩;intros;refine WfT (c _) ?_;rintro _ H' rfl;refine A2 ⟨?_⟩;intros;exact G2
 ·have hl:=txt_len hL hok hns h2 h3;rw [h4];cases hg:t.good with
  |true =>
   rw [Ex.rtxt_good hg ns _ h2]at hl;rw [if_pos rfl];show Pu _ _ _ (Ab.tup [str t.txt,lit .nilIface])
   have c:=fun b=>xw (b:=b) (T:=32) (cs:=[sl (ns.map ndx).flatten ns.length]) (good:=true) (t:=t.txt) (fun _=>Ex.txt_ne h2 hg) hl
    (fun w=>(Cb (b:=b) hok om om (AU w) h1 h2 h3 (by simp;omega)).mono (fun _ _ h=>⟨rfl,h.2.1,h.2.2⟩) fun pv _ h=>by rw [hg]at h;exact absurd h.1 (by decide))
   refine Pi Tryz.func69 fun C=>?_
   refine A2 ⟨?_⟩;intros;refine WfT (c _) ?_;rintro _ H' rfl;refine A2 ⟨?_⟩;intros;exact G2
  |false =>
   rw [if_neg (by decide)];show Pu _ _ _ (Ab.tup [str [],lit (jo 3)])
   have c:=fun b=>xw (b:=b) (T:=32) (cs:=[sl (ns.map ndx).flatten ns.length]) (good:=false) (t:=[]) (fun h=>by cases h) (by simp)
    (fun w=>(Cb (b:=b) hok om om (AU w) h1 h2 h3 (by simp;exact aO (Ex.txt_len hL hok h2) om)).mono (fun _ _ h=>by rw [hg]at h;exact absurd h.1 (by decide)) fun pv _ h=>⟨rfl,h.2⟩)
   refine Pi Tryz.func69 fun C=>?_
   refine A2 ⟨?_⟩;intros;refine WfT (c _) ?_;rintro _ H' rfl;refine A2 ⟨?_⟩;intros;exact G2
theorem CR [iO 3] (ns:List Nd){L:Nat}(hok:∀n∈ns,n.ok L) (hL:L≤20) (hns:ns.length≤30):Pu Tryz.prog 38 [sl (ns.map ndx).flatten ns.length] (CU 3 (otx ns)):=by
 have c:=AV ns hok hL hns;cases h:otx ns with
 |some t =>
  rw [h]at c;unfold CU at c⊢;refine Pi Tryz.func38 fun C=>?_
  refine D1 c ⟨?_⟩;intros;exact G2
 |none =>
  rw [h]at c;unfold CU at c⊢;refine Pi Tryz.func38 fun C=>?_
  refine D1 c ⟨?_⟩;intros;exact G2
end Go.Ab
