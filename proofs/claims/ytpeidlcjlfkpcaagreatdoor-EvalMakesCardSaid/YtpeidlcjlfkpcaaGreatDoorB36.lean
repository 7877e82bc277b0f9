/- Texts laid one behind the other: Fpos, StrB, WExpr, Def, RExpr, PExpr, Evl, EvL. -/
import Derived.Test.YtpeidlcjlfkpcaaGreatDoorB35
import Derived.Defers
import Derived.Recover
set_option linter.all false
set_option maxHeartbeats 16000000
namespace Go.Ab
open Go.Proofs
variable [Base]
def wR (l:List (List UInt8)) (s:List UInt8):Int:=match l.findIdx? (fun x=>decide (x=s))with
 |some i=>(i:Int)
 |none => -1
theorem Hz {l:List (List UInt8)}{s:List UInt8}{k:Nat}(hk:k<l.length) (h:∀j,j<k→l[j]?≠some s) (he:l[k]? = some s):wR l s=k:=by
 have:l.findIdx? (fun x=>decide (x=s))=some k:=by
  rw [xv];refine⟨hk,?_,fun j hj=>?_⟩
  ·rw [aA hk]at he;simpa using he
  ·have:=h j hj;rw [aA om]at this;simpa using this
 unfold wR;rw [this]
theorem AP {l:List (List UInt8)}{s:List UInt8}(h:∀j,j<l.length→l[j]?≠some s):wR l s = -1:=by
 have:l.findIdx? (fun x=>decide (x=s))=none:=by
  rw [List.findIdx?_eq_none_iff];intro x hx;obtain⟨j,hj⟩:=sV.1 hx;have:=h j (bI.1 hj).1;rw [hj]at this;simpa using this
 unfold wR;rw [this]
theorem Hy (l:List (List UInt8)) (s:List UInt8):wR l s<0∧wR l s = -1∨∃i:Nat,wR l s=i∧i<l.length:=by
 unfold wR;cases h:l.findIdx? (fun x=>decide (x=s))with
 |none=>exact .inl ⟨by decide,rfl⟩
 |some i =>
  rw [xv]at h;exact .inr ⟨i,rfl,h.1⟩
theorem Gi {l:List (List UInt8)}{k:Nat}{s:List UInt8}(h:l[k]? = some s):((l.map str).drop (((k:Nat):Int).toNat*1)).take 1=[str s]:=by
 obtain⟨hk,rfl⟩:=bI.1 h;rw [dN,cB,jO (by simpa using hk)];simp
theorem Mj (l:List (List UInt8)) (s:List UInt8) (hl:l.length≤1000000000):Pu Tryz.prog 124 [sl (l.map str) l.length,str s] (lit (.int .i64 (wR l s))):=by
 refine Pi Tryz.func124 fun C=>?_
 refine A2 ⟨?_⟩;intros
 refine WP.loop (ι:=Nat) (fun k=>k≤l.length∧∀j,j<k→l[j]?≠some s) (fun k=>l.length-k)
  (fun k=>fm [(0,sl (l.map str) l.length),(1,str s),(7,lit (.int .i64 l.length)),(8,lit (.int .i64 k))]) (fun _=>[]) 0 ⟨an _,fun j hj=>by omega⟩ lfA rfl ?_
 rintro k ⟨hk,hall⟩ K hK;by_cases hkl:k<l.length
 ·have hget:=aA hkl;have hat:=Gi hget;have hne:l.map str≠[]:=fun e=>by rw [gE]at e;rw [e]at hkl;simp at hkl
  by_cases he:l[k]=s
  ·have hf:=Hz hkl hall (by rw [hget,he]);rw [hf];rw [he]at hat;clear hK hall;refine A2 ⟨?_⟩;intros;refine Wo (ae rfl rfl om om hat hne) ?_;refine A2 ⟨?_⟩;intros;refine Wo (bN (r:=true) rfl rfl (a9 rfl)) ?_;exact Z1
  ·have hgo:=fun F' H' (h:LeF F' (fm [(0,sl (l.map str) l.length),(1,str s),(7,lit (.int .i64 l.length)),(8,lit (.int .i64 (k+1:Nat)))])) (h2:H'=[])=>hK F' H' (k+1) ⟨om,fun j hj=>by
    rcases xu.1 hj with h|rfl
    ·exact hall j h
    ·rw [hget];simpa using he⟩ om h h2
   generalize l[k]=x at *;clear hK hall;refine A2 ⟨?_⟩;intros;refine Wo (ae rfl rfl om om hat hne) ?_;refine A2 ⟨?_⟩;intros;refine Wo (bN (r:=false) rfl rfl (aa (fun e=>he e.symm))) ?_;refine A2 ⟨?_⟩;intros;exact hgo _ _ lfA rfl
 ·obtain rfl:k=l.length:=by omega
  rw [AP hall];clear hK hall;exact Z1
theorem KK (l:List (List UInt8)) (s:List UInt8) (hl:l.length≤1000000000):Pu Tryz.prog 22 [sl (l.map str) l.length,str s] (lit (.int .i64 (wR l s))):=by
 refine Pi Tryz.func22 fun C=>?_
 refine A2 ⟨?_⟩;intros
 refine WP.loop (ι:=Nat) (fun k=>k≤l.length∧∀j,j<k→l[j]?≠some s) (fun k=>l.length-k)
  (fun k=>fm [(1,str s),(7,sl (l.map str) l.length),(8,lit (.int .i64 l.length)),(9,lit (.int .i64 k))]) (fun _=>[]) 0 ⟨an _,fun j hj=>by omega⟩ lfA rfl ?_
 rintro k ⟨hk,hall⟩ K hK;by_cases hkl:k<l.length
 ·have hget:=aA hkl;have hat:=Gi hget;have hne:l.map str≠[]:=fun e=>by rw [gE]at e;rw [e]at hkl;simp at hkl
  by_cases he:l[k]=s
  ·have hf:=Hz hkl hall (by rw [hget,he]);rw [hf];rw [he]at hat;clear hK hall;refine A2 ⟨?_⟩;intros;refine Wo (ae rfl rfl om om hat hne) ?_;refine A2 ⟨?_⟩;intros;refine Wo (bN (r:=true) rfl rfl (a9 rfl)) ?_;exact Z1
  ·have hgo:=fun F' H' (h:LeF F' (fm [(1,str s),(7,sl (l.map str) l.length),(8,lit (.int .i64 l.length)),(9,lit (.int .i64 (k+1:Nat)))])) (h2:H'=[])=>hK F' H' (k+1) ⟨om,fun j hj=>by
    rcases xu.1 hj with h|rfl
    ·exact hall j h
    ·rw [hget];simpa using he⟩ om h h2
   generalize l[k]=x at *;clear hK hall;refine A2 ⟨?_⟩;intros;refine Wo (ae rfl rfl om om hat hne) ?_;refine A2 ⟨?_⟩;intros;exact hgo _ _ lfA rfl
 ·obtain rfl:k=l.length:=by omega
  rw [AP hall];clear hK hall;exact Z1
theorem Ji {w:World}{b:Nat}{T:TypeId}{arr:Array Value}{l:List UInt8}{rest:List SV}{m:Mem}(hb:w.heap[b]? = some (.cells arr T (0,0))) (hall:bk m (bys l++rest) arr.toList) (j:Nat) (y:UInt8) (hj:l[j]? = some y):w.cell? ((⟨b,0,none⟩:Addr).add j)=some (.int .u8 y.toNat):=by
 rw [cE,eB w b _ arr _ _ hb];have hjl:j<l.length:=(bI.1 hj).1
 have hg:(bys l++rest)[j]? = some (lit (.int .u8 (y.toNat:Nat))):=by
  rw [fD (by rw [mU];exact hjl)];simp [bys,hj]
 obtain⟨v,hv,hp,_⟩:=hall.get hg;rw [ap]at hp;subst hp;simpa using hv
section
variable {P:Program}{C:Ctx}{n:Nat}{F:Fr}{H:LH}{ops:Array Oper}{K:Fr→LH→Prop}{rest:List Oper}{ty:TypeId}{pos:String}{aft:Array Edge}
theorem qE (w:World) (b n k:Nat) (h:k≠b):(w.freeze ⟨b,0,none⟩ n).heap[k]? = w.heap[k]?:=by
 unfold World.freeze;split
 ·rfl
 ·simp only [vE];rw [if_neg (fun e=>h e.symm)]
theorem WPL.unsafeStr {d:Nat}{x y:Operand}{pt it e:TypeId}{g:Nat}{l:List UInt8}{more:List SV}{H':LH}(hp:P.underlying pt=some (.pointer e)) (hc:P.cellsOf e=1) (hx:ev F x=lit (.pointer (some ⟨g,0,none⟩))) (hy:ev F y=lit (.int .i64 l.length)) (hl:l≠[]) (hl2:l.length≤9223372036854775807)
  (hdel:aq g e (bys l++more) H H') (k:WPL P C n ops rest K (upd F d (str l)) H') (hd:Nat.blt d n=true) :
  WPL P C n ops (⟨some d, .call ⟨.builtin .unsafeString,#[x,y],#[pt,it]⟩,ty,pos,aft,none⟩::rest) K F H:=by
 unfold WPL;intro a w hs Q hq;refine wpList_plain rfl fun K' hK'=>?_
 have hs':=hs.drop hdel;obtain⟨hdef,hn,m,h1,h2,h3,h4,h5⟩:=hs
 have hpp:∀x,(ev F x).p m (a.eval x):=fun x=>by
  cases x with
  |tmp t=>exact h5 t
  |const v=>unfold ev lit;rfl
  |global g=>unfold ev lit;rfl
  |func f=>unfold ev lit;rfl
 have e0:=hpp x;rw [hx,ap]at e0;have e1:=hpp y;rw [hy,ap]at e1;obtain⟨hmb,arr,hb,hall⟩:=h2.2 _ hdel.mem;have hlen:=hall.length;simp only [ac,mU,aN]at hlen;have hsh:w.shape? g=some (e,arr.size):=by simp [World.shape?,hb]
 have hrun:=Lib.run_unsafeString_row (P:=P) (w:=w) pt it ty e hp hc g arr.size hsh l hl om hl2 (fun j y hj=>Ji hb hall j y hj);unfold Oper.wp
 have hexec:execOp a.eval (⟨some d, .call ⟨.builtin .unsafeString,#[x,y],#[pt,it]⟩,ty,pos,aft,none⟩:Oper)=(do let v←Builtin.unsafeString_ #[pt,it] ty #[a.eval x,a.eval y];pure (.value v)):=by
  simp [execOp,resolve,invoke,builtin]
 rw [hexec,e0,e1];simp only [Sem.run_bind,hrun,Result.andThen_ok,Sem.run_pure];unfold WPL at k;have hkeys:=hdel.keys h2.1;refine hK' _ _ (k (a.put (some d) (.string ⟨l.toArray⟩)) _ ⟨hdef,by simpa [Act.put] using hn,m,?_,?_,?_,fun e he=>h4 e (hdel.sub e he),fun t=>?_⟩ Q hq)
 ·exact⟨fun j o hj=>by rw [qE _ _ _ _ (fun e=>by rw [e,hmb]at hj;cases hj)];exact h1 j o hj,h1.base⟩
 ·refine⟨hkeys.1,fun e he=>?_⟩;obtain⟨q1,arr',q2,q3⟩:=h2.2 e (hdel.sub e he);exact⟨q1,arr',by rw [qE _ _ _ _ (hkeys.2 e he)];exact q2,q3⟩
 ·have hz:(w.freeze ⟨g,0,none⟩ l.length).heap.size=w.heap.size:=by unfold World.freeze;split <;> simp
  have ho:(w.freeze ⟨g,0,none⟩ l.length).os=w.os∧(w.freeze ⟨g,0,none⟩ l.length).tape=w.tape∧(w.freeze ⟨g,0,none⟩ l.length).output=w.output∧(w.freeze ⟨g,0,none⟩ l.length).drawn=w.drawn:=by unfold World.freeze;split <;> exact⟨rfl,rfl,rfl,rfl⟩
  refine⟨h3.le,h3.old,ho.1.trans h3.os,ho.2.1.trans h3.tape,⟨ho.2.2.1.trans h3.output.1,aU h3.output.2 (p9 ho.2.2.2.symm)⟩,hz▸h3.size,fun j hlt hnj=>?_⟩;rw [qE _ _ _ _ ?_]
  ·exact h3.block j hlt hnj
  ·rintro rfl;rcases h4 _ hdel.mem with h|h
   ·exact hnj h
   ·exact absurd hlt (iK.2 h)
 ·rw [gT (cQ (ay.mp hd) hn)];unfold Ab.upd;by_cases ht:t=d
  ·subst ht;rw [if_pos rfl,cY];exact ap.2 rfl
  ·rw [if_neg ht]
   have:Nat.beq t d=false:=by
    cases hbb:Nat.beq t d with
    |false=>rfl
    |true=>exact absurd (bA hbb) ht
   rw [this];exact h5 t
end
theorem Rr {w d:Nat}{l:List UInt8}{H:LH}(h:Wtr w l d H):PuH Tryz.prog 165 [lit (.pointer (some ⟨w,0,none⟩))] H (fun r H'=>r=lit (.int .i64 l.length)∧H'=H) noX:=by
 obtain⟨a,s,Hb,ha,hb,rfl⟩:=h;rcases hb with⟨rfl,rfl,rfl⟩|⟨hne,b,c,hlc,hc,rfl,rfl⟩
 ·refine PuH.intro Tryz.func165 rfl kr fun C hC=>?_
  refine A2 ⟨?_⟩;intros;exact ct _ _ (bJ (RV.tmp rfl) Lr) Sr ⟨rfl,rfl⟩
 ·refine PuH.intro Tryz.func165 rfl kr fun C hC=>?_
  refine A2 ⟨?_⟩;intros;exact ct _ _ (bJ (RV.tmp rfl) Lr) Sr ⟨rfl,rfl⟩
theorem BE {P:Program}{F:Fr}{H:LH}{ty:TypeId}{x:Operand}{b k c:Nat}{ts:Array TypeId}(hc:c≠0) (hx:ev F x=lit (.slice (some ⟨b,0,none⟩) k c)):OpV P (.call ⟨.builtin .unsafeSliceData,#[x],ts⟩) ty F H (lit (.pointer (some ⟨b,0,none⟩))) :=
 OpV.pure fun m w o a ho _ _ _ h=>by
  have h0:=h x (by simp [Op.operands,Call.operands]);rw [hx,ap]at h0;have hrun:=Lib.run_unsafeSliceData_row (P:=P) (w:=w) ts o.type ⟨b,0,none⟩ k c hc;exact⟨_,by simp [execOp,ho,resolve,invoke,builtin,h0,hrun],ap.2 rfl⟩
theorem FZ {w d:Nat}{l:List UInt8}{H:LH}(h:Wtr w l d H) (hne:l≠[]) (hl:l.length≤1000000000):PuH Tryz.prog 166 [lit (.pointer (some ⟨w,0,none⟩))] H (fun r H'=>r=str l) noX:=by
 obtain⟨a,s,Hb,ha,hb,rfl⟩:=h;rcases hb with⟨rfl,_⟩|⟨_,b,c,hlc,hc,rfl,rfl⟩
 ·exact absurd rfl hne
 have hlp:=fE.2 hne;refine PuH.intro Tryz.func166 rfl kr fun C hC=>?_
 repeat(first|(refine AS ⟨?_⟩;intros)|(refine O1 ⟨?_⟩;intros))
 refine WdN 10 ?_;refine A2 ⟨?_⟩;intros;refine Wdo (BE om rfl) ?_;refine A2 ⟨?_⟩;intros;simp only [eM,bD];refine WPL.unsafeStr kr kr rfl rfl hne om (.there _ (.here _)) ?_ rfl;refine A2 ⟨?_⟩;intros;exact ct _ _ (bJ (RV.tmp rfl) Lr) (av _) rfl
theorem JT {ns:List Nd}{L w d b:Nat}{l:List UInt8}{H:LH}(hok:∀n∈ns,n.ok L) (hL:L≤200) (hns:ns.length≤100000) (h:Wtr w l d H) (hf:okL ns=false) :
  PuH Tryz.prog 122 [lit (.pointer (some ⟨w,0,none⟩)),lit (.pointer (some ⟨b,0,none⟩))] ((b,32,[sl (ns.map ndx).flatten ns.length])::H) (fun _ _=>False) (fun pv _=>pv=inval):=by
 have c:=RN hok hL hns h hf;refine PuH.intro Tryz.func122 rfl kr fun C hC=>?_
 refine A2 ⟨?_⟩;intros;refine WfX c ?_ ?_
 ·rintro _ _ ⟨⟩
 ·rintro _ _ rfl;rw [hC]
theorem Cp {ns:List Nd}{L w d b:Nat}{l:List UInt8}{H:LH}(hok:∀n∈ns,n.ok L) (hL:L≤200) (hns:ns.length≤90) (h:Wtr w l d H) (ht:okL ns=true){t:Ex}(hat:t.At ns (ns.length-1)) (hsz:t.size=ns.length) (hl:l.length+t.txt.length≤70000000) :
  PuH Tryz.prog 122 [lit (.pointer (some ⟨w,0,none⟩)),lit (.pointer (some ⟨b,0,none⟩))] ((b,32,[sl (ns.map ndx).flatten ns.length])::H) (fun r H'=>t.good=true∧r=Ab.tup []∧Wtr w (l++t.txt) 0 H') (fun pv _=>t.good=false∧pv=inval):=by
 have c:=RM hok hL om h ht hat hsz (by have:=t.dep_le;omega) hl;refine PuH.intro Tryz.func122 rfl kr fun C hC=>?_
 refine A2 ⟨?_⟩;intros;refine WfX c ?_ ?_
 ·rintro _ _ ⟨g,rfl,h'⟩;simp only [ab,a8];refine A2 ⟨?_⟩;intros;exact gB _ _ jv (fZ _ _) ⟨g,rfl,h'⟩
 ·rintro _ _ ⟨g,rfl⟩;rw [hC];exact⟨g,rfl⟩
theorem Ba (w:Nat):Wtr w [] 0 [(w,307,wrC wG (lit (.slice none 0 0)) 0 false)]:=⟨_,_,[], .inl rfl,Byt.nil,rfl⟩
section
variable {P:Program}{C:Ctx}{n:Nat}{F:Fr}{H:LH}{Post:Exit→Act→World→Prop}{ops:Array Oper}{rest:List Oper}
def WPT (P:Program) (C:Ctx) (n:Nat) (c:Code) (Post:Exit→Act→World→Prop) (F:Fr) (H:LH):Prop:=∀a w,St C n F H a w→c.wp P Post a w
def WTL (P:Program) (C:Ctx) (n:Nat) (ops:Array Oper) (l:List Oper) (Post:Exit→Act→World→Prop) (F:Fr) (H:LH):Prop:=∀a w,St C n F H a w→wpList P ops Post l a w
def onN (K:Fr→LH→Prop):Exit→Fr→LH→Prop
 | .normal,F,H=>K F H
 |_,_,_=>False
theorem onN.i {K:Fr→LH→Prop}(h:K F H):onN K .normal F H:=h
theorem WPT.seq {x y:Code}(hpan:∀pv H,¬C.pan pv H) (h:WP P C n x (onN fun F H=>WPT P C n y Post F H) F H):WPT P C n (.seq x y) Post F H:=by
 intro a w hs;unfold WP at h;refine wp_seq (wp_mono (h a w hs) ?_);rintro e a' w' (⟨F',H',hs',hq⟩|⟨ch,rfl,_,m,v,pv,H',_,_,_,_,_,_,hx⟩)
 ·cases e with
  |normal=>exact hq a' w' hs'
  |_=>exact hq.elim
 ·exact absurd hx (hpan _ _)
theorem WPT.fin {c:Code}{Q:Exit→Fr→LH→Prop}(h:WP P C n c Q F H) (k:∀e a w,oE C n Q e a w→Post e a w):WPT P C n c Post F H:=by
 unfold WP at h;exact fun a w hs=>wp_mono (h a w hs) k
theorem WPT.reg {id:Nat}{l:List Oper}{y:Code}(h:WTL P C n l.toArray l (Exit.then (y.wp P Post) Post) F H):WPT P C n (.seq (.region id l.toArray false) y) Post F H :=
 fun a w hs=>wp_seq (wp_region_lit (h a w hs))
theorem WTL.nil {y:Code}(h:WPT P C n y Post F H):WTL P C n ops [] (Exit.then (y.wp P Post) Post) F H:=fun a w hs=>wpList_nil (h a w hs)
theorem WTL.val {d:Nat}{op:Op}{ty:TypeId}{pos:String}{aft:Array Edge}{sv:SV}(hop:OpV P op ty F H sv) (k:WTL P C n ops rest Post (upd F d sv) H) (hd:Nat.blt d n=true):WTL P C n ops (⟨some d,op,ty,pos,aft,none⟩::rest) Post F H:=by
 intro a w hs;obtain⟨hdef,hn,m,h1,h2,h3,h4,h5⟩:=hs;refine wpList_plain rfl fun K' hK'=>?_
 unfold OpV at hop;refine hop m w _ a rfl rfl h1 h2 (fun t _=>h5 t) K' Post fun v m' w' hv hm' hH' r=>hK' _ _ ?_
 exact k _ _ (St.put (ay.mp hd) hdef hn h2 h3 h4 h5 hv hm' hH' r)
theorem dC.lits {m:Mem}:∀{cv vs:List Value},dC m (cv.map lit) vs→vs=cv
 | [],[],_=>rfl
 |_::_,_::_,h=>by rw [ap.1 h.1,h.2.lits]
 | [],_::_,h=>h.elim
 |_::_,[],h=>h.elim
theorem WPT.defer {id d:Nat}{f:FuncId}{l2:List Operand}{tys:Array TypeId}{ty ty2:TypeId}{pos pos2:String}{aft aft2:Array Edge}{y:Code}{cv:List Value}{X1:SV→LH→Prop}(hcap:l2.map (ev F)=cv.map lit) (hd:Nat.blt d n=true)
  (k:∀C1:Ctx,C1={C with pan:=X1,dfs:=⟨.fn (.func f) cv.toArray,#[]⟩::C.dfs}→WPT P C1 n y Post (upd F d (fnv f [] (cv.map lit))) H) :
  WPT P C n (.seq (.region id [⟨some d, .makeFunc (.func f) #[] l2.toArray,ty,pos,aft,none⟩,⟨none, .defer ⟨.value (.tmp d),#[],tys⟩,ty2,pos2,aft2,none⟩].toArray false) y) Post F H:=by
 intro a w hs;refine wp_seq (wp_region_lit ?_);obtain⟨hdef,hn,m,h1,h2,h3,h4,h5⟩:=hs;refine wpList_plain rfl fun K1 hK1=>?_
 have hop:OpV P (.makeFunc (.func f) ([]:List Operand).toArray l2.toArray) ty F H (fnv f [] (cv.map lit)):=wD rfl hcap;unfold OpV at hop;refine hop m w _ a rfl rfl h1 h2 (fun t _=>h5 t) K1 _ fun v m' w' hv hm' hH' r=>hK1 _ _ ?_
 have hst:=St.put (ay.mp hd) hdef hn h2 h3 h4 h5 hv hm' hH' r;unfold fnv at hv;obtain⟨x,yv,rfl,hx,hy⟩:=hv
 have hx':x = #[]:=by
  cases x with
  |mk l=>cases l with
   |nil=>rfl
   |cons _ _=>exact hx.elim
 have hy':=hy.lits;have hyv:yv=cv.toArray:=by rw [←hy']
 subst hx' hyv;refine wpList_plain rfl fun K2 hK2=>?_
 unfold Oper.wp
 have hev:(a.put (some d) (.func (.func f) #[] cv.toArray)).eval (.tmp d) = .func (.func f) #[] cv.toArray:=by
  show(a.put (some d) _).tmps.getD d undef=_
  rw [gT (cQ (ay.mp hd) hn),if_pos rfl]
 have hrun:(execOp (a.put (some d) (.func (.func f) #[] cv.toArray)).eval (⟨none, .defer ⟨.value (.tmp d),#[],tys⟩,ty2,pos2,aft2,none⟩:Oper)).run P w' = .ok (.defer ⟨.fn (.func f) cv.toArray,#[]⟩) w':=by
  simp [execOp,resolve,hev,Deferred.ofValue]
 rw [hrun];refine hK2 _ _ (wpList_nil ?_);refine k _ rfl _ _ ?_;obtain⟨gdef,gn,gm,g1,g2,g3,g4,g5⟩:=hst;exact⟨by show _::_=_::_;rw [gdef],gn,gm,g1,g2,g3,g4,g5⟩
theorem WTL.call {d:Nat}{x:Operand}{s:SV}{f:FuncId}{first caps:List SV}{l:List Operand}{tys:Array TypeId}{ty:TypeId}{pos:String}{aft:Array Edge}{svs:List SV}{Hin Rs:LH}{R X:SV→LH→Prop}(hx:ev F x=s) [hfv:FV s f first caps] (hc:PuH P f svs Hin R X)
  (hs:H.Perm (Hin++Rs)) (ha:first++l.map (ev F)++caps=svs) (hd:Nat.blt d n=true)
  (k:∀res H',R res H'→WTL P C n ops rest Post (upd F d res) (H'++Rs))
  (kx:∀v pv H' m' (a:Act) w',X pv H'→a.defers=C.dfs→dD m' w'→HOk m' w' (H'++Rs)→Rel C.ks C.m C.w m' w'→(∀e∈H'++Rs,e.1∈C.ks∨C.w.heap.size≤e.1)→pv.p m' v→(∀t,(F t).p m' (a.tmps.getD t undef))→Post (.panic [{v:=v,recovered:=false}]) a w') :
  WTL P C n ops (⟨some d, .call ⟨.value x,l.toArray,tys⟩,ty,pos,aft,none⟩::rest) Post F H:=by
 intro a w hst;obtain⟨hdef,hn,m,h1,h2,h3,h4,h5⟩:=hst
 have hp:∀x,(ev F x).p m (a.eval x):=fun x=>by
  cases x with
  |tmp t=>exact h5 t
  |const v=>unfold ev lit;rfl
  |global g=>unfold ev lit;rfl
  |func f=>unfold ev lit;rfl
 have hargs:=qI (m:=m) (a:=a) l fun x _=>hp x
 have e0:=hp x;rw [hx]at e0;obtain⟨fa,ca,hv,hfa,hca⟩:=hfv.h _ _ e0;have hall:dC m svs (fa.toList++l.map a.eval++ca.toList):=ha▸(hfa.append hargs).append hca
 have h2':=h2.perm hs;have hHin:HOk m w Hin:=⟨by have:=h2'.1;rw [aH]at this;exact(jh.1 this).1,fun e he=>h2'.2 e (by simp [he])⟩
 unfold PuH at hc;have hcall:=hc.2 m w _ h1 hHin hall;refine wpList_plain rfl fun K' hK'=>?_
 unfold Oper.wp;rw [A6 hc.1 hv];refine Calls.mono hcall ?_;rintro _ w' ⟨m',H',hm',hH',hr,hnew,hres⟩
 have hnk:∀e∈Rs,e.1∉keys Hin:=fun e he hk=>by
  obtain⟨e',he',hke⟩:=aj.1 hk;have:=h2'.1;rw [aH]at this;exact(jh.1 this).2.2 _ (aj.2 ⟨e',he',rfl⟩) _ (aj.2 ⟨e,he,rfl⟩) hke
 have hRs:∀e∈Rs,m' e.1=none∧jt m' w' e.1 e.2.1 e.2.2:=fun e he=>by
  obtain⟨g1,g2⟩:=h2'.2 e (by simp [he]);have hlt:=g2.lt;obtain⟨arr,g3,g4⟩:=g2;exact⟨(hr.old _ hlt (hnk e he)).trans g1,arr,(hr.block _ hlt (hnk e he)).trans g3,g4.mono hr.le⟩
 have hHn:HOk m' w' (H'++Rs):=by
  refine⟨?_,fun e he=>?_⟩
  ·rw [aH,jh];refine⟨hH'.1,by have:=h2'.1;rw [aH]at this;exact(jh.1 this).2.1,fun x hx y hy hxy=>?_⟩;obtain⟨e1,he1,rfl⟩:=aj.1 hx;obtain⟨e2,he2,rfl⟩:=aj.1 hy;rcases hnew e1 he1 with h|h
   ·exact hnk e2 he2 (hxy▸h)
   ·have:=(h2'.2 e2 (by simp [he2])).2.lt;omega
  ·rcases az.1 he with h|h
   ·exact hH'.2 e h
   ·exact hRs e h
 have hrel:Rel C.ks C.m C.w m' w':=h3.trans hr fun b hb hk=>by
  obtain⟨e',he',rfl⟩:=aj.1 hk;rcases h4 e' (hs.mem_iff.2 (by simp [he']))with h|h
  ·exact h
  ·exact absurd hb (iK.2 h)
 have hown:∀e∈H'++Rs,e.1∈C.ks∨C.w.heap.size≤e.1:=fun e he=>by
  rcases az.1 he with h|h
  ·rcases hnew e h with h|h
   ·obtain⟨e',he',hke⟩:=aj.1 h;have:=h4 e' (hs.mem_iff.2 (by simp [he']));rw [hke]at this;exact this
   ·exact .inr (aU h3.size h)
  ·exact h4 e (hs.mem_iff.2 (by simp [h]))
 rcases hres with⟨v,res,rfl,hv',hR⟩|⟨v,pv,rfl,hv',hX⟩
 ·refine hK' _ _ (k res H' hR _ _ ?_);refine⟨hdef,by simpa [Act.put] using hn,m',hm',hHn,hrel,hown,fun t=>?_⟩;rw [gT (cQ (ay.mp hd) hn)];unfold Ab.upd;by_cases ht:t=d
  ·subst ht;rw [if_pos rfl,cY];exact hv'
  ·rw [if_neg ht]
   have:Nat.beq t d=false:=by
    cases hb:Nat.beq t d with
    |false=>rfl
    |true=>exact absurd (bA hb) ht
   rw [this];exact(F t).mono hr.le (h5 t)
 ·exact kx v pv H' m' a w' hX hdef hm' hHn hrel hown hv' fun t=>(F t).mono hr.le (h5 t)
def FT (C:Ctx) (R:SV→LH→Prop):Ending→World→Prop:=fun e w'=>∃m' H',dD m' w'∧HOk m' w' H'∧Rel C.ks C.m C.w m' w'∧(∀e∈H',e.1∈C.ks∨C.w.heap.size≤e.1)∧∃v res,e = .returned v∧res.p m' v∧R res H'
theorem PuH.introD {f:FuncId}{fn:Func}{c:Code}{args:List SV}{Hin:LH}{R:SV→LH→Prop}(hf:P.funcs[f]? = some fn) (hb:fn.body=some c) (hbod:kT P f=true)
  (h:∀C:Ctx,(∀pv H,¬C.pan pv H)→C.dfs=[]→WPT P C fn.ntmps c (bodyPostD P fn (FT C R)) (ini args) Hin):PuH P f args Hin R noX:=by
 unfold PuH;refine⟨hbod,fun m w vs hm hH ha=>?_⟩;refine Calls.mono (calls_of_wp_defers hf hb ?_) (R:=FT ⟨keys Hin,m,w,noX,[]⟩ R) ?_
 ·refine h ⟨keys Hin,m,w,noX,[]⟩ (fun _ _ h=>h) rfl _ w ?_;refine⟨rfl,by simp only [rR,rQ];omega,m,hm,hH,Rel.refl _ _ _,fun e he => .inl (yx he),fun t=>?_⟩;have:=yK (us:=List.replicate (fn.ntmps-vs.toArray.size) undef) ha t;rw [show vs.toArray++Array.replicate (fn.ntmps-vs.toArray.size) undef=(vs++List.replicate (fn.ntmps-vs.toArray.size) undef).toArray from by simp];exact this
 ·rintro e w' ⟨m',H',a1,a2,a3,a4,v,res,a5,a6,a7⟩;exact⟨m',H',a1,a2,a3,a4, .inl ⟨v,res,a5,a6,a7⟩⟩
theorem SS {fn:Func}{C1 C:Ctx}{g:FuncId}{cv:Array Value}{R:SV→LH→Prop}(hC:∃X,C1={C with pan:=X,dfs:=[⟨.fn (.func g) cv,#[]⟩]}) (hb:kT P g=true) (hpan:∀pv H,¬C1.pan pv H)
  (hidle:∀w,CallsD P g cv .returning w fun e u' w'=>(∃v,e = .returned v)∧u' = .returning∧w'=w):∀e a w,oE C1 n (E5 P fn.results R) e a w→bodyPostD P fn (FT C R) e a w:=by
 obtain⟨X,rfl⟩:=hC;rintro e a w (⟨F',H',⟨hdef,_,m',hm',hH',hr',h4',hp'⟩,hq⟩|⟨ch,rfl,_,m',v,pv,H',_,_,_,_,_,_,hx⟩)
 ·have fin:(∃res H2,ou P fn.results.toList res F' H'∧H2.Sublist H'∧R res H2)→Leaves P fn a.tmps (FT C R) a.defers .returning w:=by
   rintro ⟨res,H2,he,hsub,hR⟩;obtain⟨v,hv,hpv⟩:=ul rfl he hm' hH' hp';rw [hdef];refine leaves_cons (f:=g) (args:=cv) (by simp) (by simp only [invoke,i3 hb,lF]) ?_;refine(hidle w).mono ?_;rintro e u' w' ⟨⟨v0,rfl⟩,rfl,rfl⟩;exact⟨v,hv,m',H2,hm',hH'.sub' hsub,hr',fun e he=>h4' e (hsub.subset he),v,res,rfl,hpv,hR⟩
  unfold E5 at hq;cases e with
  |normal=>exact fin hq
  |ret=>exact fin hq
  |exit id=>exact hq.elim
  |goto l=>exact hq.elim
  |panic ch=>exact hq.elim
  |outgrown=>exact hq.elim
 ·exact absurd hx (hpan _ _)
theorem TH {fn:Func}{C:Ctx}{g:FuncId}{cv:Array Value}{R:SV→LH→Prop}{a:Act}{w:World}{v:Value}(hb:kT P g=true) (hdef:a.defers=[⟨.fn (.func g) cv,#[]⟩])
  (h:CallsD P g cv (.panicking [{v:=v,recovered:=false}]) w fun e u' w'=>(∃v',e = .returned v')∧u' = .panicking [{v:=v,recovered:=true}]∧∃v2,(results fn a.tmps).run P w' = .ok v2 w'∧FT C R (.returned v2) w') :
  bodyPostD P fn (FT C R) (.panic [{v:=v,recovered:=false}]) a w:=by
 show Leaves P fn a.tmps (FT C R) a.defers _ w
 rw [hdef];refine leaves_cons (f:=g) (args:=cv) (by simp) (by simp only [invoke,i3 hb,lF]) ?_;refine h.mono ?_;rintro e u' w' ⟨⟨v0,rfl⟩,rfl,v2,h1,h2⟩;exact⟨v2,h1,h2⟩
theorem Qr {m:Mem}{tmps:Array Value}:∀(l:List (Nat×SV)),(∀e∈l,e.2.p m (tmps.getD e.1 undef))→∀t,(fm l t).p m (tmps.getD t undef)
 | [],_,t=>by show(Ab.top).p m _;unfold Ab.top;trivial
 |(d,s)::r,h,t=>by
  show(upd (fm r) d s t).p m _
  by_cases ht:t=d
  ·subst ht;rw [bS];exact h (t,s) (by simp)
  ·rw [bz ht];exact Qr r (fun e he=>h e (by simp [he])) t
theorem Nt {c:Code}{Q:Exit→Fr→LH→Prop}{Q':Exit→Act→List Frame→World→Prop}{a:Act}{w:World}{cs:List Frame}(h:WP P C n c Q F H) (hst:St C n F H a w) (k:∀e a' w',oE C n Q e a' w'→Q' e a' cs w'):c.wpS P Q' a cs w :=
 wpS_of_wp (wp_mono (by unfold WP at h;exact h a w hst) k)
end
theorem FX (p q:Addr) (w:World):CallsD Tryz.prog 164 #[.pointer (some p), .pointer (some q)] .returning w fun e u' w'=>(∃v,e = .returned v)∧u' = .returning∧w'=w:=by
 refine callsD_of_wpS Tryz.func164 rfl fun c₀ cs hu=>?_
 apply wpS_seq;apply wpS_region;simp [wpOpsS,go_sem,recoverD,hu,Exit.thenS];apply wpS_seq;apply wpS_region;simp [wpOpsS,go_sem,Exit.thenS];refine wpS_cond (t:=false) (by simp [Act.eval,Array.replicate]) ?_;simp only [bE,aO];refine wpS_of_wp (wp_skip ?_);cases c₀;simp_all [bodyPostS,results,Exit.thenS]
theorem BK {F:Fr}{H:LH}{ty:TypeId}{x:Operand}(hx:ev F x=inval):OpV Tryz.prog (.typeAssert x 20 300 true) ty F H (Ab.tup [ag [],lit (.bool true)]) :=
 OpV.pure fun m w o a ho _ _ _ h=>by
  have h0:=h x (by simp [Op.operands]);rw [hx,ap]at h0;have hrun:(Instr.typeAssert (.iface 300 (.agg #[])) 20 300 true).run Tryz.prog w = .ok (.tuple #[.agg #[], .bool true]) w:=by kernel_rfl
  refine⟨.tuple #[.agg #[], .bool true],by simp [execOp,ho,h0,hrun],?_⟩;unfold Ab.tup;exact⟨_,rfl,by unfold ag;exact⟨#[],rfl,trivial⟩,ap.2 rfl,trivial⟩
theorem JE [iF 0]{b2 b3:Nat}{w:World}{m:Mem}{s0 e0:SV}{v:Value}(hm:dD m w) (hv:inval.p m v) (hH:HOk m w [(b3,39,[e0]),(b2,9,[s0])]) :
  CallsD Tryz.prog 164 #[.pointer (some ⟨b2,0,none⟩), .pointer (some ⟨b3,0,none⟩)] (.panicking [{v:=v,recovered:=false}]) w fun e u' w'=>(∃v',e = .returned v')∧u' = .panicking [{v:=v,recovered:=true}]∧
   ∃m',dD m' w'∧HOk m' w' [(b3,39,[lit (jV 0)]),(b2,9,[str []])]∧Rel [b3,b2] m w m' w':=by
 have hv':=ap.1 hv;subst hv';refine callsD_of_wpS Tryz.func164 rfl fun c₀ cs hu=>?_
 apply wpS_seq;apply wpS_region;simp [wpOpsS,go_sem,recoverD,hu,Exit.thenS]
 refine Nt (C:=⟨[b3,b2],m,w,noX,[]⟩) (n:=17) (F:=fm [(0,lit (.pointer (some ⟨b2,0,none⟩))),(1,lit (.pointer (some ⟨b3,0,none⟩))),(2,inval)]) (H:=[(b3,39,[e0]),(b2,9,[s0])])
  (Q:=fun e _ H'=>e = .normal∧[(b3,39,[lit (jV 0)]),(b2,9,[str []])].Sublist H') ?_ ⟨rfl,by simp,m,hm,hH,Rel.refl _ _ _,fun e he => .inl (by simp at he⊢;rcases he with rfl|rfl <;> simp),Qr _ ?_⟩ ?_
 ·refine A2 ⟨?_⟩;intros;refine Wo (BK rfl) ?_;refine A2 ⟨?_⟩;intros;exact⟨rfl,Sq⟩
 ·intro e he;simp only [ak,fG,eP]at he;rcases he with rfl|rfl|rfl
  ·rw [ap];simp
  ·rw [ap];simp
  ·rw [ap];simp
 ·rintro e a' w' (⟨F',H',⟨hdef,_,m',hm',hH',hr',h4',hp'⟩,rfl,hsub⟩|⟨ch,rfl,_,_,_,_,_,_,_,_,_,_,_,hx⟩)
  ·refine⟨hdef,_,rfl, .tuple #[],?_,⟨_,rfl⟩,rfl,m',hm',hH'.sub' hsub,hr'⟩;simp [results]
  ·exact hx.elim
theorem xO [iF 0]{b:Nat}{T:TypeId}{cs:List SV}{g:FuncId}{good:Bool}{t:List UInt8}(hne:good=true→t≠[]) (hlen:t.length≤65536)
  (hc:∀w,PuH Tryz.prog g [lit (.pointer (some ⟨w,0,none⟩)),lit (.pointer (some ⟨b,0,none⟩))] [(b,T,cs),(w,307,wrC wG (lit (.slice none 0 0)) 0 false)] (fun r H'=>good=true∧r=Ab.tup []∧Wtr w t 0 H') (fun pv _=>good=false∧pv=inval)) :
  PuH Tryz.prog 121 [fnv g [] [lit (.pointer (some ⟨b,0,none⟩))]] [(b,T,cs)] (fun r _=>r=(if good=true then Ab.tup [str t,lit .nilIface]else Ab.tup [str [],lit (jV 0)])) noX:=by
 refine PuH.introD Tryz.func121 rfl kr fun C hC0 hC1=>?_
 refine WPT.seq hC0 ?_;refine A2 ⟨?_⟩;intros;rename_i b2 b3;refine onN.i ?_;refine WPT.defer (cv:=[.pointer (some ⟨b2,0,none⟩), .pointer (some ⟨b3,0,none⟩)]) (X1:=noX) rfl rfl fun C1 hC=>?_
 rw [hC1]at hC;have hC2:∀pv H,¬C1.pan pv H:=fun pv H h=>by rw [hC]at h;exact h
 refine WPT.seq hC2 ?_;refine A2 ⟨?_⟩;intros;rename_i w;refine onN.i ?_;refine WPT.reg ?_;refine WTL.val (op := .move _) Ov0 ?_ rfl;refine WTL.val (op := .move _) Ov0 ?_ rfl;refine WTL.call (s:=fnv g [] [lit (.pointer (some ⟨b,0,none⟩))]) (l:=[.tmp 9]) rfl (hc w) (Tk.perm (Tk.cons (aq.there _ (aq.there _ (aq.there _ (aq.here _)))) (Tk.cons (aq.here _) (Tk.nil _)))) rfl rfl ?_ ?_
 ·rintro _ H' ⟨hg,rfl,a,s,Hb,ha,hb,rfl⟩;refine WTL.nil ?_;refine WPT.fin (Q:=E5 Tryz.prog Tryz.f121.results fun r _=>r=(if good=true then Ab.tup [str t,lit .nilIface]else Ab.tup [str [],lit (jV 0)])) ?_ (SS ⟨_,hC⟩ kr hC2 fun w=>FX _ _ w);have hl0:=hne hg;refine WP.perm aG ?_;simp only [ab,a8];refine A2 ⟨?_⟩;intros;refine WgE ?_;refine WfH (Rr ⟨a,s,Hb,ha,hb,rfl⟩) ?_;rintro _ _ ⟨rfl,rfl⟩;refine WPL.perm aG ?_;simp only [ab,a8];refine A2 ⟨?_⟩;intros;refine WfH (FZ ⟨a,s,Hb,ha,hb,rfl⟩ hl0 om) ?_;rintro _ H2 rfl;refine WPL.perm aG ?_;simp only [ab,a8];refine A2 ⟨?_⟩;intros;exact ct _ _ (eJ (RV.cell1 (b:=b2) rfl (Mc Ms) rfl) (RV.cell1 (b:=b3) rfl cL rfl) Lr) (av _) (by rw [if_pos hg])
 ·subst hC;rintro v pv H' m' a' w' ⟨hg,rfl⟩ hdef hm' hH' hrel hown hpv hF;refine TH (g:=164) (cv := #[.pointer (some ⟨b2,0,none⟩), .pointer (some ⟨b3,0,none⟩)]) kr hdef ?_
  have hsub:∀e∈[(b3,39,[lit (jV 0)]),(b2,9,[str []])],e.1∈C.ks∨C.w.heap.size≤e.1:=fun e he=>by
   simp only [ak,fG,eP]at he;rcases he with rfl|rfl
   ·exact hown (b3,39,[lit .nilIface]) (cN _ (Ms))
   ·exact hown (b2,9,[lit (.string ⟨#[]⟩)]) (cN _ (Mc (Ms)))
  refine(JE hm' hpv hH'.tail).mono ?_;rintro e u' w2 ⟨he,hu,m2,g1,g2,g3⟩;refine⟨he,hu,?_⟩;obtain⟨v2,hv2,hp2⟩:=ul (fn:=Tryz.f121) (tmps:=a'.tmps) (P:=Tryz.prog) rfl (eJ (RV.cell1 (b:=b2) rfl (Mc Ms) rfl) (RV.cell1 (b:=b3) rfl cL rfl) Lr) g1 g2 fun x=>SV.mono _ g3.le (hF x)
  refine⟨v2,hv2,m2,_,g1,g2,hrel.trans g3 fun x hx hk=>?_,hsub,v2,_,rfl,hp2,by rw [hg];rfl⟩
  have:x∈C.ks∨C.w.heap.size≤x:=by
   simp only [keys,aD,iz,ak,fG,eP]at hk;rcases hk with rfl|rfl
   ·exact hsub _ Ms
   ·exact hsub _ (Mc Ms)
  rcases this with h|h
  ·exact h
  ·exact absurd hx (iK.2 h)
section
variable {P:Program}{C:Ctx}{n:Nat}{Q:Exit→Fr→LH→Prop}{F:Fr}{H:LH}{ops:Array Oper}
end
def otx (ns:List Nd):Option (List UInt8):=match stk ns 0 []with
 |some [(t,_)]=>if t.good=true then some t.txt else none
 |_=>none
theorem Lv (ns:List Nd):(okL ns=false∧otx ns=none)∨∃t:Ex,okL ns=true∧t.At ns (ns.length-1)∧t.size=ns.length∧otx ns=if t.good=true then some t.txt else none:=by
 have h:=NK ns;unfold otx;cases hst:stk ns 0 []with
 |none=>rw [hst]at h;exact .inl ⟨h,rfl⟩
 |some st =>
  rw [hst]at h;simp only at h;obtain⟨h1,h2⟩:=h;match st,h1,h2 with
  | [],h1,_=>exact .inl ⟨by rw [h1];rfl,rfl⟩
  | [(t,j)],h1,h2 =>
   obtain⟨a,b⟩:=h2 t j [] rfl;obtain⟨rfl,c⟩:=b rfl;exact .inr ⟨t,by rw [h1];rfl,a,c,rfl⟩
  |_::_::r,h1,_=>exact .inl ⟨by rw [h1];simp,rfl⟩
theorem Ex.txt_ne:∀{t:Ex}{ns:List Nd}{i:Nat},t.At ns i→t.good=true→t.txt≠[]
 | .leaf n,ns,i,hat,h=>by
  obtain⟨_,h1,h4⟩:=hat;unfold Ex.txt;unfold Ex.good at h;by_cases k1:n.k=1
  ·rw [if_pos k1]at h⊢;intro e;rw [e]at h;revert h;decide
  rw [if_neg k1];by_cases k2:n.k=2
  ·rw [if_pos k2];decide
  rw [if_neg k2];by_cases k3:n.k=3
  ·rw [if_pos k3];decide
  rw [if_neg k3];simp
 | .un n x,ns,i,hat,h=>by
  unfold Ex.txt;simp
 | .bi n l r,ns,i,hat,h=>by
  unfold Ex.txt;have:=wU n.op;intro e;have h2:=congrArg List.length e;simp only [ac,bq]at h2;omega
theorem Ex.txt_len {L:Nat}(hL:L≤20){ns:List Nd}(hok:∀n∈ns,n.ok L):∀{t:Ex}{i:Nat},t.At ns i→t.txt.length≤2000*t.size
 | .leaf n,i,hat=>by
  have hm:=hok n (bn hat.1);have h1:=uv hm.a hm.b;have h2:=uv hm.c hm.e;have h3:=hm.nm;simp only [Ex.txt,Ex.size];split
  ·omega
  split
  ·simp
  split
  ·simp
  ·unfold Ad;simp only [ac,aF,bq];omega
 | .un n x,i,hat=>by
  obtain⟨_,_,j,_,hx⟩:=hat;have h1:=Ex.txt_len hL hok hx;have h2:=mN (decide (rk x.top<3)) x.txt;simp only [Ex.txt,Ex.size,ac,aF,bq];omega
 | .bi n l r,i,hat=>by
  obtain⟨_,_,_,j,k,_,_,hl,hr⟩:=hat;have h1:=Ex.txt_len hL hok hl;have h2:=Ex.txt_len hL hok hr;have h3:=mN (decide (rk l.top<rk n)) l.txt;have h4:=mN (decide (rk r.top<rk n+1)) r.txt;have h5:=wU n.op;simp only [Ex.txt,Ex.size,ac];omega
def IH (g:Nat):Option (List UInt8)→SV
 |some t=>Ab.tup [str t,lit .nilIface]
 |none=>Ab.tup [str [],lit (jV g)]
theorem txt_len {L:Nat}(hL:L≤20){ns:List Nd}(hok:∀n∈ns,n.ok L) (hns:ns.length≤30){t:Ex}{i:Nat}(hat:t.At ns i) (hs:t.size=ns.length):t.rtxt.length≤65536:=by
 have:=Ex.rtxt_len hL hok hat;omega
theorem Bb [iF 0] (ns:List Nd){L:Nat}(hok:∀n∈ns,n.ok L) (hL:L≤20) (hns:ns.length≤30):Pu Tryz.prog 84 [sl (ns.map ndx).flatten ns.length] (IH 0 (otx ns)):=by
 rcases Lv ns with⟨h1,h2⟩|⟨t,h1,h2,h3,h4⟩
 ·rw [h2];show Pu _ _ _ (Ab.tup [str [],lit (jV 0)])
  have c:=fun b=>xO (b:=b) (T:=32) (cs:=[sl (ns.map ndx).flatten ns.length]) (good:=false) (t:=[]) (fun h=>by cases h) (by simp) (fun w=>(JT (b:=b) hok om om (Ba w) h1).mono (fun _ _ h=>h.elim) fun pv _ h=>⟨rfl,h⟩)
  refine Pi Tryz.func84 fun C=>?_
  refine A2 ⟨?_⟩;intros;refine WfT (c _) ?_;rintro _ H' rfl;refine A2 ⟨?_⟩;intros;exact G2
 ·have hl:=txt_len hL hok hns h2 h3;rw [h4];cases hg:t.good with
  |true =>
   rw [Ex.rtxt_good hg ns _ h2]at hl;rw [if_pos rfl];show Pu _ _ _ (Ab.tup [str t.txt,lit .nilIface])
   have c:=fun b=>xO (b:=b) (T:=32) (cs:=[sl (ns.map ndx).flatten ns.length]) (good:=true) (t:=t.txt) (fun _=>Ex.txt_ne h2 hg) hl
    (fun w=>(Cp (b:=b) hok om om (Ba w) h1 h2 h3 (by simp;omega)).mono (fun _ _ h=>⟨rfl,h.2.1,h.2.2⟩) fun pv _ h=>by rw [hg]at h;exact absurd h.1 (by decide))
   refine Pi Tryz.func84 fun C=>?_
   refine A2 ⟨?_⟩;intros;refine WfT (c _) ?_;rintro _ H' rfl;refine A2 ⟨?_⟩;intros;exact G2
  |false =>
   rw [if_neg (by decide)];show Pu _ _ _ (Ab.tup [str [],lit (jV 0)])
   have c:=fun b=>xO (b:=b) (T:=32) (cs:=[sl (ns.map ndx).flatten ns.length]) (good:=false) (t:=[]) (fun h=>by cases h) (by simp)
    (fun w=>(Cp (b:=b) hok om om (Ba w) h1 h2 h3 (by simp;exact aU (Ex.txt_len hL hok h2) om)).mono (fun _ _ h=>by rw [hg]at h;exact absurd h.1 (by decide)) fun pv _ h=>⟨rfl,h.2⟩)
   refine Pi Tryz.func84 fun C=>?_
   refine A2 ⟨?_⟩;intros;refine WfT (c _) ?_;rintro _ H' rfl;refine A2 ⟨?_⟩;intros;exact G2
theorem L3 [iF 0] (ns:List Nd){L:Nat}(hok:∀n∈ns,n.ok L) (hL:L≤20) (hns:ns.length≤30):Pu Tryz.prog 44 [sl (ns.map ndx).flatten ns.length] (IH 0 (otx ns)):=by
 have c:=Bb ns hok hL hns;cases h:otx ns with
 |some t =>
  rw [h]at c;unfold IH at c⊢;refine Pi Tryz.func44 fun C=>?_
  refine D1 c ⟨?_⟩;intros;exact G2
 |none =>
  rw [h]at c;unfold IH at c⊢;refine Pi Tryz.func44 fun C=>?_
  refine D1 c ⟨?_⟩;intros;exact G2
def re (n:Nd):Li:=thr n.a.v n.b.v n.c.v n.e.v
def wi (n:Nd):Bool:=decide (n.c.v-n.a.v=0∧n.e.v-n.b.v=0)
def evP (nm:List (List UInt8)) (ts out:List Tr) (n:Nd):Except Nat Tr :=
 if n.k=1 then(if wR nm n.nm<0 then .error 5 else .ok (dI (ts.getD (wR nm n.nm).toNat (.leaf false)) []))
 else if n.k=4 then(if wi n=true then .error 3 else .ok (.node (re n) (.leaf true) (.leaf false)))
 else if n.k=5 then .ok (ml (out.getD n.x.toNat (.leaf false)))
 else if n.k=6 then .ok (fk n.op (out.getD n.x.toNat (.leaf false)) (out.getD n.y.toNat (.leaf false)) [])
 else .ok (.leaf (decide (n.k=2)))
def Am (free:Bool) (bud:Int) (t:Tr):Bool := !free&&decide (bud<(dG t:Nat))
def kS (nm:List (List UInt8)) (ts:List Tr) (free:Bool) (bud:Int):List Nd→List Tr→Except (Nat×Nd) (List Tr)
 | [],out => .ok out
 |n::r,out=>match evP nm ts out n with
  | .error e => .error (e,n)
  | .ok t=>if Am free bud t=true then .error (7,n)else kS nm ts free bud r (out++[t])
structure NdV (i:Nat) (n:Nd):Prop where
 ok:okN n=true
 x:n.k=5∨n.k=6→0≤n.x∧n.x.toNat<i
 y:n.k=6→0≤n.y∧n.y.toNat<i
theorem Ey:∀{ns:List Nd}{i:Nat}{st:List (Ex×Nat)},(stk ns i st).isSome=true→(∀p∈st,p.2<i)→∀j n,ns[j]? = some n→NdV (i+j) n
 | [],_,_,_,_,j,n,h=>by simp at h
 |m::ns,i,st,hs,hst,j,n,h=>by
  rw [nQ]at hs;cases hp:stp i m st with
  |none=>rw [hp]at hs;cases hs
  |some st' =>
   rw [hp]at hs
   have hok:okN m=true:=by
    unfold stp at hp;split at hp
    ·assumption
    ·cases hp
   have key:NdV i m∧∀p∈st',p.2<i+1:=by
    unfold stp at hp;rw [if_pos hok]at hp;by_cases k5:m.k=5
    ·rw [if_pos k5]at hp;match st,hst,hp with
     | [],_,hp=>cases hp
     |(x,q)::r,hst,hp =>
      simp only at hp;split at hp
      ·rename_i hx;cases hp;have hq:=hst (x,q) Ms;simp only at hq;refine⟨⟨hok,fun _=>⟨om,om⟩,fun e=>by omega⟩,fun p hp=>?_⟩;rcases ak.1 hp with rfl|hp
       ·show i<i+1;omega
       ·have:=hst p (Mc hp);omega
      ·cases hp
    ·rw [if_neg k5]at hp;by_cases k6:m.k=6
     ·rw [if_pos k6]at hp;match st,hst,hp with
      | [],_,hp=>cases hp
      | [_],_,hp=>cases hp
      |(y,k)::(x,q)::r,hst,hp =>
       simp only at hp;split at hp
       ·rename_i hx;cases hp;have hq:=hst (x,q) (by simp);have hk:=hst (y,k) (by simp);simp only at hq hk;refine⟨⟨hok,fun _=>⟨om,om⟩,fun _=>⟨om,om⟩⟩,fun p hp=>?_⟩;rcases ak.1 hp with rfl|hp
        ·show i<i+1;omega
        ·have:=hst p (by simp [hp]);omega
       ·cases hp
     ·rw [if_neg k6]at hp;cases hp;refine⟨⟨hok,fun e=>by omega,fun e=>absurd e k6⟩,fun p hp=>?_⟩;rcases ak.1 hp with rfl|hp
      ·show i<i+1;omega
      ·have:=hst p hp;omega
   cases j with
   |zero =>
    simp only [ff,bM]at h;rw [←h];exact key.1
   |succ j =>
    have:=Ey hs key.2 j n (by simpa using h);rw [show i+(j+1)=i+1+j by omega];exact this
theorem GY {ns:List Nd}{t:List UInt8}(h:otx ns=some t):(stk ns 0 []).isSome=true:=by
 unfold otx at h;cases hs:stk ns 0 []with
 |none=>rw [hs]at h;cases h
 |some st=>rfl
structure EvE (L:List Li) (LL:Nat) (nm:List (List UInt8)) (ts:List Tr):Prop where
 ok:∀l∈L,l.ok
 le:∀l∈L,l.le LL
 l1:1≤LL
 l2:LL≤500
 len:L.length≤100
 tl:∀t∈ts,t.lin L
 dep:∀t∈ts,j6 t≤1024
 nl:nm.length=ts.length
 ns:nm.length≤1000
theorem EvE.all {L:List Li}{LL:Nat}{nm:List (List UInt8)}{ts:List Tr}(h:EvE L LL nm ts){t:Tr}(k:t.lin L):t.all fun l=>l.le LL:=Tr.lin.all h.le k
theorem w8 {L:List Li}{LL:Nat}{nm:List (List UInt8)}{ts out:List Tr}(h:EvE L LL nm ts) (ho:∀t∈out,Gd L t){n:Nd}(hh:n.k=4→wi n=false→re n∈L){t:Tr}(e:evP nm ts out n = .ok t):Gd L t:=by
 have hg:∀i,Gd L (out.getD i (.leaf false)):=fun i=>by
  rw [cR];cases hi:out[i]? with
  |none=>exact Gd.leaf L false
  |some t=>exact ho t (bn hi)
 have ht:∀i,(ts.getD i (.leaf false)).lin L:=fun i=>by
  rw [cR];cases hi:ts[i]? with
  |none=>exact trivial
  |some t=>exact h.tl t (bn hi)
 unfold evP at e;split at e
 ·split at e
  ·cases e
  ·cases e;exact Gd.restr h.ok (ht _)
 ·split at e
  ·rename_i k4;split at e
   ·cases e
   ·rename_i hd;cases e;have hm:=hh k4 (by simpa using hd);exact Gd.half hm (h.ok _ hm) _ _
  ·split at e
   ·cases e;exact(hg _).not
   ·split at e
    ·cases e;exact Gd.merge h.ok (hg _).1 (hg _).1
    ·cases e;exact Gd.leaf L _
theorem HE {L:List Li}{LL:Nat}{nm:List (List UInt8)}{ts:List Tr}(h:EvE L LL nm ts){free:Bool}{bud:Int}:∀{ns:List Nd}{out o:List Tr},(∀n∈ns,n.k=4→wi n=false→re n∈L)→(∀t∈out,Gd L t)→kS nm ts free bud ns out = .ok o→(∀t∈o,Gd L t)∧o.length=out.length+ns.length
 | [],out,o,_,ho,e=>by cases e;exact⟨ho,rfl⟩
 |n::ns,out,o,hh,ho,e=>by
  unfold kS at e;cases hp:evP nm ts out n with
  |error x=>rw [hp]at e;cases e
  |ok t =>
   rw [hp]at e;simp only at e;split at e
   ·cases e
   ·have hg:=w8 h ho (hh n Ms) hp;obtain⟨a,b⟩:=HE h (fun m hm=>hh m (Mc hm)) (fun t ht=>(az.1 ht).elim (ho t) fun h=>by rw [ar.1 h];exact hg) e;exact⟨a,by rw [b,ac,bH,aF];omega⟩
def oU (n:Nd):List UInt8:=if n.k=1 then n.nm else if n.k=2 then [97,108,108]else if n.k=3 then [110,111,110,101]else if n.k=4 then [104,97,108,102]else if n.k=5 then [126]else if n.op=1 then [43]else if n.op=2 then [42]else if n.op=3 then [45]else [94]
theorem OO {n:Nd}(h:okN n=true):n.k≠6→n.op=0:=by
 unfold okN at h;simp only [bG,bO,cC]at h;obtain⟨⟨⟨⟨⟨h1,_⟩,_⟩,h2⟩,_⟩,_⟩:=h;intro hk;rcases h2 with h2|h2
 ·exact absurd h2.1.1 hk
 ·exact h2.2
theorem M1 (n:Nd) (h:okN n=true):Pu Tryz.prog 86 [ag (ndx n)] (str (oU n)):=by
 obtain⟨hk,hop⟩:=Au h;have h0:=OO h;obtain⟨k,nm,a,b,c,e,op,x,y,ln,cl⟩:=n;simp only at hk hop h0;unfold oU;simp only;have hkk:(k=1∨k=2∨k=3∨k=4∨k=5)∨k=6:=by omega
 clear h;rcases hkk with hkk|rfl
 ·obtain rfl:=h0 om;clear hk hop h0;rcases hkk with rfl|rfl|rfl|rfl|rfl
  all_goals
   simp only [Int.reduceEq,aV,aO];refine Pi Tryz.func86 fun C=>?_
   refine A2 ⟨?_⟩;intros;refine Wo (jl (e:=9) (len:=5) (cs:=[str [],str [43],str [42],str [45],str [94]]) kr (by repeat(first|exact dO.nil|(apply dO.cons;exact Eq.refl (lit _);infer_instance))) (by exact rfl)) ?_;repeat(first|(refine AS ⟨?_⟩;intros)|(refine O1 ⟨?_⟩;intros))
   refine WdN 8 ?_;refine A2 ⟨?_⟩;intros;refine Wdo (fN (e:=9) (len:=5) kr rfl rfl (by dsimp only;decide) (by dsimp only;decide)) ?_;refine A2 ⟨?_⟩;intros;refine Wdo (jl (e:=9) (len:=7) (cs:=[str [],str nm,str [97,108,108],str [110,111,110,101],str [104,97,108,102],str [126],str []]) kr (by repeat(first|exact dO.nil|(apply dO.cons;exact Eq.refl (lit _);infer_instance))) (by exact rfl)) ?_;refine A2 ⟨?_⟩;intros;refine Wo (fN (e:=9) (len:=7) kr rfl rfl (by dsimp only;decide) (by dsimp only;decide)) ?_;exact Z1
 ·obtain⟨o1,o2⟩:=hop rfl;clear hk h0 hop;have ho:op=1∨op=2∨op=3∨op=4:=by omega
  rcases ho with rfl|rfl|rfl|rfl
  all_goals
   simp only [Int.reduceEq,aV,aO];refine Pi Tryz.func86 fun C=>?_
   refine A2 ⟨?_⟩;intros;refine Wo (jl (e:=9) (len:=5) (cs:=[str [],str [43],str [42],str [45],str [94]]) kr (by repeat(first|exact dO.nil|(apply dO.cons;exact Eq.refl (lit _);infer_instance))) (by exact rfl)) ?_;repeat(first|(refine AS ⟨?_⟩;intros)|(refine O1 ⟨?_⟩;intros))
   refine WdN 8 ?_;refine A2 ⟨?_⟩;intros;refine Wdo (fN (e:=9) (len:=5) kr rfl rfl (by dsimp only;decide) (by dsimp only;decide)) ?_;refine A2 ⟨?_⟩;intros;refine Wdo (jl (e:=9) (len:=7) (cs:=[str [],str nm,str [97,108,108],str [110,111,110,101],str [104,97,108,102],str [126],str _]) kr (by repeat(first|exact dO.nil|(apply dO.cons;exact Eq.refl (lit _);infer_instance))) (by exact rfl)) ?_;refine A2 ⟨?_⟩;intros;refine Wo (fN (e:=9) (len:=7) kr rfl rfl (by dsimp only;decide) (by dsimp only;decide)) ?_;exact Z1
end Go.Ab
