/- Texts laid one behind the other: Bld, Txt, TxtB, Nrm, RgW, Wr. -/
import Derived.Lib.AppendStr
import Derived.Lib.UnsafeStr
import Derived.Lib.Builder
import Derived.Laws.IdiomStrings
import Derived.Test.YtpeidlcjlfkpcaaGreatDoorB18
set_option linter.all false
set_option maxHeartbeats 16000000
namespace Go.Ab
open Go.Proofs
variable [Base]
def bys (l:List UInt8):List SV:=l.map fun b=>lit (.int .u8 (b.toNat:Nat))
theorem mU (l:List UInt8):(bys l).length=l.length:=by simp [bys]
theorem tZ (a b:List UInt8):bys (a++b)=bys a++bys b:=by simp [bys]
def Byt (l:List UInt8) (s:SV) (H:LH):Prop :=
 (l=[]∧s=lit (.slice none 0 0)∧H=[])∨
  l≠[]∧∃b c,l.length≤c∧c≤maxLen∧s=lit (.slice (some ⟨b,0,none⟩) l.length c)∧H=[(b,5,bys l++List.replicate (c-l.length) top)]
theorem Byt.nil:Byt [] (lit (.slice none 0 0)) [] := .inl ⟨rfl,rfl,rfl⟩
theorem Byt.co {l:List UInt8}{s:SV}{H:LH}(h:Byt l s H):CO s [s]:=by
 rcases h with⟨_,rfl,_⟩|⟨_,b,c,_,_,rfl,_⟩ <;> infer_instance
theorem qm {m:Mem}(l:List UInt8):bk m (bys l) (Lib.strCells ⟨l.toArray⟩):=by
 unfold bys Lib.strCells;simp only [du];induction l with
 |nil=>trivial
 |cons b l ih=>exact⟨⟨by rw [ap],rfl⟩,ih⟩
section
variable {P:Program}{C:Ctx}{n:Nat}{F:Fr}{H:LH}{ops:Array Oper}{K:Fr→LH→Prop}{rest:List Oper}{ty:TypeId}{pos:String}{aft:Array Edge}
theorem rg {P:Program}(w:World) (t u ty e:TypeId) (i:TypeInfo) (ht:P.underlying t=some (.slice e)) (hu:P.underlying u=some .string) (hi:P.info? e=some i) :
  (Builtin.append_ #[t,u] ty #[.slice none 0 0, .string ⟨#[]⟩]).run P w = .ok (.slice none 0 0) w:=by
 simp [Builtin.append_,run_underlying ht,run_underlying hu,sizeOf,typeInfo,hi,Builtin.lenOf,Builtin.firstCells,ByteArray.size]
theorem WPL.appStr {T U:TypeId} [hS:TSl P T 5]{z:List SV}{g:Bool} [hT:TY P 5 1 1 z g] [hU:TSr P U]{d:Nat}{x y:Operand}{l t:List UInt8}{s:SV}{Hs Rs:LH}
  (hown:Byt l s Hs) (hx:ev F x=s) (hy:ev F y=str t) (hsp:H.Perm (Hs++Rs)) (hl:l.length+t.length≤1000000000)
  (k:∀s' H',Byt (l++t) s' H'→WPL P C n ops rest K (upd F d s') (H'++Rs)) (hd:Nat.blt d n=true) :
  WPL P C n ops (⟨some d, .call ⟨.builtin .append,#[x,y],#[T,U]⟩,ty,pos,aft,none⟩::rest) K F H:=by
 unfold WPL;intro a w hs0 Q hq;have hs:=hs0.perm hsp;refine wpList_plain rfl fun K' hK'=>?_
 obtain⟨hdef,hn,m0,h10,h20,h30,h40,h50⟩:=id hs
 have hp0:∀x,(ev F x).p m0 (a.eval x):=fun x=>by
  cases x with
  |tmp t=>exact h50 t
  |const v=>unfold ev lit;rfl
  |global g=>unfold ev lit;rfl
  |func f=>unfold ev lit;rfl
 have e0:=hp0 x;rw [hx]at e0;have e1:=hp0 y;rw [hy,ap]at e1;obtain⟨i,v,hi,hsz,hbyt,hz,hzl,hfl,hvs⟩:=hT.run_bytes
 have hexec:execOp a.eval (⟨some d, .call ⟨.builtin .append,#[x,y],#[T,U]⟩,ty,pos,aft,none⟩:Oper)=(do let v←Builtin.append_ #[T,U] ty #[a.eval x,a.eval y];pure (.value v)):=by
  simp [execOp,resolve,invoke,builtin]
 have hss:(⟨t.toArray⟩:ByteArray).size=t.length:=sH t;unfold Oper.wp;rw [hexec,e1];rcases hown with⟨rfl,rfl,rfl⟩|⟨hne,b,c,hnc,hcm,rfl,rfl⟩
 ·rw [ap]at e0;by_cases ht:t=[]
  ·subst ht;have hrun:=rg (P:=P) w T U ty 5 i hS.h hU.h hi;rw [e0];simp only [Sem.run_bind,hrun,Result.andThen_ok,Sem.run_pure];have h:=k (lit (.slice none 0 0)) [] Byt.nil;unfold WPL at h;refine hK' _ _ (h (a.put (some d) (.slice none 0 0)) w ⟨hdef,by simpa [Act.put] using hn,m0,h10,h20,h30,h40,fun t=>?_⟩ Q hq);rw [gT (cQ (ay.mp hd) hn)];unfold Ab.upd;by_cases ht:t=d
   ·subst ht;rw [if_pos rfl,cY];exact ap.2 rfl
   ·rw [if_neg ht]
    have:Nat.beq t d=false:=by
     cases hbb:Nat.beq t d with
     |false=>rfl
     |true=>exact absurd (bA hbb) ht
    rw [this];exact h50 t
  ·have hpos:0<t.length:=fE.2 ht;have hrun:=run_append_nil_string (P:=P) w T U ty 5 i v hS.h hU.h hi hz ⟨t.toArray⟩ om (by rw [hss];simp only [bq]at hl;omega) (by rw [hss,hbyt];simp only [bq]at hl;omega);rw [hss]at hrun;rw [e0];simp only [Sem.run_bind,hrun,Result.andThen_ok,Sem.run_pure];have hge:=grownCap_ge w t.length 0 5;have hle:=grownCap_le_maxLen w t.length 0 5 (by simp only [maxLen];simp only [bq]at hl;omega);have h:=k (lit (.slice (some ⟨w.heap.size,0,none⟩) t.length (grownCap w t.length 0 5))) [(w.heap.size,5,bys t++List.replicate (grownCap w t.length 0 5-t.length) top)] (.inr ⟨ht,_,_,hge,hle,rfl,rfl⟩);unfold WPL at h;refine hK' _ _ (h _ _ (St.pushD (ay.mp hd) hs fun m h1 h2 _=>?_) Q hq)
   have e2:(Array.map (fun b:UInt8=>Value.int .u8 b.toNat) (⟨t.toArray⟩:ByteArray).data++Builtin.zeroCells v.cells (grownCap w t.length 0 5-t.length)).toList=Lib.strCells ⟨t.toArray⟩++(Builtin.zeroCells v.cells (grownCap w t.length 0 5-t.length)).toList:=by
    simp [Lib.strCells]
   rw [e2];refine(qm t).append (bk.topL ?_ (fL hfl));rw [aN,size_zeroCells,hvs,cB]
 ·rw [ap]at e0;obtain⟨hmb,arr,hb,hall⟩:=h20.2 _ (cG Rs (ar.2 rfl));have hlen:=hall.length;simp only [ac,iW,mU,aN]at hlen
  have getc:∀m,HOk m w ([(b,5,bys l++List.replicate (c-l.length) top)]++Rs)→bk m (bys l++List.replicate (c-l.length) top) arr.toList:=fun m h2=>by
   obtain⟨_,arr',hb',hall'⟩:=h2.2 _ (cG Rs (ar.2 rfl));rw [hb]at hb';simp only [bM,Obj.cells.injEq]at hb';obtain⟨rfl,_⟩:=hb';exact hall'
  have hne':l++t≠[]:=fun e=>hne (List.append_eq_nil_iff.1 e).1
  by_cases hroom:l.length+t.length≤c
  ·have hrun:=Lib.run_append_room_string (P:=P) w T U ty 5 i hS.h hU.h hi hsz b l.length c arr hb ⟨t.toArray⟩ (by rw [hss];exact hroom) (by rw [hss];omega);rw [hss]at hrun;rw [e0];simp only [Sem.run_bind,hrun,Result.andThen_ok,Sem.run_pure];have h:=k (lit (.slice (some ⟨b,0,none⟩) (l.length+t.length) c)) [(b,5,bys (l++t)++List.replicate (c-(l++t).length) top)] (.inr ⟨hne',_,_,by rw [ac];exact hroom,hcm,by rw [ac],rfl⟩);unfold WPL at h
   have hfin:bk m0 (bys (l++t)++List.replicate (c-(l++t).length) top) (arr.toList.take l.length++Lib.strCells ⟨t.toArray⟩++arr.toList.drop (l.length+t.length)).toArray.toList:=by
    obtain⟨q1,q2⟩:=(getc m0 h20).split;rw [mU]at q1 q2;rw [du,tZ];refine(q1.append (qm t)).append (bk.topL ?_ fun u hu=>?_)
    ·rw [cO,aN,ac];omega
    ·exact hall.flat u (kM hu)
   obtain⟨q1,q2,q3,q4⟩:=mf (w':=w.setRow b (arr.toList.take l.length++Lib.strCells ⟨t.toArray⟩++arr.toList.drop (l.length+t.length)).toArray) h10 h20 h30 h40 (.here Rs)
    (setRow_heap w b arr _ 5 _ hb) (fun j hj=>setRow_other w b j _ hj) rfl rfl ⟨rfl,rfl⟩ (by simp) hfin
   refine hK' _ _ (h (a.put (some d) (.slice (some ⟨b,0,none⟩) (l.length+t.length) c)) _ ⟨hdef,by simpa [Act.put] using hn,m0,q1,q2,q3,q4,fun t=>?_⟩ Q hq);rw [gT (cQ (ay.mp hd) hn)];unfold Ab.upd;by_cases ht:t=d
   ·subst ht;rw [if_pos rfl,cY];exact ap.2 rfl
   ·rw [if_neg ht]
    have:Nat.beq t d=false:=by
     cases hbb:Nat.beq t d with
     |false=>rfl
     |true=>exact absurd (bA hbb) ht
    rw [this];exact h50 t
  ·have hxs:∀j u,(arr.toList.take l.length)[j]? = some u→w.cell? ((⟨b,0,none⟩:Addr).add j)=some u:=fun j u hj=>by
    rw [cE,eB w b _ arr _ _ hb];rw [eE]at hj;split at hj
    ·simpa using hj
    ·cases hj
   have hrun:=Lib.run_append_grow_string (P:=P) w T U ty 5 i v hS.h hU.h hi hz ⟨b,0,none⟩ l.length c (arr.toList.take l.length) (by rw [aC,aN (xs:=arr),hsz];omega) hxs ⟨t.toArray⟩
    (by rw [hss];omega) (by rw [hss];omega) (growslice_fits (by rw [hss];omega) (by rw [hss,hbyt];omega))
   rw [hss]at hrun;rw [e0];simp only [Sem.run_bind,hrun,Result.andThen_ok,Sem.run_pure];have hge:=grownCap_ge w (l.length+t.length) c 5;have hle:=grownCap_le_maxLen w (l.length+t.length) c 5 (by simp only [maxLen];omega)
   have h:=k (lit (.slice (some ⟨w.heap.size,0,none⟩) (l.length+t.length) (grownCap w (l.length+t.length) c 5))) [(w.heap.size,5,bys (l++t)++List.replicate (grownCap w (l.length+t.length) c 5-(l++t).length) top)]
    (.inr ⟨hne',_,_,by rw [ac];exact hge,hle,by rw [ac],rfl⟩)
   unfold WPL at h
   have hst:=St.pushD (d:=d) (cs:=bys (l++t)++List.replicate (grownCap w (l.length+t.length) c 5-(l++t).length) top) (v := .slice (some ⟨w.heap.size,0,none⟩) (l.length+t.length) (grownCap w (l.length+t.length) c 5)) (T:=5)
    (arr:=(arr.toList.take l.length).toArray++(Lib.strCells ⟨t.toArray⟩).toArray++Builtin.zeroCells v.cells (grownCap w (l.length+t.length) c 5-(l.length+t.length))) (ay.mp hd) hs fun m h1 h2 _=>?_
   ·refine hK' _ _ (h _ _ ?_ Q hq);exact hst.drop (.there _ (.here _))
   ·simp only [fF,du];obtain⟨q1,_⟩:=(getc m h2).split;rw [mU]at q1;rw [tZ];refine(q1.append (qm t)).append (bk.topL ?_ (fL hfl));rw [aN,size_zeroCells,hvs,cB,ac]
theorem Oj {T te T':TypeId} [hp:TPt P T te]{x y:Operand}{a:Addr}(hi:(P.info? te).isSome=true) (hx:ev F x=lit (.pointer (some a))) (hy:ev F y=lit (.pointer (some a))):OpV P (.binOp .neq T x y T') ty F H (lit (.bool false)):=by
 obtain⟨j,hj⟩:=sW.1 hi;exact eH hx hy (fun w=>Lib.run_neq_ptr_same w a hp.h hj) (fun w=>by simp [Go.eqGuard])
theorem CF {m:Mem}{w:World}{b:Nat}{T:TypeId}{cs:List SV}(h:jt m w b T cs):w.shape? b=some (T,cs.length):=by
 obtain⟨arr,hb,hall⟩:=h;have:=hall.length;simp only [aN]at this;simp [World.shape?,hb,this]
theorem L8 {S D t T:TypeId} [hs:TPt P S t]{x:Operand}{b o:Nat}{cs:List SV}(hd:P.underlying D=some .unsafePointer) (ht:(P.info? t).any (fun j => !(j.size==0))=true) (hm:(b,T,cs)∈H) (ho:Nat.blt o cs.length=true)
  (hx:ev F x=lit (.pointer (some ⟨b,o,none⟩))):OpV P (.convert S D x) ty F H (lit (.pointer (some ⟨b,o,none⟩))) :=
 OpV.pure fun m w c a hop _ _ hH h=>by
  have h0:=h x (by simp [Op.operands]);rw [hx,ap]at h0;have hsh:=CF (hH.2 _ hm).2;cases hi:P.info? t with
  |none=>rw [hi]at ht;cases ht
  |some j =>
   rw [hi]at ht;have hj:j.size≠0:=by simpa using ht
   have:=Lib.run_to_unsafe (P:=P) w ⟨b,o,none⟩ hs.h hd hi hj hsh (ay.mp ho);exact⟨_,by simp [execOp,hop,h0,this],ap.2 rfl⟩
theorem Lf {S D u T:TypeId} [hd:TPt P D u]{x:Operand}{b o:Nat}{cs:List SV}(hs:P.underlying S=some .unsafePointer) (hu:(P.info? u).isSome=true) (hm:(b,T,cs)∈H) (hl:liesAt P P.depth T (cs.length/P.cellsOf T) o u 1=true)
  (hx:ev F x=lit (.pointer (some ⟨b,o,none⟩))):OpV P (.convert S D x) ty F H (lit (.pointer (some ⟨b,o,none⟩))) :=
 OpV.pure fun m w c a hop _ _ hH h=>by
  have h0:=h x (by simp [Op.operands]);rw [hx,ap]at h0;have hsh:=CF (hH.2 _ hm).2;obtain⟨j,hj⟩:=sW.1 hu;have:=Lib.run_from_unsafe (P:=P) w ⟨b,o,none⟩ hs hd.h hj hsh hl;exact⟨_,by simp [execOp,hop,h0,this],ap.2 rfl⟩
end
section
variable {F:Fr}{H:LH}{ty:TypeId}
theorem Lg {x:Operand}{s:SV}{tys:Array TypeId}(hx:ev F x=s):OpV Tryz.prog (.call ⟨.value (.func 298),[x].toArray,tys⟩) ty F H s :=
 OpV.pure fun m w o a ho _ _ _ h=>by
  have h0:=h x (by simp [Op.operands,Call.operands]);rw [hx]at h0;have h8:=@run_callFunc_extern Tryz.prog 298 _ Extern.AbiNoEscape.same Tryz.func298 kr kr kr kr;refine⟨_,?_,h0⟩;have:=h8 #[a.eval x] w;rw [Lib.run_noEscape]at this;simp only [execOp,ho,resolve,Sem.run_bind,Sem.run_pure,Result.andThen_ok];have e1:a.eval (.func 298) = .func (.func 298) #[] #[]:=rfl;simp only [e1,Deferred.ofValue,Sem.run_pure,Result.andThen_ok,invoke,iH,aD,iz,lF,nN,this]
end
abbrev wrC (a s:SV) (d:Nat) (lg:Bool):List SV:=[a,s,lit (.int .i64 (d:Int)),lit (.bool lg)]
abbrev vO (w:Nat):SV:=lit (.pointer (some ⟨w,0,none⟩))
abbrev wG:SV:=lit (.pointer none)
section
variable {P:Program}{C:Ctx}{n:Nat}{F:Fr}{H:LH}{ops:Array Oper}{K:Fr→LH→Prop}{rest:List Oper}{ty:TypeId}{pos:String}{aft:Array Edge}
theorem jv:ou P [] (Ab.tup []) F H:=⟨[],trivial,Le.refl _⟩
theorem WfH {f:FuncId}{d:Nat}{l:List Operand}{tys:Array TypeId}{svs:List SV}{Hin Rs:LH}{R:SV→LH→Prop}(hc:PuH P f svs Hin R noX) (k:∀res H',R res H'→WPL P C n ops rest K (upd F d res) (H'++Rs))
  (ha:l.map (ev F)=svs:=by exact rfl) (hs:Tk H Hin Rs:=by(repeat(first|exact Tk.nil _|exact Tk.same _|(apply Tk.cons;(first|exact(aq.here _)|exact(aq.there _ (aq.here _))|exact(aq.there _ (aq.there _ (aq.here _)))|exact(aq.there _ (aq.there _ (aq.there _ (aq.here _))))))|apply Tk.skip))) (hd:Nat.blt d n=true:=by exact rfl) :
  WPL P C n ops (⟨some d, .call ⟨.value (.func f),l.toArray,tys⟩,ty,pos,aft,none⟩::rest) K F H :=
 .perm hs.perm (.callH (s:=lit (.func (.func f) #[] #[])) (first:=[]) (caps:=[]) rfl hc (Spl.app _ _) (by rw [a8,bd];exact ha) hd (fun res H' h=>k res H' h) fun _ _ h=>h.elim)
end
theorem Ed (w:Nat) (s:SV) (d:Nat) (lg:Bool):PuH Tryz.prog 279 [lit (.pointer (some ⟨w,0,none⟩))] [(w,307,wrC wG s d lg)]
  (fun r H=>r=Ab.tup []∧H=[(w,307,wrC (vO w) s d lg)]) noX:=by
 refine PuH.intro Tryz.func279 rfl kr fun C hC=>?_
 refine A2 ⟨?_⟩;intros;refine Wo (L8 kr kr mmA kr rfl) ?_;refine Wo (Lg (s:=lit (.pointer (some ⟨w,0,none⟩))) rfl) ?_;refine Wo (Lf kr kr mmA kr rfl) ?_;refine A2 ⟨?_⟩;intros;exact gB _ _ jv Sr ⟨rfl,rfl⟩
theorem Ec (w:Nat) (s:SV) (d:Nat) (lg:Bool):PuH Tryz.prog 279 [lit (.pointer (some ⟨w,0,none⟩))] [(w,307,wrC (vO w) s d lg)]
  (fun r H=>r=Ab.tup []∧H=[(w,307,wrC (vO w) s d lg)]) noX:=by
 refine PuH.intro Tryz.func279 rfl kr fun C hC=>?_
 refine A2 ⟨?_⟩;intros;refine Wo (Oj kr rfl rfl) ?_;refine A2 ⟨?_⟩;intros;exact gB _ _ jv Sr ⟨rfl,rfl⟩
theorem Cd {a:SV}{w:Nat}(ha:a=wG∨a=vO w) (s:SV) (d:Nat) (lg:Bool):PuH Tryz.prog 279 [lit (.pointer (some ⟨w,0,none⟩))] [(w,307,wrC a s d lg)]
  (fun r H=>r=Ab.tup []∧H=[(w,307,wrC (vO w) s d lg)]) noX:=by
 rcases ha with rfl|rfl
 ·exact Ed w s d lg
 ·exact Ec w s d lg
theorem xP {a:SV}{w:Nat}(ha:a=wG∨a=vO w){l:List UInt8}{s:SV}{Hb:LH}(hb:Byt l s Hb) (t:List UInt8) (hl:l.length+t.length≤1000000000) (d:Nat) (lg:Bool) :
  PuH Tryz.prog 258 [lit (.pointer (some ⟨w,0,none⟩)),str t] ((w,307,wrC a s d lg)::Hb)
   (fun r H=>∃s' Hb',Byt (l++t) s' Hb'∧r=Ab.tup [lit (.int .i64 (t.length:Int)),lit .nilIface]∧H=(w,307,wrC (vO w) s' d lg)::Hb') noX:=by
 haveI:=hb.co
 refine PuH.intro Tryz.func258 rfl kr fun C hC=>?_
 refine A2 ⟨?_⟩;intros;refine WfH (Cd ha s d lg) ?_;rintro _ _ ⟨rfl,rfl⟩;simp only [ab,a8];refine A2 ⟨?_⟩;intros;refine WPL.appStr hb rfl rfl (aG (l₁:=[_])) hl ?_ rfl;intro s' Hb' hb';haveI:=hb'.co
 refine WPL.perm aG ?_;simp only [ab,a8];refine A2 ⟨?_⟩;intros;refine WPL.store (b:=w) (o:=1) (sv:=s') (cs':=wrC (vO w) s' d lg) rfl rfl rfl (.here _) rfl rfl ?_;refine A2 ⟨?_⟩;intros;exact ct _ _ (eJ (RV.tmp rfl) (RV.tmp rfl) Lr) Sr ⟨s',Hb',hb',rfl,rfl⟩
def mS (n:Nat):List UInt8:=if h:n=0 then []else UInt8.ofNat (48+n%10)::mS (n/10)
termination_by n
decreasing_by omega
theorem sw:mS 0=[]:=by rw [mS];rfl
theorem v8 {n:Nat}(h:n≠0):mS n=UInt8.ofNat (48+n%10)::mS (n/10):=by
 conv=>lhs;rw [mS]
 rw [dif_neg h]
def dec (n:Nat):List UInt8:=if n=0 then [48]else(mS n).reverse
section
variable {P:Program}{F:Fr}{H:LH}{ty:TypeId}
theorem Di {S D:TypeId} [hS:TSl P S 5] [hD:TSr P D]{x:Operand}{b c:Nat}{l:List UInt8}{rest:List SV}(hu:P.underlying 5=some (.int .u8)){cs:List SV}(hx:ev F x=lit (.slice (some ⟨b,0,none⟩) l.length c)) (hm:(b,5,cs)∈H) (hle:LeL cs (bys l++rest)):OpV P (.convert S D x) ty F H (str l) :=
 OpV.pure fun m w o a hop _ _ hH h=>by
  have h0:=h x (by simp [Op.operands]);rw [hx,ap]at h0;obtain⟨_,arr,hb,hall0⟩:=hH.2 _ hm;have hall:=bk.le hle hall0
  have hcell:∀j y,l[j]? = some y→w.cell? ((⟨b,0,none⟩:Addr).add j)=some (.int .u8 y.toNat):=fun j y hj=>by
   rw [cE,eB w b _ arr _ _ hb];have hjl:j<l.length:=(bI.1 hj).1
   have hg:(bys l++rest)[j]? = some (lit (.int .u8 (y.toNat:Nat))):=by
    rw [fD (by rw [mU];exact hjl)];simp [bys,hj]
   obtain⟨v,hv,hp,_⟩:=hall.get hg;rw [ap]at hp;subst hp;simpa using hv
  have:=run_convert_bytes_back (P:=P) w S D 5 ⟨b,0,none⟩ c l hS.h hu hD.h fun j hj=>hcell j l[j] (aA hj)
  exact⟨_,by simp [execOp,hop,h0,this],ap.2 rfl⟩
end
theorem HN:∀(k n:Nat),n<10^k→(mS n).length≤k
 |0,n,h=>by
  have:n=0:=by simpa using h
  subst this;rw [sw];simp
 |k+1,n,h=>by
  by_cases hn:n=0
  ·subst hn;rw [sw];simp
  ·rw [v8 hn,aF];have:=HN k (n/10) (by rw [bR]at h;omega);omega
theorem E9 {n L:Nat}(h:(dgs n).length≤L):(mS n).length≤10*L:=by
 apply HN;have h1:=o5 n;have h2:4294967296^(dgs n).length≤(10^10)^L:=aU (gN om h) (Nat.pow_le_pow_left om L);rw [←nO]at h2;omega
def fmt (x:Rat):List UInt8:=(if x.num<0 then [45]++dec x.num.natAbs else dec x.num.natAbs)++(if x.den=1 then []else [47]++dec x.den)
theorem v7 {n L:Nat}(h:(dgs n).length≤L):(dec n).length≤10*L+1:=by
 unfold dec;split
 ·simp
 ·rw [List.length_reverse];have:=E9 h;omega
theorem sj {x:Rat}{L:Nat}(hx:ht x≤L):(fmt x).length≤20*L+4∧1≤(fmt x).length:=by
 have n1:=ef x;have n2:=eh x;have l1:=v7 (n:=x.num.natAbs) (L:=L) (show il x.num≤L by omega);have l2:=v7 (n:=x.den) (L:=L) om
 have p:∀n,1≤(dec n).length:=fun n=>by
  unfold dec;split
  ·simp
  ·rename_i h;rw [v8 h];simp
 have p1:=p x.num.natAbs;unfold fmt;split <;> split <;> simp <;> omega
theorem BL {xs:List Nat}(hD:D xs) (h:nrm xs=true):xs=dgs (val xs):=by
 rw [←qY hD];rcases List.eq_nil_or_concat xs with e|⟨ys,y,e⟩
 ·subst e;rfl
 ·rw [List.concat_eq_append]at e;subst e
  have hy:y≠0:=by
   unfold nrm at h;simp at h;exact h
  rw [k8 ys y hy]
def je (r:RQ):Bool:=decide (r.s=decide (r.v.num<0)∧r.n=dgs r.v.num.natAbs∧r.d=dgs r.v.den)
theorem Rk {r:RQ}(h:je r=true):qr r=q r.v:=by
 obtain⟨h1,h2,h3⟩:=fS h;show ag [lit (.bool r.s),dg r.n,dg r.d]=ag [lit (.bool (decide (r.v.num<0))),nat r.v.num.natAbs,nat r.v.den]
 rw [←h1,nat,←h2,nat,←h3]
theorem OR {r:RQ}(h1:D r.n) (h2:D r.d):je r=(BM r.s r.n&&nrm r.d&&decide (r.d.length≠0)&&decide (Nat.gcd (val r.n) (val r.d)=1)):=by
 apply kA.2;constructor
 ·intro h;obtain⟨a1,a2,a3⟩:=fS h;have e1:BM r.s r.n=true:=by rw [a1,a2];exact Du _
  have e2:nrm r.d=true:=by rw [a3];exact H5 _
  have e3:r.d.length≠0:=by rw [a3];exact lV r.v.den_nz
  have e4:Nat.gcd (val r.n) (val r.d)=1:=by rw [a2,a3,aK,aK];exact r.v.reduced
  rw [e1,e2,a9 e3,a9 e4];rfl
 ·intro h;simp only [bG,cC]at h;obtain⟨⟨⟨e1,e2⟩,e3⟩,e4⟩:=h
  have hs:nrm r.n=true∧(r.s=true→0<r.n.length):=by
   unfold BM at e1;simp only [bG,bO,fw,cC]at e1;refine⟨e1.1,fun h=>?_⟩;rcases e1.2 with h'|h'
   ·rw [h]at h';cases h'
   ·exact h'
  have b1:=BL h1 hs.1;have b2:=BL h2 e2;have hd:val r.d≠0:=fun e=>by rw [e,bW]at b2;rw [b2]at e3;exact e3 rfl
  have hv:r.v.num=sv r.s (val r.n)∧r.v.den=val r.d:=by
   have:=LQ r.s (val r.n) hd;rw [e4,kF,kF]at this;exact this
  unfold je;rw [hv.1,hv.2,l7,←b1,←b2,K9];refine a9 ⟨?_,rfl,rfl⟩;cases hrs:r.s with
  |false=>rfl
  |true =>
   have hp:=hs.2 hrs;have:0<val r.n:=f9 fun e=>by rw [e,bW]at b1;rw [b1]at hp;simp at hp
   simp [this]
theorem N7 {n:Nat}:f5 n=1↔n=1:=by
 have h0:=N9 (n:=n);have h1:=Qv (n:=n);omega
theorem FN {r:RQ}{L:Nat}(h:r.ok L) (hL:L≤1000000):Pu Tryz.prog 321 [qr r] (lit (.bool (je r))):=by
 obtain⟨h1,h2,h3,h4⟩:=h;rw [OR h1 h2];have c1:=uN r.s r.n om;have c2:=uH r.d om;cases e1:BM r.s r.n with
 |false =>
  rw [e1]at c1;refine Pi Tryz.func321 fun C=>?_
  exact Y1 c1
 |true =>
  rw [e1]at c1;cases e2:nrm r.d with
  |false =>
   rw [e2]at c2;refine Pi Tryz.func321 fun C=>?_
   exact Y2 c1 c2
  |true =>
   rw [e2]at c2;by_cases e3:r.d.length=0
   ·rw [aa (p:=r.d.length≠0) (fun h=>h e3)];refine Pi Tryz.func321 fun C=>?_
    exact Y2 c1 c2
   ·rw [a9 (p:=r.d.length≠0) e3]
    have hn:nrm r.n=true:=by
     unfold BM at e1;simp only [bG]at e1;exact e1.1
    have b1:=BL h1 hn;have b2:=BL h2 e2;have c3:=Qp (val r.n) (val r.d) (by rw [←b1];omega) (by rw [←b2];omega);rw [nat,nat,←b1,←b2]at c3;have hg:=mr (a:=val r.n) (b:=val r.d) (n:=L) (by rw [←b1];omega) (by rw [←b2];omega);have c4:=jf (dgs (Nat.gcd (val r.n) (val r.d))) om (cu _);rw [aK]at c4;have hb:=N7 (n:=Nat.gcd (val r.n) (val r.d));clear b1 b2 hn e1 e2;by_cases hg1:Nat.gcd (val r.n) (val r.d)=1
    ·have hbl:=hb.2 hg1;rw [a9 hg1];clear hb;rw [hbl]at c4;generalize Nat.gcd (val r.n) (val r.d)=g at *;clear hbl;refine Pi Tryz.func321 fun C=>?_
     refine D4 c1 c2 c3 c4 ⟨?_⟩;intros;exact E1
    ·have hbl:f5 (Nat.gcd (val r.n) (val r.d))≠1:=fun e=>hg1 (hb.1 e)
     rw [aa hg1];clear hb;generalize f5 (Nat.gcd (val r.n) (val r.d))=bl at *;refine Pi Tryz.func321 fun C=>?_
     refine D4 c1 c2 c3 c4 ⟨?_⟩;intros;exact E1
abbrev apx (p:Pq):List SV:=[lit (.bool (decide (p.1.num<0))),nat p.1.num.natAbs,nat p.1.den,lit (.bool (decide (p.2.num<0))),nat p.2.num.natAbs,nat p.2.den]
abbrev aps (l:List Pq):SV:=sl (l.map apx).flatten l.length
structure Tf where
 k:Nat
 s:SV
 Hs:LH
theorem jm {α β:Type}{f:α→List β}{l:List α}{k:Nat}{a:α}(h:l[k]? = some a):((l.take (k+1)).map f).flatten=((l.take k).map f).flatten++f a:=by
 rw [ji h,aH,cH];simp
theorem NF (l:List Pq) (hl:l.length≤100000) (hh:∀p∈l,ht p.1≤100000000∧ht p.2≤100000000):Pu Tryz.prog 115 [rps l] (aps l):=by
 refine Pi Tryz.func115 fun C=>?_
 refine A2 ⟨?_⟩;intros
 refine WP.loopS (ι:=Tf) (fun y=>y.k≤l.length∧Own 66 6 y.k ((l.take y.k).map apx).flatten y.s y.Hs) (fun y=>l.length-y.k) (fun y=>fm [(3,y.s),(6,rps l),(7,lit (.int .i64 l.length)),(8,lit (.int .i64 y.k))]) (fun y=>y.Hs) ⟨0,lit (.slice none 0 0),[]⟩
  ⟨an _,Own.nil _ _⟩ lfA (av _) ?_
 rintro ⟨k,s,Hs⟩ ⟨hk,hown⟩ K hK;simp only at hk hown⊢;have hco:=hown.co;by_cases hkl:k<l.length
 ·have hget:=aA hkl;generalize l[k]=p at hget;obtain⟨h1,h2⟩:=hh p (bn hget);have hat:=fV (f:=rpx) (n:=6) fq hget;have hne:(l.map rpx).flatten≠[]:=gA fq om (fun e=>by rw [e]at hkl;simp at hkl);have c:=Ev p.1 p.2 h1 h2;have hgo:=fun s' Hs' h F' H'=>hK F' H' ⟨k+1,s',Hs'⟩ ⟨by simp only;omega,h⟩ (by simp only;omega)
  simp only [jm hget]at hgo;clear hK hh;refine A2 ⟨?_⟩;intros;refine Wo (ae (cs':=rpx p) rfl rfl om om hat hne) ?_;refine D1 c ⟨?_⟩;intros;refine ot hown om (fun s2 H2 hown'=>?_);have hco2:=hown'.co;replace hgo:=hgo s2 H2 hown';simp only [ab,a8];clear hown hown';refine A2 ⟨?_⟩;intros;exact hgo _ _ lfA Sq
 ·have hke:k=l.length:=by omega
  subst hke;rw [aP]at hown;refine WP.rowS 3 hown rfl (by rw [bd]) ?_;clear hK hown;refine A2 ⟨?_⟩;intros;exact cV (bJ (RV.tmp rfl) Lr)
abbrev QQ (ps:List (RQ×RQ)):SV:=sl (ps.map vU).flatten ps.length
abbrev rvl (p:RQ×RQ):Pq:=(p.1.v,p.2.v)
theorem QU (ps:List (RQ×RQ)){L:Nat}(hl:ps.length≤100000) (hh:∀p∈ps,p.1.ok L∧p.2.ok L) (hL:L≤1000000):Pu Tryz.prog 113 [QQ ps] (rps (ps.map rvl)):=by
 refine Pi Tryz.func113 fun C=>?_
 refine A2 ⟨?_⟩;intros
 refine WP.loopS (ι:=Tf) (fun y=>y.k≤ps.length∧Own 89 6 y.k ((ps.take y.k).map fun p=>rpx (rvl p)).flatten y.s y.Hs) (fun y=>ps.length-y.k) (fun y=>fm [(3,y.s),(6,QQ ps),(7,lit (.int .i64 ps.length)),(8,lit (.int .i64 y.k))]) (fun y=>y.Hs) ⟨0,lit (.slice none 0 0),[]⟩
  ⟨an _,Own.nil _ _⟩ lfA (av _) ?_
 rintro ⟨k,s,Hs⟩ ⟨hk,hown⟩ K hK;simp only at hk hown⊢;have hco:=hown.co;by_cases hkl:k<ps.length
 ·have hget:=aA hkl;generalize ps[k]=p at hget;obtain⟨h1,h2⟩:=hh p (bn hget);have hat:=fV (f:=vU) (n:=6) yk hget;have hne:(ps.map vU).flatten≠[]:=gA yk om (fun e=>by rw [e]at hkl;simp at hkl);have c:=KW h1 h2 hL;have hgo:=fun s' Hs' h F' H'=>hK F' H' ⟨k+1,s',Hs'⟩ ⟨by simp only;omega,h⟩ (by simp only;omega)
  simp only [jm hget]at hgo;clear hK hh;refine A2 ⟨?_⟩;intros;refine Wo (ae (cs':=vU p) rfl rfl om om hat hne) ?_;refine D1 c ⟨?_⟩;intros;refine ot hown om (fun s2 H2 hown'=>?_);have hco2:=hown'.co;replace hgo:=hgo s2 H2 hown';simp only [ab,a8];clear hown hown';refine A2 ⟨?_⟩;intros;exact hgo _ _ lfA Sq
 ·have hke:k=ps.length:=by omega
  subst hke;rw [aP]at hown
  have e:rps (ps.map rvl)=sl ((ps.map fun p=>rpx (rvl p)).flatten) ps.length:=by
   show sl ((ps.map rvl).map rpx).flatten (ps.map rvl).length=_
   rw [p7,cK];rfl
  rw [e];refine WP.rowS 3 hown rfl (by rw [bd]) ?_;clear hK hown;refine A2 ⟨?_⟩;intros;exact cV (bJ (RV.tmp rfl) Lr)
theorem GE {a:SV}{w b:Nat}(ha:a=wG∨a=vO w){l:List UInt8}{s:SV}{Hb:LH}(hb:Byt l s Hb) (t:List UInt8) (hl:l.length+t.length≤1000000000) (d:Nat) (lg:Bool) :
  PuH Tryz.prog 217 [lit (.pointer (some ⟨w,0,none⟩)),lit (.slice (some ⟨b,0,none⟩) 1 1)] ((b,9,[str t])::(w,307,wrC a s d lg)::Hb)
   (fun r H=>∃s' Hb',Byt (l++t) s' Hb'∧r=Ab.tup []∧H=(w,307,wrC (vO w) s' d lg)::Hb') noX:=by
 refine PuH.intro Tryz.func217 rfl kr fun C hC=>?_
 refine A2 ⟨?_⟩;intros;refine WP.unroll 2 ?_;refine WPR.succ ?_;refine A2 ⟨?_⟩;intros;refine WfT (xP ha hb t hl d lg) ?_;rintro _ _ ⟨s',Hb',hb',rfl,rfl⟩;simp only [ab,a8];refine A2 ⟨?_⟩;intros;exact gB _ _ jv (Sc Sr) ⟨s',Hb',hb',rfl,rfl⟩
abbrev inval:SV:=lit (.iface 300 (.agg #[]))
theorem M0:Le (ifc 300 (ag [])) inval:=fun m v h=>by
 unfold ifc at h;obtain⟨u,rfl,hu⟩:=h;unfold ag at hu;obtain⟨arr,rfl,hall⟩:=hu;rw [ap];cases arr with
 |mk l=>cases l with
  |nil=>rfl
  |cons _ _=>exact hall.elim
theorem OV (b:Bool):PuH Tryz.prog 214 [lit (.bool b)] [] (fun r H=>b=true∧r=Ab.tup []∧H=[]) (fun pv H=>b=false∧pv=inval∧H=[]):=by
 cases b with
 |true =>
  refine PuH.intro Tryz.func214 rfl kr fun C hC=>?_
  refine A2 ⟨?_⟩;intros;exact gB _ _ jv Sr ⟨rfl,rfl,rfl⟩
 |false =>
  refine PuH.intro Tryz.func214 rfl kr fun C hC=>?_
  refine A2 ⟨?_⟩;intros;refine WPL.low 5 rfl M0 ?_;refine TP ?_;rw [hC];exact⟨rfl,rfl,rfl⟩
section
variable {P:Program}{C:Ctx}{n:Nat}{F:Fr}{H:LH}{ops:Array Oper}{K:Fr→LH→Prop}{rest:List Oper}{ty:TypeId}{pos:String}{aft:Array Edge}
theorem WfX {f:FuncId}{d:Nat}{l:List Operand}{tys:Array TypeId}{svs:List SV}{Hin Rs:LH}{R X:SV→LH→Prop}(hc:PuH P f svs Hin R X) (k:∀res H',R res H'→WPL P C n ops rest K (upd F d res) (Rs++H')) (kx:∀pv H',X pv H'→C.pan pv (H'++Rs))
  (ha:l.map (ev F)=svs:=by exact rfl) (hs:Tk H Hin Rs:=by(repeat(first|exact Tk.nil _|exact Tk.same _|(apply Tk.cons;(first|exact(aq.here _)|exact(aq.there _ (aq.here _))|exact(aq.there _ (aq.there _ (aq.here _)))|exact(aq.there _ (aq.there _ (aq.there _ (aq.here _))))|exact(aq.there _ (aq.there _ (aq.there _ (aq.there _ (aq.here _)))))))|apply Tk.skip))) (hd:Nat.blt d n=true:=by exact rfl) :
  WPL P C n ops (⟨some d, .call ⟨.value (.func f),l.toArray,tys⟩,ty,pos,aft,none⟩::rest) K F H :=
 .perm hs.perm (.callH (s:=lit (.func (.func f) #[] #[])) (first:=[]) (caps:=[]) rfl hc (Spl.app _ _) (by rw [a8,bd];exact ha) hd (fun res H' h => .perm aG (k res H' h)) fun pv H' h=>kx pv H' h)
end
theorem QA {C:Ctx}{n:Nat}{F:Fr}{H:LH}{ops:Array Oper}{K:Fr→LH→Prop}{rest:List Oper}{ty:TypeId}{pos:String}{aft:Array Edge}{d:Nat}{x:Operand}{tys:Array TypeId}{b:Bool}
  (h1:b=true→WPL Tryz.prog C n ops rest K (upd F d (Ab.tup [])) H) (h2:b=false→C.pan inval H) (hx:ev F x=lit (.bool b):=by exact rfl) (hd:Nat.blt d n=true:=by exact rfl) :
  WPL Tryz.prog C n ops (⟨some d, .call ⟨.value (.func 214),[x].toArray,tys⟩,ty,pos,aft,none⟩::rest) K F H:=by
 refine WfX (OV b) (Rs:=H) (fun res H' h=>?_) (fun pv H' h=>?_) (by rw [←hx];rfl) (.nil _) hd
 ·obtain⟨hb,rfl,rfl⟩:=h;rw [bd];exact h1 hb
 ·obtain⟨hb,rfl,rfl⟩:=h;rw [a8];exact h2 hb
theorem dR {C:Ctx}{n:Nat}{F:Fr}{H:LH}{ops:Array Oper}{K:Fr→LH→Prop}{rest:List Oper}{ty:TypeId}{pos:String}{aft:Array Edge}{d:Nat}{x:Operand}{tys:Array TypeId}
  (h1:WPL Tryz.prog C n ops rest K (upd F d (Ab.tup [])) H) (hx:ev F x=lit (.bool true):=by exact rfl) (hd:Nat.blt d n=true:=by exact rfl) :
  WPL Tryz.prog C n ops (⟨some d, .call ⟨.value (.func 214),[x].toArray,tys⟩,ty,pos,aft,none⟩::rest) K F H:=QA (fun _=>h1) (fun h=>by cases h) hx hd
theorem dr {C:Ctx}{n:Nat}{F:Fr}{H:LH}{ops:Array Oper}{K:Fr→LH→Prop}{rest:List Oper}{ty:TypeId}{pos:String}{aft:Array Edge}{d:Nat}{x:Operand}{tys:Array TypeId}
  (h2:C.pan inval H) (hx:ev F x=lit (.bool false):=by exact rfl) (hd:Nat.blt d n=true:=by exact rfl) :
  WPL Tryz.prog C n ops (⟨some d, .call ⟨.value (.func 214),[x].toArray,tys⟩,ty,pos,aft,none⟩::rest) K F H:=QA (fun h=>by cases h) (fun _=>h2) hx hd
end Go.Ab
