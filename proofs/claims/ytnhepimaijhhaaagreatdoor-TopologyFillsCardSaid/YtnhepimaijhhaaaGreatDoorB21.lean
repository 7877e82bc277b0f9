/- Texts laid one behind the other: PBs, PClip, Set. -/
import Derived.Test.YtnhepimaijhhaaaGreatDoorB20
set_option linter.all false
set_option maxHeartbeats 16000000
namespace Go.Ab
open Go.Proofs
variable [Base]
section
variable {P:Program}{F:Fr}{H:LH}{ty:TypeId}
theorem eD {x:Operand}{f:FuncId}{l:List Operand}{tys:Array TypeId}{svs:List SV}{res:SV}(hx:ev F x=lit (.func (.func f) #[] #[])) (hc:Pu P f svs res) (ha:l.map (ev F)=svs) :
  OpV P (.call ⟨.value x,l.toArray,tys⟩) ty F H res:=by
 unfold Pu at hc;refine OpV.of0 ?_;intro m w o a ho hty h1 h2 h3 K Q hK;have hargs:=nD (m:=m) (a:=a) l fun x hx=>evA h3 (by simp [Op.operands,Call.operands,hx])
 rw [ha]at hargs;have hxv:=evA (x:=x) h3 (by simp [Op.operands,Call.operands]);rw [hx,ae]at hxv;have hcall:=hc.2 m w _ h1 hargs;unfold Oper.wp
 have hrun:(execOp a.eval o).run P w = .ok (.enter f (l.map a.eval).toArray) w:=by
  simp [execOp,ho,resolve,hxv,Deferred.ofValue,invoke,gc hc.1]
 rw [hrun];refine Calls.mono hcall ?_;rintro e w' ⟨v,m',rfl,hp,hm',hr⟩;exact hK v m' w' hp hm' hr
end
def iB (p:Nat→Bool):Nat→Nat→Nat→Nat
 |0,i,_=>i
 |f+1,i,j=>if i<j then(if p ((i+j)/2)then iB p f ((i+j)/2+1) j else iB p f i ((i+j)/2))else i
def ak (l:Li) (c:PC):Nat:=iB (fun k=>decide (qi (aK ((c.getD k (⟨0,0,0⟩,Spn.none)).1)) (aK l)<0)) (c.length+1) 0 c.length
theorem qh (p:Nat→Bool):∀(f i j n:Nat),i≤j→j≤n→iB p f i j≤n
 |0,i,j,n,h,k=>by unfold iB;omega
 |f+1,i,j,n,h,k=>by
  unfold iB;split
  ·split
   ·exact qh p f _ _ n om k
   ·exact qh p f _ _ n om om
  ·omega
theorem jv (p:Nat→Bool):∀(f g i j:Nat),j-i<f→j-i<g→iB p f i j=iB p g i j
 |0,_,_,_,h,_=>by omega
 |_,0,_,_,_,h=>by omega
 |f+1,g+1,i,j,h,k=>by
  unfold iB;split
  ·split
   ·exact jv p f g _ _ om om
   ·exact jv p f g _ _ om om
  ·rfl
abbrev Km:Value := .func (.func 209) #[] #[]
theorem M0 {c:PC}{l:Li}{L:Nat}(hc:∀s∈c,s.1.le L) (hl:l.le L) (h1:1≤L) (hU:L≤10000) (hn:c.length≤1000000) (b cap:Nat) (tl:List SV) :
  PuH Tryz.prog 208 [lit (.slice (some ⟨b,0,none⟩) c.length cap),lfl l,lit Km] [(b,frT,(c.map fgx).flatten++tl)]
   (fun res H=>(∃fb,res=tup [lit (.int .i64 (ak l c:Nat)),lit (.bool fb)])∧H=[(b,frT,(c.map fgx).flatten++tl)]) noX:=by
 refine PuH.intro Tryz.func208 rfl kr fun C hC=>?_
 repeat(refine A1 ⟨?_⟩;intros)
 rename_i b4
 refine WP.loopS (ι:=Nat×Nat) (fun st=>st.1≤st.2∧st.2≤c.length∧iB (fun k=>decide (qi (aK ((c.getD k (⟨0,0,0⟩,Spn.none)).1)) (aK l)<0)) (c.length+1) st.1 st.2=ak l c) (fun st=>st.2-st.1)
  (fun st=>fm [(0,lit (.slice (some ⟨b,0,none⟩) c.length cap)),(2,lit Km),(4,lit (.pointer (some ⟨b4,0,none⟩))),(8,lit (.int .i64 c.length)),(9,lit (.int .i64 st.1)),(10,lit (.int .i64 st.2))])
  (fun _=>[(b4,138,lfc l.a l.b l.c),(b,frT,(c.map fgx).flatten++tl)]) (0,c.length) ⟨Nat.zero_le _,Nat.le_refl _,rfl⟩ lfA Sr ?_
 rintro ⟨i,j⟩ ⟨hij,hj,hb⟩ K hK;simp only at hij hj hb⊢;by_cases hlt:i<j
 ·have hh:IntKind.i64.wrap (((i:Int)+(j:Int)).fdiv (2^min (Int.toNat 1) IntKind.u64.bits))=(((i+j)/2:Nat):Int):=by
   show IntKind.i64.wrap (((i:Int)+(j:Int)).fdiv 2)=_
   rw [Int.fdiv_eq_ediv_of_nonneg _ om];simp only [IntKind.wrap,IntKind.bits,IntKind.signed,Bool.true_and];have h1:¬(9223372036854775808:Int)≤((i:Int)+j)/2%18446744073709551616:=by omega
   simp [h1];omega
  obtain⟨s,hget,hmem,hat,hne⟩:=elt f8 om (show(i+j)/2<c.length by omega)
  have hat2:(((c.map fgx).flatten++tl).drop (0+(i+j)/2*17)).take 17=fgx s:=by
   have hfl:=cT f8 c;have hle:(i+j)/2*17+17≤c.length*17:=by omega
   rw [Nat.zero_add,List.drop_append_of_le_length om,List.take_append_of_le_length (by rw [List.length_drop];omega)];exact hat
  have hgd:c.getD ((i+j)/2) (⟨0,0,0⟩,Spn.none)=s:=by rw [List.getD_eq_getElem?_getD,hget];rfl
  have d1:=zi (hc s hmem) hl h1 hU;unfold iB at hb;rw [if_pos hlt]at hb;simp only [hgd]at hb;by_cases hz:qi (aK s.1) (aK l)<0
  ·rw [if_pos (decide_eq_true hz),jv _ _ (c.length+1) _ _ om om]at hb;have hgo:=fun F' H'=>hK F' H' ((i+j)/2+1,j) ⟨by simp only;omega,hj,hb⟩ (by simp only;omega)
   clear hK hb hat hgd hc hl;generalize qi (aK s.1) (aK l)=z at *;repeat(refine A1 ⟨?_⟩;intros)
   rw [hh];generalize hq:(i+j)/2=q at *
   have hh2:(IntKind.i64.wrap (((i:Int)+(j:Int)).fdiv (2^min 1 IntKind.u64.bits))).toNat=q:=by
    have e:IntKind.i64.wrap (((i:Int)+(j:Int)).fdiv (2^min 1 IntKind.u64.bits))=(q:Int):=hh;rw [e,Int.toNat_natCast]
   clear hh;refine Wdo (f7 (cs':=fgx s) rfl (Mc Ms) (by rw [hh2,←Nat.zero_add (q*17)];exact hat2) rfl) ?_;repeat(first|(refine A1 ⟨?_⟩;intros)|(refine Wo (eD rfl d1 rfl) ?_)|(refine Wdo (eD rfl d1 rfl) ?_)|(refine Wog (eD rfl d1 rfl) ?_)|(refine bH (eD rfl d1 rfl) ?_))
   exact hgo _ _ lfA Sr
  ·rw [if_neg (by simpa using hz),jv _ _ (c.length+1) _ _ om om]at hb;have hgo:=fun F' H'=>hK F' H' (i,(i+j)/2) ⟨by simp only;omega,by simp only;omega,hb⟩ (by simp only;omega)
   clear hK hb hat hgd hc hl;generalize qi (aK s.1) (aK l)=z at *;repeat(refine A1 ⟨?_⟩;intros)
   rw [hh];generalize hq:(i+j)/2=q at *
   have hh2:(IntKind.i64.wrap (((i:Int)+(j:Int)).fdiv (2^min 1 IntKind.u64.bits))).toNat=q:=by
    have e:IntKind.i64.wrap (((i:Int)+(j:Int)).fdiv (2^min 1 IntKind.u64.bits))=(q:Int):=hh;rw [e,Int.toNat_natCast]
   clear hh;refine Wdo (f7 (cs':=fgx s) rfl (Mc Ms) (by rw [hh2,←Nat.zero_add (q*17)];exact hat2) rfl) ?_;repeat(first|(refine A1 ⟨?_⟩;intros)|(refine Wo (eD rfl d1 rfl) ?_)|(refine Wdo (eD rfl d1 rfl) ?_)|(refine Wog (eD rfl d1 rfl) ?_)|(refine bH (eD rfl d1 rfl) ?_))
   exact hgo _ _ lfA Sr
 ·have hbi:i=ak l c:=by
   unfold iB at hb;rw [if_neg hlt]at hb;exact hb
  rw [←hbi];clear hb hK hbi;by_cases hin:i<c.length
  ·obtain⟨s,hget,hmem,hat,hne⟩:=elt f8 om hin
   have hat2:(((c.map fgx).flatten++tl).drop (0+i*17)).take 17=fgx s:=by
    have hfl:=cT f8 c;have hle:i*17+17≤c.length*17:=by omega
    rw [Nat.zero_add,List.drop_append_of_le_length om,List.take_append_of_le_length (by rw [List.length_drop];omega)];exact hat
   have d1:=zi (hc s hmem) hl h1 hU;clear hc hl hat;generalize qi (aK s.1) (aK l)=z at *;repeat(first|(refine A1 ⟨?_⟩;intros)|(refine Wo (f7 (cs':=fgx s) rfl (Mc Ms) hat2 rfl) ?_)|(refine Wdo (f7 (cs':=fgx s) rfl (Mc Ms) hat2 rfl) ?_)|(refine Wog (f7 (cs':=fgx s) rfl (Mc Ms) hat2 rfl) ?_)|(refine bH (f7 (cs':=fgx s) rfl (Mc Ms) hat2 rfl) ?_)|(refine Wo (eD rfl d1 rfl) ?_)|(refine Wdo (eD rfl d1 rfl) ?_)|(refine Wog (eD rfl d1 rfl) ?_)|(refine bH (eD rfl d1 rfl) ?_))
   exact cH _ _ (fQ (RV.tmp rfl) (RV.tmp rfl) Lr) (Sc Sr) ⟨⟨_,rfl⟩,rfl⟩
  ·clear hc hl;repeat(refine A1 ⟨?_⟩;intros)
   exact cH _ _ (fQ (RV.tmp rfl) (RV.tmp rfl) Lr) (Sc Sr) ⟨⟨_,rfl⟩,rfl⟩
theorem Hp (l:Li) (c:PC):ak l c≤c.length:=qh _ _ _ _ _ (Nat.zero_le _) (Nat.le_refl _)
theorem F7 {m:Mem}{arr:Array Value}{b:Nat}{T:TypeId}{cs tl:List SV}{n c:Nat}(hm:m b=some (.cells arr T (0,0))) (ha:av m (cs++tl) arr.toList) (h1:n≤c) (h2:c≤maxLen):(sl cs n).p m (.slice (some ⟨b,0,none⟩) n c):=by
 refine fj h1 h2 (.inr ⟨b,0,rfl,arr,T,(0,0),hm,?_⟩);rw [List.drop_zero];exact ha.split.1
theorem Dj {c:PC}{l:Li}{k:Nat}{s:Fg}(h:c[k]? = some s):dk (c.take (k+1)) l=dk (c.take k) l++((ej s.1 s.2 l).map fun w=>(s.1,w)).toList:=by
 unfold dk;rw [bV h,List.filterMap_append,List.filterMap_cons,List.filterMap_nil];cases ej s.1 s.2 l <;> rfl
theorem td (c:PC) (l:Li):(dk c l).length≤c.length:=List.length_filterMap_le ..
theorem Ck {c:PC}{l:Li}{L:Nat}(hc:∀s∈c,s.1.le L∧s.2.le (50*L)) (hl:l.le L) (h1:1≤L) (hU:L≤500) (hn:c.length≤100000) :
  Pu Tryz.prog 181 [pcs c,lfl l] (Ab.tup [pcs (aG (ak l) c l).1,lit (.bool (aG (ak l) c l).2)]):=by
 have c0:=z9 (fun s hs=>(hc s hs).1) hl h1 om om;have c1:=DL hc hl h1 hU om;unfold aG;cases hp:iC c l with
 |none =>
  rw [hp]at c0;simp only [Option.isSome_none]at c0;simp only;clear hc hl;generalize Option.none.getD Spn.none=w at *;generalize jC c l=z at *;by_cases hz:0<z
  ·rw [decide_eq_true hz];refine Pi Tryz.func181 fun C=>?_
   repeat(first|(refine A1 ⟨?_⟩;intros)|refine W4 c0 ⟨?_⟩|refine W4 c1 ⟨?_⟩)
   exact G2
  ·rw [decide_eq_false hz];refine Pi Tryz.func181 fun C=>?_
   repeat(first|(refine A1 ⟨?_⟩;intros)|refine W4 c0 ⟨?_⟩|refine W4 c1 ⟨?_⟩)
   exact G2
 |some v =>
  rw [hp]at c0;simp only [Option.isSome_some,Option.getD_some]at c0;simp only;clear c1;refine PuH.toPu ?_;refine PuH.intro Tryz.func181 rfl kr fun C hC=>?_
  repeat(first|(refine A1 ⟨?_⟩;intros)|refine W4 c0 ⟨?_⟩)
  rename_i b3 b6;refine WPL.makeR (c:=c.length+1) rfl rfl om om om rfl fun b8=>?_
  repeat(refine A1 ⟨?_⟩;intros)
  refine WP.loopS (ι:=Nat) (fun k=>k≤c.length) (fun k=>c.length-k)
   (fun k=>fm [(3,lit (.pointer (some ⟨b3,0,none⟩))),(6,lit (.pointer (some ⟨b6,0,none⟩))),(8,lit (.slice (some ⟨b8,0,none⟩) (dk (c.take k) l).length (c.length+1))),(32,pcs c),(33,lit (.int .i64 c.length)),(34,lit (.int .i64 k))])
   (fun k=>[(b8,frT,((dk (c.take k) l).map fgx).flatten++List.replicate ((c.length+1)*17-(dk (c.take k) l).length*17) top),(b6,195,ivx v),(b3,138,lfc l.a l.b l.c)]) 0 (Nat.zero_le _) lfA Sr ?_
  rintro k hk K hK;have hkl2:=td (c.take k) l;rw [List.length_take]at hkl2;by_cases hkl:k<c.length
  ·obtain⟨s,hget,hmem,hat,hne⟩:=elt f8 om hkl;obtain⟨k1,k2⟩:=hc s hmem;have d1:=BM (l:=s.1) (m:=l) (v:=s.2) k1 hl h1 om k2;have hkt:=Dj (l:=l) hget;rw [AL]at hkt;have hgo:=fun F' H'=>hK F' H' (k+1) om om
   have hfl:=cT f8 (dk (c.take k) l);generalize dk (c.take k) l=d at *;generalize dk (c.take (k+1)) l=d' at *;clear hK hc hl c0;cases hb:(lg s.1 s.2 l).2 with
   |true =>
    rw [hb]at d1 hkt;generalize(lg s.1 s.2 l).1=w at *;simp only [if_true,Option.map_some,Option.toList_some]at hkt;subst hkt;repeat(refine A1 ⟨?_⟩;intros)
    refine Wo (a7 (cs':=fgx s) rfl rfl om om hat hne) ?_;repeat(first|(refine A1 ⟨?_⟩;intros)|(refine Wo (bJ rfl rfl kr rfl) ?_)|(refine Wdo (bJ rfl rfl kr rfl) ?_)|refine W4 d1 ⟨?_⟩)
    have hdl:d.length+1≤c.length+1:=by omega
    refine WPL.appIn (cs:=(d.map fgx).flatten) (tl:=List.replicate ((c.length+1)*17-d.length*17) top) (ds:=fgx (s.1,w)) rfl rfl hfl (List.length_replicate ..) hdl (.there _ (.there _ (.there _ (.here _)))) List.mem_cons_self rfl ?_ rfl
    have hce:((d++[(s.1,w)]).map fgx).flatten++List.replicate ((c.length+1)*17-(d++[(s.1,w)]).length*17) top=((d.map fgx).flatten++fgx (s.1,w))++(List.replicate ((c.length+1)*17-d.length*17) top).drop 17:=by
     rw [List.map_append,List.flatten_append,List.drop_replicate,List.length_append,show(d.length+[(s.1,w)].length)=d.length+1 from rfl,show(c.length+1)*17-(d.length+1)*17=(c.length+1)*17-d.length*17-17 by omega];simp
    rw [hce,show(d++[(s.1,w)]).length=d.length+1 by simp]at hgo;repeat(refine A1 ⟨?_⟩;intros)
    exact hgo _ _ lfA ((((Sr).cons _).cons _).cons _ |>.cons_cons _)
   |false =>
    rw [hb]at d1 hkt;generalize(lg s.1 s.2 l).1=w at *;simp only [Bool.false_eq_true,if_false,Option.map_none,Option.toList_none,List.append_nil]at hkt;subst hkt;repeat(refine A1 ⟨?_⟩;intros)
    refine Wo (a7 (cs':=fgx s) rfl rfl om om hat hne) ?_;repeat(first|(refine A1 ⟨?_⟩;intros)|(refine Wo (bJ rfl rfl kr rfl) ?_)|(refine Wdo (bJ rfl rfl kr rfl) ?_)|refine W4 d1 ⟨?_⟩)
    exact hgo _ _ lfA (Sc (Sc Sr))
  ·have hke:k=c.length:=by omega
   subst hke;rw [List.take_length];clear hK
   have hd:∀s∈dk c l,s.1.le L:=fun s hs=>by
    obtain⟨s0,h2,h3,_⟩:=kf.1 hs;rw [←h3];exact(hc s0 h2).1
   have hkl3:=td c l;have hpos:=Hp l (dk c l);have hfl:=cT f8 (dk c l);generalize dk c l=d at *;have b0:=M0 hd hl h1 om om b8 (c.length+1) (List.replicate ((c.length+1)*17-d.length*17) top);clear hd hc hl c0;repeat(refine A1 ⟨?_⟩;intros)
   refine WfT b0 ?_;rintro _ _ ⟨⟨fb,rfl⟩,rfl⟩;simp only [List.cons_append,List.nil_append];generalize ak l d=i at *;repeat(refine A1 ⟨?_⟩;intros)
   rename_i bx;refine WfT (Do b8 bx d.length (c.length+1) i 1 ((d.map fgx).flatten) (List.replicate ((c.length+1)*17-d.length*17) top) (fgx (l,v)) hfl (List.length_replicate ..) rfl om om hpos) ?_;rintro _ _ ⟨rfl,rfl⟩;simp only [List.cons_append,List.nil_append];have hi:=pP f8 d (l,v) i;rw [←List.append_assoc]at hi;rw [hi]
   have hlen:d.length+1=(d.take i++(l,v)::d.drop i).length:=by
    rw [List.length_append,List.length_cons,List.length_take,List.length_drop];omega
   refine WPL.pub (d:=68) (s':=pcs (d.take i++(l,v)::d.drop i)) (.there _ (.there _ (.here _))) rfl (fun m arr hm ha=>by show(sl ((d.take i++(l,v)::d.drop i).map fgx).flatten (d.take i++(l,v)::d.drop i).length).p m _;rw [←hlen];exact F7 hm ha om (by simp only [maxLen];omega)) ?_;repeat(refine A1 ⟨?_⟩;intros)
   exact cH _ _ (fQ (RV.tmp rfl) (RV.tmp rfl) Lr) (List.nil_sublist _) rfl
def jJ (l:List Spn) (t:Rat):Prop:=∃s∈l,InS s t
def Bef (a b:Spn):Prop:=a.nh=false∧b.nl=false∧a.hi<b.lo
structure SpG (s:Spn):Prop where
 lo:s.nl=true→s.lo=0
 hi:s.nh=true→s.hi=0
 lt:s.nl=false→s.nh=false→s.lo<s.hi
structure iH (l:List Spn):Prop where
 g:∀s∈l,SpG s
 p:l.Pairwise Bef
theorem Ce (E:List Rat):∀{x y:Rat},x<y→∃t,x<t∧t<y∧t∉E:=by
 induction E with
 |nil=>exact fun {x y} h=>⟨iQ x y,(kL h).1,(kL h).2,by simp⟩
 |cons e E ih =>
  intro x y h;by_cases he:x<e∧e<y
  ·obtain⟨t,h1,h2,h3⟩:=ih he.1;exact⟨t,h1,by grind,by simp only [List.mem_cons,not_or];exact⟨by grind,h3⟩⟩
  ·obtain⟨t,h1,h2,h3⟩:=ih h;exact⟨t,h1,h2,by simp only [List.mem_cons,not_or];exact⟨fun k=>he (k▸⟨h1,h2⟩),h3⟩⟩
theorem SpG.some {s:Spn}(h:SpG s):∃x y,x<y∧∀t,x<t→t<y→InS s t:=by
 obtain⟨lo,hi,nl,nh⟩:=s;have h3:=h.lt;unfold InS;simp only at *;cases nl <;> cases nh <;> simp only [Bool.false_eq_true,true_or,false_or,true_and,and_true,and_self]at *
 ·exact⟨lo,hi,by simpa using h3,fun t a b=>⟨a,b⟩⟩
 ·exact⟨lo,lo+1,by grind,fun t a b=>a⟩
 ·exact⟨hi-1,hi,by grind,fun t a b=>b⟩
 ·exact⟨0,1,by decide,fun _ _ _=>trivial⟩
theorem Bz {s:Spn}{l:List Spn}(h:iH (s::l)){t:Rat}(ht:jJ (s::l) t):s.nl=true∨s.lo<t:=by
 obtain⟨u,hu,h1⟩:=ht;rcases List.mem_cons.1 hu with rfl|hu
 ·exact h1.1
 ·have hb:=(List.pairwise_cons.1 h.p).1 u hu;cases hn:s.nl with
  |true=>exact .inl rfl
  |false =>
   right;have h2:=(h.g s Ms).lt hn hb.1;have h3:=h1.1.resolve_left (by rw [hb.2.1];decide);have h4:=hb.2.2;grind
theorem By {s:Spn}{l:List Spn}(h:iH (s::l)){t:Rat}(ht:jJ l t):s.nh=false∧s.hi<t:=by
 obtain⟨u,hu,h1⟩:=ht;have hb:=(List.pairwise_cons.1 h.p).1 u hu;have h3:=h1.1.resolve_left (by rw [hb.2.1];decide);have h4:=hb.2.2;exact⟨hb.1,by grind⟩
theorem yh {E:List Rat}{s s':Spn}{l l':List Spn}(h:iH (s::l)) (h':iH (s'::l')) (he:∀t,t∉E→jJ (s::l) t→jJ (s'::l') t):s'.nl=true∨(s.nl=false∧s'.lo≤s.lo):=by
 cases hn':s'.nl with
 |true=>exact .inl rfl
 |false =>
  right;have hg:=h.g s Ms
  have key:∀x,(s.nl=true∨s.lo≤x)→x<s'.lo→(s.nh=true∨x<s.hi)→False:=fun x h1 h2 h3=>by
   have:∃y,x<y∧y≤s'.lo∧(s.nh=true∨y≤s.hi):=by
    rcases h3 with h3|h3
    ·exact⟨s'.lo,h2,Rat.le_refl, .inl h3⟩
    ·rcases Rat.le_total (a:=s.hi) (b:=s'.lo)with k|k
     ·exact⟨s.hi,h3,k, .inr Rat.le_refl⟩
     ·exact⟨s'.lo,h2,Rat.le_refl, .inr k⟩
   obtain⟨y,y1,y2,y3⟩:=this;obtain⟨t,t1,t2,t3⟩:=Ce E y1;have:=he t t3 ⟨s,Ms,h1.imp id (fun k=>by grind),y3.imp id (fun k=>by grind)⟩;have:=(Bz h' this).resolve_left (by rw [hn'];decide);grind
  cases hn:s.nl with
  |true =>
   exfalso;cases hh:s.nh with
   |true=>exact key (s'.lo-1) (.inl hn) (by grind) (.inl hh)
   |false =>
    rcases Rat.le_total (a:=s.hi) (b:=s'.lo)with k|k
    ·exact key (s.hi-1) (.inl hn) (by grind) (.inr (by grind))
    ·exact key (s'.lo-1) (.inl hn) (by grind) (.inr (by grind))
  |false =>
   refine⟨rfl,Rat.not_lt.1 fun k=>key s.lo (.inr Rat.le_refl) k ?_⟩;cases hh:s.nh with
   |true=>exact .inl rfl
   |false=>exact .inr (hg.lt hn hh)
theorem yg {E:List Rat}{s s':Spn}{l l':List Spn}(h:iH (s::l)) (hb:s'.nl=true∨(s.nl=false∧s'.lo≤s.lo)) (he:∀t,t∉E→jJ (s'::l') t→jJ (s::l) t):s.nh=true∨(s'.nh=false∧s'.hi≤s.hi):=by
 cases hn:s.nh with
 |true=>exact .inl rfl
 |false =>
  right;have hg:=h.g s Ms
  have hlo:∀t,s.hi≤t→s'.nl=true∨s'.lo<t:=fun t ht=>by
   rcases hb with hb|⟨h1,h2⟩
   ·exact .inl hb
   ·right;have:=hg.lt h1 hn;grind
  have key:∀y,s.hi<y→(s'.nh=true∨y≤s'.hi)→False:=fun y h1 h2=>by
   have:∃z,s.hi<z∧z≤y∧∀t,s.hi<t→t<z→¬jJ (s::l) t:=by
    cases l with
    |nil =>
     refine⟨y,h1,Rat.le_refl,fun t k _=>?_⟩;rintro ⟨u,hu,⟨_,b⟩⟩;rw [List.mem_singleton.1 hu,hn]at b;have:=b.resolve_left (by decide);grind
    |cons u l =>
     have hbu:=(List.pairwise_cons.1 h.p).1 u Ms;have hnu:iH (u::l):=⟨fun x hx=>h.g x (Mc hx),(List.pairwise_cons.1 h.p).2⟩
     have hz:∃z,s.hi<z∧z≤y∧z≤u.lo:=by
      rcases Rat.le_total (a:=y) (b:=u.lo)with k|k
      ·exact⟨y,h1,Rat.le_refl,k⟩
      ·exact⟨u.lo,hbu.2.2,k,Rat.le_refl⟩
     obtain⟨z,z1,z2,z3⟩:=hz;refine⟨z,z1,z2,fun t k1 k2=>?_⟩;rintro ⟨v,hv,hi⟩;rcases List.mem_cons.1 hv with rfl|hv
     ·have:=hi.2.resolve_left (by rw [hn];decide);grind
     ·have:=(Bz hnu ⟨v,hv,hi⟩).resolve_left (by rw [hbu.2.1];decide);grind
   obtain⟨z,z1,z2,z3⟩:=this;obtain⟨t,t1,t2,t3⟩:=Ce E z1;exact z3 t t1 t2 (he t t3 ⟨s',Ms,hlo t (by grind),h2.imp id (fun k=>by grind)⟩)
  cases hn':s'.nh with
  |true=>exact(key (s.hi+1) (by grind) (.inl hn')).elim
  |false=>exact⟨rfl,Rat.not_lt.1 fun k=>key s'.hi k (.inr Rat.le_refl)⟩
theorem lD {E:List Rat}:∀{l l':List Spn},iH l→iH l'→(∀t,t∉E→(jJ l t↔jJ l' t))→l=l'
 | [],[],_,_,_=>rfl
 | [],s::l,_,h',he=>by
  obtain⟨x,y,hxy,hs⟩:=(h'.g s Ms).some;obtain⟨t,t1,t2,t3⟩:=Ce E hxy;obtain⟨u,hu,_⟩:=(he t t3).2 ⟨s,Ms,hs t t1 t2⟩;cases hu
 |s::l,[],h,_,he=>by
  obtain⟨x,y,hxy,hs⟩:=(h.g s Ms).some;obtain⟨t,t1,t2,t3⟩:=Ce E hxy;obtain⟨u,hu,_⟩:=(he t t3).1 ⟨s,Ms,hs t t1 t2⟩;cases hu
 |s::l,s'::l',h,h',he=>by
  have b1:=yh h h' fun t ht k=>(he t ht).1 k
  have b2:=yh h' h fun t ht k=>(he t ht).2 k
  have e1:=yg h b1 fun t ht k=>(he t ht).2 k
  have e2:=yg h' b2 fun t ht k=>(he t ht).1 k
  have g:=h.g s Ms;have g':=h'.g s' Ms
  have es:s=s':=by
   have nl:s.nl=s'.nl:=by
    rcases b1 with b1|⟨b1,_⟩ <;> rcases b2 with b2|⟨b2,_⟩ <;> simp_all
   have nh:s.nh=s'.nh:=by
    rcases e1 with e1|⟨e1,_⟩ <;> rcases e2 with e2|⟨e2,_⟩ <;> simp_all
   have lo:s.lo=s'.lo:=by
    rcases b1 with b1|⟨b1,k1⟩
    ·rw [g'.lo b1,g.lo (nl.trans b1)]
    ·rcases b2 with b2|⟨b2,k2⟩
     ·rw [b1]at b2;cases b2
     ·grind
   have hi:s.hi=s'.hi:=by
    rcases e1 with e1|⟨e1,k1⟩
    ·rw [g.hi e1,g'.hi (nh.symm.trans e1)]
    ·rcases e2 with e2|⟨e2,k2⟩
     ·rw [e1]at e2;cases e2
     ·grind
   obtain⟨a,b,c,d⟩:=s;obtain⟨a',b',c',d'⟩:=s';simp only at *;rw [nl,nh,lo,hi]
  subst es;have hl:iH l:=⟨fun x hx=>h.g x (Mc hx),(List.pairwise_cons.1 h.p).2⟩
  have hl':iH l':=⟨fun x hx=>h'.g x (Mc hx),(List.pairwise_cons.1 h'.p).2⟩
  refine congrArg (s :: ·) (lD (E:=E) hl hl' fun t ht=>⟨fun k=>?_,fun k=>?_⟩)
  ·obtain⟨a,b⟩:=By h k;obtain⟨u,hu,hi⟩:=(he t ht).1 (k.imp fun u hu=>⟨Mc hu.1,hu.2⟩);rcases List.mem_cons.1 hu with rfl|hu
   ·have:=hi.2.resolve_left (by rw [a];decide);grind
   ·exact⟨u,hu,hi⟩
  ·obtain⟨a,b⟩:=By h' k;obtain⟨u,hu,hi⟩:=(he t ht).2 (k.imp fun u hu=>⟨Mc hu.1,hu.2⟩);rcases List.mem_cons.1 hu with rfl|hu
   ·have:=hi.2.resolve_left (by rw [a];decide);grind
   ·exact⟨u,hu,hi⟩
def Gap (cuts:List Rat) (i:Nat) (t:Rat):Prop:=(i=0∨cuts.getD (i-1) 0<t)∧(i=cuts.length∨t<cuts.getD i 0)
def E0 (cuts:List Rat):Prop:=∀i j,i<j→j<cuts.length→cuts.getD i 0<cuts.getD j 0
theorem xA {cuts:List Rat}{i:Nat}(hi:i≤cuts.length) (t:Rat):InS (jA cuts i) t↔Gap cuts i t:=by
 unfold InS jA Gap;simp only [decide_eq_true_eq];by_cases h0:i=0
 ·by_cases h1:i=cuts.length
  ·have e0:cuts.length=0:=by omega
   simp [h0,e0]
  ·rw [if_pos (show i<cuts.length by omega)];simp [h0]
 ·rw [if_pos (show 0<i by omega)];by_cases h1:i=cuts.length
  ·simp [h0,h1]
  ·rw [if_pos (show i<cuts.length by omega)]
theorem Ey {cuts:List Rat}(ha:E0 cuts){i:Nat}(hi:i≤cuts.length):SpG (jA cuts i):=by
 unfold jA;refine⟨fun h=>?_,fun h=>?_,fun h1 h2=>?_⟩
 ·simp only [decide_eq_true_eq]at h⊢;rw [if_neg om]
 ·simp only [decide_eq_true_eq]at h⊢;rw [if_neg om]
 ·simp only [decide_eq_false_iff_not]at h1 h2⊢;rw [if_pos om,if_pos om];exact ha _ _ om om
structure Cn (cuts:List Rat) (marks:List Bool) (k:Nat) (out:List Spn):Prop where
 norm:iH out
 mem:∀t,t∉cuts→(jJ out t↔∃i,i<k∧marks.getD i false=true∧Gap cuts i t)
 last:0<k→marks.getD (k-1) false=true→∃init s,out=init++[s]∧s.nh=decide (k-1=cuts.length)∧s.hi=(if k-1<cuts.length then cuts.getD (k-1) 0 else 0)∧(s.nl=true∨s.lo<cuts.getD (k-1) 0∨k-1=cuts.length)
 idle:(k=0∨marks.getD (k-1) false=false)→∀s∈out,s.nh=false∧2≤k∧s.hi≤cuts.getD (k-2) 0
theorem AD (cuts:List Rat) (marks:List Bool):Cn cuts marks 0 [] :=
 ⟨⟨fun s h=>(by cases h),List.Pairwise.nil⟩,fun t _=>⟨fun⟨s,h,_⟩=>(by cases h),fun⟨i,h,_⟩=>om⟩,fun h=>om,fun _ s h=>(by cases h)⟩
theorem tO {cuts:List Rat}(ha:E0 cuts){i j:Nat}(h:i≤j) (hj:j<cuts.length):cuts.getD i 0≤cuts.getD j 0:=by
 by_cases e:i=j
 ·rw [e];exact Rat.le_refl
 ·exact Rat.le_of_lt (ha i j om hj)
theorem AE {cuts:List Rat}{marks:List Bool}(ha:E0 cuts){k:Nat}(hk:k≤cuts.length){out:List Spn}(h:Cn cuts marks k out):Cn cuts marks (k+1) (dz cuts marks out k):=by
 have hg:∀t,(∃i,i<k+1∧marks.getD i false=true∧Gap cuts i t)↔(∃i,i<k∧marks.getD i false=true∧Gap cuts i t)∨(marks.getD k false=true∧Gap cuts k t):=fun t=>by
  constructor
  ·rintro ⟨i,h1,h2,h3⟩;by_cases e:i=k
   ·rw [e]at h2 h3;exact .inr ⟨h2,h3⟩
   ·exact .inl ⟨i,om,h2,h3⟩
  ·rintro (⟨i,h1,h2,h3⟩|⟨h2,h3⟩)
   ·exact⟨i,om,h2,h3⟩
   ·exact⟨k,om,h2,h3⟩
 unfold dz;cases hm:marks.getD k false with
 |false =>
  rw [if_pos rfl];refine⟨h.norm,fun t ht=>?_,fun _ hh=>?_,fun _ s hs=>?_⟩
  ·rw [hg,hm,h.mem t ht];simp
  ·rw [Nat.add_sub_cancel,hm]at hh;cases hh
  ·by_cases hp:k=0∨marks.getD (k-1) false=false
   ·obtain⟨a,b,c⟩:=h.idle hp s hs;refine⟨a,om,?_⟩;have:=tO ha (show k-2≤k+1-2 by omega) om;grind
   ·rw [not_or]at hp;obtain⟨init,l,e,l1,l2,l3⟩:=h.last om (by simpa using hp.2);rw [if_pos om]at l2;rw [show k+1-2=k-1 by omega];rw [e]at hs;have hn:=h.norm;rw [e]at hn;rcases List.mem_append.1 hs with hs|hs
    ·obtain⟨b1,b2,b3⟩:=(List.pairwise_append.1 hn.p).2.2 s hs l (by simp);refine⟨b1,om,?_⟩;rcases l3 with l3|l3|l3
     ·rw [b2]at l3;cases l3
     ·grind
     ·omega
    ·rw [List.mem_singleton]at hs;rw [hs];exact⟨by rw [l1];exact decide_eq_false om,om,by rw [l2];exact Rat.le_refl⟩
 |true =>
  rw [if_neg (by decide)];by_cases hp:k=0∨marks.getD (k-1) false=false
  ·rw [if_neg (by rintro ⟨a,b,_⟩;rcases hp with hp|hp;omega;rw [hp]at b;cases b)];refine⟨⟨fun s hs=>?_,?_⟩,fun t ht=>?_,fun _ _=>?_,fun hh=>?_⟩
   ·rcases List.mem_append.1 hs with hs|hs
    ·exact h.norm.g s hs
    ·rw [List.mem_singleton.1 hs];exact Ey ha hk
   ·refine List.pairwise_append.2 ⟨h.norm.p,List.pairwise_singleton _ _,fun s hs u hu=>?_⟩;rw [List.mem_singleton.1 hu];obtain⟨a,b,c⟩:=h.idle hp s hs;refine⟨a,decide_eq_false om,?_⟩;show s.hi<if 0<k then cuts.getD (k-1) 0 else 0
    rw [if_pos om];have:=ha (k-2) (k-1) om om;grind
   ·rw [hg,←h.mem t ht,hm];simp only [true_and];rw [←xA hk];unfold jJ;constructor
    ·rintro ⟨s,hs,hi⟩;rcases List.mem_append.1 hs with hs|hs
     ·exact .inl ⟨s,hs,hi⟩
     ·rw [List.mem_singleton.1 hs]at hi;exact .inr hi
    ·rintro (⟨s,hs,hi⟩|hi)
     ·exact⟨s,List.mem_append_left _ hs,hi⟩
     ·exact⟨_,List.mem_append_right _ Ms,hi⟩
   ·rw [Nat.add_sub_cancel];refine⟨out,jA cuts k,rfl,rfl,rfl,?_⟩;by_cases e:k=cuts.length
    ·exact .inr (.inr e)
    ·by_cases e0:k=0
     ·left;exact decide_eq_true e0
     ·right;left;show(if 0<k then cuts.getD (k-1) 0 else 0)<_
      rw [if_pos om];exact ha _ _ om om
   ·rw [Nat.add_sub_cancel,hm]at hh;rcases hh with hh|hh <;> cases hh
  ·rw [not_or]at hp;have hp1:marks.getD (k-1) false=true:=by simpa using hp.2
   obtain⟨init,l,e,l1,l2,l3⟩:=h.last om hp1;rw [if_pos om]at l2;have hl1:l.nh=false:=by rw [l1];exact decide_eq_false om
   rw [if_pos ⟨om,hp1,by rw [e];simp⟩]
   have hset:out.set (out.length-1) ⟨(out.getD (out.length-1) Spn.full).lo,(jA cuts k).hi,(out.getD (out.length-1) Spn.full).nl,(jA cuts k).nh⟩=init++[⟨l.lo,(jA cuts k).hi,l.nl,(jA cuts k).nh⟩]:=by
    have hlen:out.length-1=init.length:=by rw [e];simp
    have hgd:out.getD (out.length-1) Spn.full=l:=by rw [hlen,e,List.getD_eq_getElem?_getD,List.getElem?_append_right (Nat.le_refl _),Nat.sub_self];rfl
    rw [hgd,hlen,e,List.set_append_right _ _ (Nat.le_refl _),Nat.sub_self];rfl
   rw [hset];have hn:=h.norm;rw [e]at hn;obtain⟨p1,p2,p3⟩:=List.pairwise_append.1 hn.p;have gl:=hn.g l (by simp)
   have hlast:l.nl=true∨l.lo<cuts.getD (k-1) 0:=by
    rcases l3 with l3|l3|l3
    ·exact .inl l3
    ·exact .inr l3
    ·omega
   refine⟨⟨fun s hs=>?_,?_⟩,fun t ht=>?_,fun _ _=>?_,fun hh=>?_⟩
   ·rcases List.mem_append.1 hs with hs|hs
    ·exact hn.g s (List.mem_append_left _ hs)
    ·rw [List.mem_singleton.1 hs];refine⟨gl.lo,(Ey ha hk).hi,fun h1 h2=>?_⟩;have hlo:=hlast.resolve_left (by rw [h1];decide);have h2':¬k=cuts.length:=of_decide_eq_false h2;show l.lo<if k<cuts.length then cuts.getD k 0 else 0
     rw [if_pos om];have:=ha (k-1) k om om;grind
   ·refine List.pairwise_append.2 ⟨p1,List.pairwise_singleton _ _,fun s hs u hu=>?_⟩;rw [List.mem_singleton.1 hu];exact p3 s hs l (by simp)
   ·rw [hg,←h.mem t ht,hm];simp only [true_and]
    have hne:t≠cuts.getD (k-1) 0:=fun e=>ht (by
     rw [e,List.getD_eq_getElem?_getD,List.getElem?_eq_getElem (show k-1<cuts.length by omega)];exact List.getElem_mem _)
    have key:InS ⟨l.lo,(jA cuts k).hi,l.nl,(jA cuts k).nh⟩ t↔InS l t∨Gap cuts k t:=by
     rw [←xA hk];have e1:(jA cuts k).nl=false:=decide_eq_false om;have e2:(jA cuts k).lo=cuts.getD (k-1) 0:=if_pos om
     have e3:(jA cuts k).nh=true∨cuts.getD (k-1) 0<(jA cuts k).hi:=by
      by_cases e:k=cuts.length
      ·left;exact decide_eq_true e
      ·right;show _<if k<cuts.length then cuts.getD k 0 else 0
       rw [if_pos om];exact ha _ _ om om
     unfold InS;simp only;rw [e1,e2,hl1,l2];generalize(jA cuts k).nh=nh at *;generalize(jA cuts k).hi=hi at *;generalize cuts.getD (k-1) 0=c at *;simp only [Bool.false_eq_true,false_or];constructor
     ·rintro ⟨a,b⟩;by_cases htc:t<c
      ·exact .inl ⟨a,htc⟩
      ·exact .inr ⟨by grind,b⟩
     ·rintro (⟨a,b⟩|⟨a,b⟩)
      ·exact⟨a,e3.imp id (fun k=>by grind)⟩
      ·exact⟨hlast.imp id (fun k=>by grind),b⟩
    unfold jJ;rw [e];constructor
    ·rintro ⟨s,hs,hi⟩;rcases List.mem_append.1 hs with hs|hs
     ·exact .inl ⟨s,List.mem_append_left _ hs,hi⟩
     ·rw [List.mem_singleton.1 hs,key]at hi;exact hi.imp (fun k=>⟨l,by simp,k⟩) id
    ·rintro (⟨s,hs,hi⟩|hi)
     ·rcases List.mem_append.1 hs with hs|hs
      ·exact⟨s,List.mem_append_left _ hs,hi⟩
      ·rw [List.mem_singleton.1 hs]at hi;exact⟨_,List.mem_append_right _ Ms,key.2 (.inl hi)⟩
     ·exact⟨_,List.mem_append_right _ Ms,key.2 (.inr hi)⟩
   ·rw [Nat.add_sub_cancel];refine⟨init,_,rfl,rfl,rfl,?_⟩;by_cases e:k=cuts.length
    ·exact .inr (.inr e)
    ·rcases hlast with h1|h1
     ·exact .inl h1
     ·right;left;have:=ha (k-1) k om om;show l.lo<_
      grind
   ·rw [Nat.add_sub_cancel,hm]at hh;rcases hh with hh|hh <;> cases hh
theorem vk {cuts:List Rat}{marks:List Bool}(ha:E0 cuts):∀k,k≤cuts.length+1→Cn cuts marks k ((List.range k).foldl (dz cuts marks) [])
 |0,_=>AD cuts marks
 |k+1,h=>by
  rw [List.range_succ,List.foldl_append];exact AE ha om (vk ha k om)
theorem GG {cuts:List Rat}{marks:List Bool}(ha:E0 cuts) (hl:marks.length=cuts.length+1):iH (tn cuts marks)∧∀t,t∉cuts→(jJ (tn cuts marks) t↔∃i,marks.getD i false=true∧Gap cuts i t):=by
 have h:=vk (marks:=marks) ha (cuts.length+1) (Nat.le_refl _);rw [←hl]at h;refine⟨h.norm,fun t ht=>(h.mem t ht).trans ⟨fun⟨i,_,b⟩=>⟨i,b⟩,fun⟨i,a,b⟩=>⟨i,?_,a,b⟩⟩⟩;rcases Nat.lt_or_ge i marks.length with k|k
 ·exact k
 ·rw [List.getD_eq_getElem?_getD,List.getElem?_eq_none k]at a;cases a
theorem xh {cuts:List Rat}(h:cuts.Pairwise (· < ·)):E0 cuts:=fun i j hij hj=>by
 rw [List.getD_eq_getElem?_getD,List.getD_eq_getElem?_getD,List.getElem?_eq_getElem (show i<cuts.length by omega),List.getElem?_eq_getElem hj];exact List.pairwise_iff_getElem.1 h i j om hj hij
theorem Bb {x y:Rat}:rlt x y=true↔x<y:=by
 rw [decide_eq_true_eq,eG];grind
theorem xr {α:Type}{f:α→Bool}:∀(l:List α),∀x∈l.take (l.takeWhile f).length,f x=true
 | [],x,h=>by simp at h
 |a::l,x,h=>by
  rw [List.takeWhile_cons]at h;split at h
  ·rename_i hf;rw [List.length_cons,List.take_succ_cons]at h;rcases List.mem_cons.1 h with e|e
   ·rw [e];exact hf
   ·exact xr l x e
  ·simp at h
theorem oO {out:List Rat}{x:Rat}(h:out.Pairwise (· < ·)):(gO rlt out x).Pairwise (· < ·):=by
 unfold gO;split
 ·exact h
 ·rename_i hne;unfold yF;have h1:∀o∈out.take (gI rlt out x),o<x:=fun o ho=>Bb.1 (xr out o ho)
  have h2:∀o∈out.drop (gI rlt out x),x<o:=fun o ho=>by
   have hfirst:∀o0,out[gI rlt out x]? = some o0→x<o0:=fun o0 e=>by
    have hn:rlt o0 x=false:=qK (f:=fun o=>rlt o x) e;have:¬o0<x:=fun k=>by rw [Bb.2 k]at hn;cases hn
    have:o0≠x:=fun k=>hne (by rw [e,k])
    grind
   obtain⟨k,hk,e⟩:=List.mem_iff_getElem.1 ho;rw [List.length_drop]at hk;rw [List.getElem_drop]at e;have e0:=hfirst _ (List.getElem?_eq_getElem (show gI rlt out x<out.length by omega));by_cases hk0:k=0
   ·subst hk0;rw [←e];exact e0
   ·have:=List.pairwise_iff_getElem.1 h (gI rlt out x) (gI rlt out x+k) om om om;rw [e]at this;grind
  refine List.pairwise_append.2 ⟨h.sublist (List.take_sublist _ _),List.pairwise_cons.2 ⟨h2,h.sublist (List.drop_sublist _ _)⟩,fun a ha b hb=>?_⟩;rcases List.mem_cons.1 hb with e|e
  ·rw [e];exact h1 a ha
  ·have:=h1 a ha;have:=h2 b e;grind
theorem DE {out:List Rat}{s:Spn}(h:out.Pairwise (· < ·)):(iD out s).Pairwise (· < ·):=by
 unfold iD;simp only;split
 ·split
  ·exact h
  ·exact oO h
 ·split
  ·exact oO h
  ·exact oO (oO h)
theorem vE:∀(l:List Spn){out:List Rat},out.Pairwise (· < ·)→(l.foldl iD out).Pairwise (· < ·)
 | [],_,h=>h
 |s::l,_,h=>by rw [List.foldl_cons];exact vE l (DE h)
theorem tv (l:List Spn):(cU l).Pairwise (· < ·):=vE l List.Pairwise.nil
theorem DD {out:List Rat}{s:Spn}{y:Rat}:y∈iD out s↔y∈out∨(s.nl=false∧y=s.lo)∨(s.nh=false∧y=s.hi):=by
 unfold iD;simp only;cases s.nl <;> cases s.nh <;> simp [kh] <;> grind
theorem vD:∀(l:List Spn){out:List Rat}{y:Rat},y∈l.foldl iD out↔y∈out∨∃s∈l,(s.nl=false∧y=s.lo)∨(s.nh=false∧y=s.hi)
 | [],_,_=>by simp
 |s::l,out,y=>by
  rw [List.foldl_cons,vD l,DD];simp only [List.mem_cons,exists_eq_or_imp];exact or_assoc
theorem dM {l:List Spn}{y:Rat}:y∈cU l↔∃s∈l,(s.nl=false∧y=s.lo)∨(s.nh=false∧y=s.hi):=by
 unfold cU;rw [vD];simp
theorem uK {cuts:List Rat}(ha:cuts.Pairwise (· < ·)){i:Nat}(hi:i≤cuts.length):Gap cuts i ((ed cuts).getD i 0):=by
 cases cuts with
 |nil =>
  have:i=0:=by simpa using hi
  subst this;exact⟨.inl rfl, .inl rfl⟩
 |cons c cs =>
  have hz:(List.zipWith iQ (c::cs) cs).length=cs.length:=by simp
  have has:=xh ha;unfold ed;cases i with
  |zero =>
   refine⟨.inl rfl, .inr ?_⟩;show c-1<c
   grind
  |succ i =>
   rw [List.length_cons]at hi;rw [List.getD_cons_succ];by_cases e:i=cs.length
   ·refine⟨.inr ?_, .inl (by rw [e];rfl)⟩;rw [Nat.add_sub_cancel,List.getD_eq_getElem?_getD (l:=List.zipWith iQ (c::cs) cs++_),List.getElem?_append_right om,hz,e,Nat.sub_self]
    have:(c::cs).getD cs.length 0=(c::cs).getLast (by simp):=by
     rw [List.getD_eq_getElem?_getD,List.getLast_eq_getElem];simp
    rw [this];show _<(c::cs).getLast _+1
    grind
   ·have hlt:i<cs.length:=by omega
    have e1:(List.zipWith iQ (c::cs) cs++[(c::cs).getLast (by simp)+1]).getD i 0=iQ ((c::cs).getD i 0) ((c::cs).getD (i+1) 0):=by
     rw [List.getD_eq_getElem?_getD,List.getElem?_append_left om,List.getElem?_eq_getElem om,List.getElem_zipWith,List.getD_eq_getElem?_getD,List.getD_eq_getElem?_getD,List.getElem?_eq_getElem (show i<(c::cs).length by simp;omega),List.getElem?_cons_succ,List.getElem?_eq_getElem hlt];rfl
    rw [e1];obtain⟨m1,m2⟩:=kL (has i (i+1) om (by simp;omega));exact⟨.inr (by rw [Nat.add_sub_cancel];exact m1), .inr m2⟩
theorem oS {cuts:List Rat}(ha:cuts.Pairwise (· < ·)){i:Nat}(hi:i≤cuts.length){t u:Rat}(ht:Gap cuts i t) (hu:Gap cuts i u){y:Rat}(hy:y∈cuts):(y<t↔y<u)∧(t<y↔u<y):=by
 have has:=xh ha;obtain⟨j,hj,e⟩:=List.mem_iff_getElem.1 hy;have ey:cuts.getD j 0=y:=by rw [List.getD_eq_getElem?_getD,List.getElem?_eq_getElem hj,←e];rfl
 by_cases hji:j<i
 ·have h1:y<t∧y<u:=by
   have hle:=tO has (show j≤i-1 by omega) om;rw [ey]at hle;obtain⟨a,_⟩:=ht;obtain⟨b,_⟩:=hu;have a:=a.resolve_left om;have b:=b.resolve_left om;grind
  grind
 ·have h1:t<y∧u<y:=by
   have hle:=tO has (show i≤j by omega) om;rw [ey]at hle;obtain⟨_,a⟩:=ht;obtain⟨_,b⟩:=hu;have a:=a.resolve_left om;have b:=b.resolve_left om;grind
  grind
theorem GD {cuts:List Rat}(ha:cuts.Pairwise (· < ·)){i:Nat}(hi:i≤cuts.length){t:Rat}(ht:Gap cuts i t):t∉cuts:=fun hm=>by
 obtain⟨j,hj,e⟩:=List.mem_iff_getElem.1 hm;have has:=xh ha;have ey:cuts.getD j 0=t:=by rw [List.getD_eq_getElem?_getD,List.getElem?_eq_getElem hj,←e];rfl
 by_cases hji:j<i
 ·have hle:=tO has (show j≤i-1 by omega) om;have:=ht.1.resolve_left om;grind
 ·have hle:=tO has (show i≤j by omega) om;have:=ht.2.resolve_left om;grind
theorem Ld {cuts:List Rat}{t:Rat}(ht:t∉cuts):∃i,i≤cuts.length∧Gap cuts i t:=by
 have key:∀k,k≤cuts.length→(∃i,i<k∧Gap cuts i t)∨(k=0∨cuts.getD (k-1) 0<t):=fun k=>by
  induction k with
  |zero=>exact fun _ => .inr (.inl rfl)
  |succ k ih =>
   intro hk;rcases ih om with⟨i,h1,h2⟩|h
   ·exact .inl ⟨i,om,h2⟩
   ·have hne:t≠cuts.getD k 0:=fun e=>ht (by
     rw [e,List.getD_eq_getElem?_getD,List.getElem?_eq_getElem (show k<cuts.length by omega)];exact List.getElem_mem _)
    by_cases h1:t<cuts.getD k 0
    ·exact .inl ⟨k,om,h, .inr h1⟩
    ·right;right;rw [Nat.add_sub_cancel];grind
 rcases key cuts.length (Nat.le_refl _)with⟨i,h1,h2⟩|h
 ·exact⟨i,om,h2⟩
 ·exact⟨cuts.length,Nat.le_refl _,h, .inl rfl⟩
theorem ri {l:List Spn}{t:Rat}(ht:t∉cU l):inL l t=true↔jJ l t:=by
 rw [decide_eq_true_eq]
 have key:∀l':List Spn,(∀s∈l',s∈l)→(qa l' t=2↔jJ l' t):=fun l'=>by
  induction l' with
  |nil=>exact fun _=>⟨fun h=>(by cases h),fun⟨s,h,_⟩=>(by cases h)⟩
  |cons s l' ih =>
   intro hs;have hsl:=hs s Ms
   have h1:s.nl=true∨t≠s.lo:=by
    cases h:s.nl with
    |true=>exact .inl rfl
    |false=>exact .inr fun e=>ht (dM.2 ⟨s,hsl, .inl ⟨h,e⟩⟩)
   have h2:s.nh=true∨t≠s.hi:=by
    cases h:s.nh with
    |true=>exact .inl rfl
    |false=>exact .inr fun e=>ht (dM.2 ⟨s,hsl, .inr ⟨h,e⟩⟩)
   have hc:DR s t=2∧InS s t∨DR s t=0∧¬InS s t:=by
    unfold DR InS;simp only;have s1:(t-s.lo).num.sign=0↔t=s.lo:=by rw [bC];grind
    have s2:(t-s.hi).num.sign=0↔t=s.hi:=by rw [bC];grind
    have s3:0<(t-s.lo).num.sign↔s.lo<t:=by rw [bW];grind
    have s4:(t-s.hi).num.sign<0↔t<s.hi:=by rw [eG];grind
    generalize(t-s.lo).num.sign=a at *;generalize(t-s.hi).num.sign=b at *;cases hn:s.nl <;> cases hh:s.nh <;> rw [hn]at h1 <;> rw [hh]at h2 <;> simp only [if_true,Bool.false_eq_true,if_false,false_or,true_or,true_and,and_true]at h1 h2⊢
    ·have:a≠0:=fun e=>h1 (s1.1 e)
     have:b≠0:=fun e=>h2 (s2.1 e)
     by_cases k:0<a∧b<0
     ·rw [if_pos k];exact .inl ⟨rfl,s3.1 k.1,s4.1 k.2⟩
     ·rw [if_neg k,if_neg om];exact .inr ⟨rfl,fun h=>k ⟨s3.2 h.1,s4.2 h.2⟩⟩
    ·have:a≠0:=fun e=>h1 (s1.1 e)
     by_cases k:0<a
     ·rw [if_pos ⟨k,by decide⟩];exact .inl ⟨rfl,s3.1 k⟩
     ·rw [if_neg om,if_neg om];exact .inr ⟨rfl,fun h=>k (s3.2 h)⟩
    ·have:b≠0:=fun e=>h2 (s2.1 e)
     by_cases k:b<0
     ·rw [if_pos ⟨by decide,k⟩];exact .inl ⟨rfl,s4.1 k⟩
     ·rw [if_neg om,if_neg om];exact .inr ⟨rfl,fun h=>k (s4.2 h)⟩
    ·rw [if_pos ⟨by decide,by decide⟩];exact .inl rfl
   have ihh:=ih fun x hx=>hs x (Mc hx)
   unfold qa;rcases hc with⟨c1,c2⟩|⟨c1,c2⟩
   ·rw [c1,if_neg (by decide)];exact⟨fun _=>⟨s,Ms,c2⟩,fun _=>rfl⟩
   ·rw [c1,if_pos rfl,ihh];constructor
    ·rintro ⟨u,hu,hi⟩;exact⟨u,Mc hu,hi⟩
    ·rintro ⟨u,hu,hi⟩;rcases List.mem_cons.1 hu with rfl|hu
     ·exact absurd hi c2
     ·exact⟨u,hu,hi⟩
 exact key l fun _ h=>h
theorem BS {l:List Spn}{cuts:List Rat}(ha:cuts.Pairwise (· < ·)) (hc:∀y∈cU l,y∈cuts){i:Nat}(hi:i≤cuts.length){t u:Rat}(ht:Gap cuts i t) (hu:Gap cuts i u):inL l t=inL l u:=by
 have h1:=ri (l:=l) (t:=t) fun k=>GD ha hi ht (hc t k)
 have h2:=ri (l:=l) (t:=u) fun k=>GD ha hi hu (hc u k)
 have:jJ l t↔jJ l u:=by
  have hs:∀s∈l,(InS s t↔InS s u):=fun s hs=>by
   unfold InS;cases hn:s.nl <;> cases hh:s.nh <;> simp only [Bool.false_eq_true,false_or,true_or,true_and,and_true]
   ·have g1:=oS ha hi ht hu (hc s.lo (dM.2 ⟨s,hs, .inl ⟨hn,rfl⟩⟩));have g2:=oS ha hi ht hu (hc s.hi (dM.2 ⟨s,hs, .inr ⟨hh,rfl⟩⟩));rw [g1.1,g2.2]
   ·exact(oS ha hi ht hu (hc s.lo (dM.2 ⟨s,hs, .inl ⟨hn,rfl⟩⟩))).1
   ·exact(oS ha hi ht hu (hc s.hi (dM.2 ⟨s,hs, .inr ⟨hh,rfl⟩⟩))).2
  exact⟨fun⟨s,a,b⟩=>⟨s,a,(hs s a).1 b⟩,fun⟨s,a,b⟩=>⟨s,a,(hs s a).2 b⟩⟩
 rw [Bool.eq_iff_iff,h1,h2,this]
theorem yN {cuts:List Rat}(ha:cuts.Pairwise (· < ·)) (f:Rat→Bool) (hf:∀i t u,i≤cuts.length→Gap cuts i t→Gap cuts i u→f t=f u) :
  iH (tn cuts ((ed cuts).map f))∧∀t,t∉cuts→(jJ (tn cuts ((ed cuts).map f)) t↔f t=true):=by
 obtain⟨h1,h2⟩:=GG (marks:=(ed cuts).map f) (xh ha) (by rw [List.length_map,kH])
 have hm:∀i,i≤cuts.length→((ed cuts).map f).getD i false=f ((ed cuts).getD i 0):=fun i hi=>by
  have hl:i<(ed cuts).length:=by rw [kH];omega
  rw [List.getD_eq_getElem?_getD,List.getElem?_map,List.getD_eq_getElem?_getD,List.getElem?_eq_getElem hl];rfl
 refine⟨h1,fun t ht=>(h2 t ht).trans ⟨?_,fun h=>?_⟩⟩
 ·rintro ⟨i,hi,g⟩
  have hle:i≤cuts.length:=by
   rcases Nat.lt_or_ge cuts.length i with k|k
   ·rw [List.getD_eq_getElem?_getD,List.getElem?_eq_none (by rw [List.length_map,kH];omega)]at hi;cases hi
   ·exact k
  rw [hm i hle]at hi;rw [hf i t _ hle g (uK ha hle)];exact hi
 ·obtain⟨i,hi,g⟩:=Ld ht;exact⟨i,by rw [hm i hi,←hf i t _ hi g (uK ha hi)];exact h,g⟩
theorem tJ (op:Int) (a b:List Spn):iH (iE op a b)∧∀t,t∉cU (a++b)→(jJ (iE op a b) t↔opB op (inL a t) (inL b t)=true):=by
 have ha:∀y∈cU a,y∈cU (a++b):=fun y hy=>by
  obtain⟨s,h1,h2⟩:=dM.1 hy;exact dM.2 ⟨s,List.mem_append_left _ h1,h2⟩
 have hb:∀y∈cU b,y∈cU (a++b):=fun y hy=>by
  obtain⟨s,h1,h2⟩:=dM.1 hy;exact dM.2 ⟨s,List.mem_append_right _ h1,h2⟩
 exact yN (tv _) (fun t=>opB op (inL a t) (inL b t)) fun i t u hi ht hu=>by
  rw [BS (tv _) ha hi ht hu,BS (tv _) hb hi ht hu]
end Go.Ab
