/- Texts laid one behind the other: Bld, Wr. -/
import Derived.Test.YthinbooccdccfaaGreatDoorB11
import Derived.Test.YthinbooccdccfaaGreatDoorB15
import Derived.Lib.AppendStr
import Derived.Lib.UnsafeStr
import Derived.Lib.Builder
import Derived.Laws.Externs
set_option linter.unusedSectionVars false
set_option linter.unusedVariables false
set_option linter.unusedSimpArgs false
namespace Go.Ab
open Go.Proofs
variable [Base]
def bys (l:List UInt8):List SV:=l.map fun b=>lit (.int .u8 (b.toNat:Nat))
theorem bys_len (l:List UInt8):(bys l).length=l.length:=by simp [bys]
theorem bys_append (a b:List UInt8):bys (a++b)=bys a++bys b:=by simp [bys]
def Byt (l:List UInt8) (s:SV) (H:LH):Prop :=
 (l=[]∧s=lit (.slice none 0 0)∧H=[])∨
  l≠[]∧∃b c,l.length≤c∧c≤maxLen∧s=lit (.slice (some ⟨b,0,none⟩) l.length c)∧H=[(b,5,bys l++List.replicate (c-l.length) top)]
theorem Byt.nil:Byt [] (lit (.slice none 0 0)) [] := .inl ⟨rfl,rfl,rfl⟩
theorem Byt.co {l:List UInt8}{s:SV}{H:LH}(h:Byt l s H):CO s [s]:=by
 rcases h with⟨_,rfl,_⟩|⟨_,b,c,_,_,rfl,_⟩ <;> infer_instance
theorem strCells_bys {m:Mem}(l:List UInt8):All2 m (bys l) (Lib.strCells ⟨l.toArray⟩):=by
 unfold bys Lib.strCells
 simp only [List.toList_toArray]
 induction l with
 |nil=>trivial
 |cons b l ih=>exact⟨⟨by rw [lit_p],rfl⟩,ih⟩
section
variable {P:Program}{C:Ctx}{n:Nat}{F:Fr}{H:LH}{ops:Array Oper}{K:Fr→LH→Prop}{rest:List Oper}{ty:TypeId}{pos:String}{aft:Array Edge}
theorem run_append_nil_empty {P:Program}(w:World) (t u ty e:TypeId) (i:TypeInfo) (ht:P.underlying t=some (.slice e)) (hu:P.underlying u=some .string) (hi:P.info? e=some i) :
  (Builtin.append_ #[t,u] ty #[.slice none 0 0, .string ⟨#[]⟩]).run P w = .ok (.slice none 0 0) w:=by
 simp [Builtin.append_,run_underlying ht,run_underlying hu,sizeOf,typeInfo,hi,Builtin.lenOf,Builtin.firstCells,ByteArray.size]
theorem WPL.appStr {T U:TypeId} [hS:TSl P T 5]{z:List SV}{g:Bool} [hT:TY P 5 1 1 z g] [hU:TSr P U]{d:Nat}{x y:Operand}{l t:List UInt8}{s:SV}{Hs Rs:LH}
  (hown:Byt l s Hs) (hx:ev F x=s) (hy:ev F y=str t) (hsp:H.Perm (Hs++Rs)) (hl:l.length+t.length≤1000000000)
  (k:∀s' H',Byt (l++t) s' H'→WPL P C n ops rest K (upd F d s') (H'++Rs)) (hd:Nat.blt d n=true) :
  WPL P C n ops (⟨some d, .call ⟨.builtin .append,#[x,y],#[T,U]⟩,ty,pos,aft,none⟩::rest) K F H:=by
 unfold WPL
 intro a w hs0 Q hq
 have hs:=hs0.perm hsp
 refine wpList_plain rfl fun K' hK'=>?_
 obtain⟨hdef,hn,m0,h10,h20,h30,h40,h50⟩:=id hs
 have hp0:∀x,(ev F x).p m0 (a.eval x):=fun x=>by
  cases x with
  |tmp t=>exact h50 t
  |const v=>unfold ev lit;rfl
  |global g=>unfold ev lit;rfl
  |func f=>unfold ev lit;rfl
 have e0:=hp0 x;rw [hx]at e0
 have e1:=hp0 y;rw [hy,lit_p]at e1
 obtain⟨i,v,hi,hsz,hbyt,hz,hzl,hfl,hvs⟩:=hT.run_bytes
 have hexec:execOp a.eval (⟨some d, .call ⟨.builtin .append,#[x,y],#[T,U]⟩,ty,pos,aft,none⟩:Oper)=(do let v←Builtin.append_ #[T,U] ty #[a.eval x,a.eval y];pure (.value v)):=by
  simp [execOp,resolve,invoke,builtin]
 have hss:(⟨t.toArray⟩:ByteArray).size=t.length:=ba_size t
 unfold Oper.wp
 rw [hexec,e1]
 rcases hown with⟨rfl,rfl,rfl⟩|⟨hne,b,c,hnc,hcm,rfl,rfl⟩
 ·rw [lit_p]at e0
  by_cases ht:t=[]
  ·subst ht
   have hrun:=run_append_nil_empty (P:=P) w T U ty 5 i hS.h hU.h hi
   rw [e0]
   simp only [Sem.run_bind,hrun,Result.andThen_ok,Sem.run_pure]
   have h:=k (lit (.slice none 0 0)) [] Byt.nil
   unfold WPL at h
   refine hK' _ _ (h (a.put (some d) (.slice none 0 0)) w ⟨hdef,by simpa [Act.put] using hn,m0,h10,h20,h30,h40,fun t=>?_⟩ Q hq)
   rw [getD_put (Nat.lt_of_lt_of_le (Nat.blt_eq.mp hd) hn)]
   unfold Ab.upd
   by_cases ht:t=d
   ·subst ht;rw [if_pos rfl,Nat.beq_refl];exact lit_p.2 rfl
   ·rw [if_neg ht]
    have:Nat.beq t d=false:=by
     cases hbb:Nat.beq t d with
     |false=>rfl
     |true=>exact absurd (Nat.eq_of_beq_eq_true hbb) ht
    rw [this]
    exact h50 t
  ·have hpos:0<t.length:=List.length_pos_iff.2 ht
   have hrun:=run_append_nil_string (P:=P) w T U ty 5 i v hS.h hU.h hi hz ⟨t.toArray⟩ (by omega) (by rw [hss];simp only [List.length_nil]at hl;omega) (by rw [hss,hbyt];simp only [List.length_nil]at hl;omega)
   rw [hss]at hrun
   rw [e0]
   simp only [Sem.run_bind,hrun,Result.andThen_ok,Sem.run_pure]
   have hge:=grownCap_ge w t.length 0 5
   have hle:=grownCap_le_maxLen w t.length 0 5 (by simp only [maxLen];simp only [List.length_nil]at hl;omega)
   have h:=k (lit (.slice (some ⟨w.heap.size,0,none⟩) t.length (grownCap w t.length 0 5))) [(w.heap.size,5,bys t++List.replicate (grownCap w t.length 0 5-t.length) top)] (.inr ⟨ht,_,_,hge,hle,rfl,rfl⟩)
   unfold WPL at h
   refine hK' _ _ (h _ _ (St.pushD (Nat.blt_eq.mp hd) hs fun m h1 h2 _=>?_) Q hq)
   have e2:(Array.map (fun b:UInt8=>Value.int .u8 b.toNat) (⟨t.toArray⟩:ByteArray).data++Builtin.zeroCells v.cells (grownCap w t.length 0 5-t.length)).toList=Lib.strCells ⟨t.toArray⟩++(Builtin.zeroCells v.cells (grownCap w t.length 0 5-t.length)).toList:=by
    simp [Lib.strCells]
   rw [e2]
   refine(strCells_bys t).append (All2.topL ?_ (zeroCells_one hfl))
   rw [Array.length_toList,size_zeroCells,hvs,Nat.mul_one]
 ·rw [lit_p]at e0
  obtain⟨hmb,arr,hb,hall⟩:=h20.2 _ (List.mem_append_left Rs (List.mem_singleton.2 rfl))
  have hlen:=hall.length
  simp only [List.length_append,List.length_replicate,bys_len,Array.length_toList]at hlen
  have getc:∀m,HOk m w ([(b,5,bys l++List.replicate (c-l.length) top)]++Rs)→All2 m (bys l++List.replicate (c-l.length) top) arr.toList:=fun m h2=>by
   obtain⟨_,arr',hb',hall'⟩:=h2.2 _ (List.mem_append_left Rs (List.mem_singleton.2 rfl))
   rw [hb]at hb'
   simp only [Option.some.injEq,Obj.cells.injEq]at hb'
   obtain⟨rfl,_⟩:=hb'
   exact hall'
  have hne':l++t≠[]:=fun e=>hne (List.append_eq_nil_iff.1 e).1
  by_cases hroom:l.length+t.length≤c
  ·have hrun:=Lib.run_append_room_string (P:=P) w T U ty 5 i hS.h hU.h hi hsz b l.length c arr hb ⟨t.toArray⟩ (by rw [hss];exact hroom) (by rw [hss];omega)
   rw [hss]at hrun
   rw [e0]
   simp only [Sem.run_bind,hrun,Result.andThen_ok,Sem.run_pure]
   have h:=k (lit (.slice (some ⟨b,0,none⟩) (l.length+t.length) c)) [(b,5,bys (l++t)++List.replicate (c-(l++t).length) top)] (.inr ⟨hne',_,_,by rw [List.length_append];exact hroom,hcm,by rw [List.length_append],rfl⟩)
   unfold WPL at h
   have hfin:All2 m0 (bys (l++t)++List.replicate (c-(l++t).length) top) (arr.toList.take l.length++Lib.strCells ⟨t.toArray⟩++arr.toList.drop (l.length+t.length)).toArray.toList:=by
    obtain⟨q1,q2⟩:=(getc m0 h20).split
    rw [bys_len]at q1 q2
    rw [List.toList_toArray,bys_append]
    refine(q1.append (strCells_bys t)).append (All2.topL ?_ fun u hu=>?_)
    ·rw [List.length_drop,Array.length_toList,List.length_append];omega
    ·exact hall.flat u (List.mem_of_mem_drop hu)
   obtain⟨q1,q2,q3,q4⟩:=write_ok (w':=w.setRow b (arr.toList.take l.length++Lib.strCells ⟨t.toArray⟩++arr.toList.drop (l.length+t.length)).toArray) h10 h20 h30 h40 (.here Rs)
    (setRow_heap w b arr _ 5 _ hb) (fun j hj=>setRow_other w b j _ hj) rfl rfl rfl (by simp) hfin
   refine hK' _ _ (h (a.put (some d) (.slice (some ⟨b,0,none⟩) (l.length+t.length) c)) _ ⟨hdef,by simpa [Act.put] using hn,m0,q1,q2,q3,q4,fun t=>?_⟩ Q hq)
   rw [getD_put (Nat.lt_of_lt_of_le (Nat.blt_eq.mp hd) hn)]
   unfold Ab.upd
   by_cases ht:t=d
   ·subst ht;rw [if_pos rfl,Nat.beq_refl];exact lit_p.2 rfl
   ·rw [if_neg ht]
    have:Nat.beq t d=false:=by
     cases hbb:Nat.beq t d with
     |false=>rfl
     |true=>exact absurd (Nat.eq_of_beq_eq_true hbb) ht
    rw [this]
    exact h50 t
  ·have hxs:∀j u,(arr.toList.take l.length)[j]? = some u→w.cell? ((⟨b,0,none⟩:Addr).add j)=some u:=fun j u hj=>by
    rw [add_none,cell_of w b _ arr _ _ hb]
    rw [List.getElem?_take]at hj
    split at hj
    ·simpa using hj
    ·cases hj
   have hrun:=Lib.run_append_grow_string (P:=P) w T U ty 5 i v hS.h hU.h hi hz ⟨b,0,none⟩ l.length c (arr.toList.take l.length) (by rw [List.length_take,Array.length_toList (xs:=arr),hsz];omega) hxs ⟨t.toArray⟩
    (by rw [hss];omega) (by rw [hss];omega) (growslice_fits (by rw [hss];omega) (by rw [hss,hbyt];omega))
   rw [hss]at hrun
   rw [e0]
   simp only [Sem.run_bind,hrun,Result.andThen_ok,Sem.run_pure]
   have hge:=grownCap_ge w (l.length+t.length) c 5
   have hle:=grownCap_le_maxLen w (l.length+t.length) c 5 (by simp only [maxLen];omega)
   have h:=k (lit (.slice (some ⟨w.heap.size,0,none⟩) (l.length+t.length) (grownCap w (l.length+t.length) c 5))) [(w.heap.size,5,bys (l++t)++List.replicate (grownCap w (l.length+t.length) c 5-(l++t).length) top)]
    (.inr ⟨hne',_,_,by rw [List.length_append];exact hge,hle,by rw [List.length_append],rfl⟩)
   unfold WPL at h
   have hst:=St.pushD (d:=d) (cs:=bys (l++t)++List.replicate (grownCap w (l.length+t.length) c 5-(l++t).length) top) (v := .slice (some ⟨w.heap.size,0,none⟩) (l.length+t.length) (grownCap w (l.length+t.length) c 5)) (T:=5)
    (arr:=(arr.toList.take l.length).toArray++(Lib.strCells ⟨t.toArray⟩).toArray++Builtin.zeroCells v.cells (grownCap w (l.length+t.length) c 5-(l.length+t.length))) (Nat.blt_eq.mp hd) hs fun m h1 h2 _=>?_
   ·refine hK' _ _ (h _ _ ?_ Q hq)
    exact hst.drop (.there _ (.here _))
   ·simp only [Array.toList_append,List.toList_toArray]
    obtain⟨q1,_⟩:=(getc m h2).split
    rw [bys_len]at q1
    rw [bys_append]
    refine(q1.append (strCells_bys t)).append (All2.topL ?_ (zeroCells_one hfl))
    rw [Array.length_toList,size_zeroCells,hvs,Nat.mul_one,List.length_append]
theorem ov_pneS {T te T':TypeId} [hp:TPt P T te]{x y:Operand}{a:Addr}(hi:(P.info? te).isSome=true) (hx:ev F x=lit (.pointer (some a))) (hy:ev F y=lit (.pointer (some a))):OpV P (.binOp .neq T x y T') ty F H (lit (.bool false)):=by
 obtain⟨j,hj⟩:=Option.isSome_iff_exists.1 hi
 exact ov_bin hx hy (fun w=>Lib.run_neq_ptr_same w a hp.h hj) (fun w=>by simp [Go.eqGuard])
theorem shape_of {m:Mem}{w:World}{b:Nat}{T:TypeId}{cs:List SV}(h:CellsOk m w b T cs):w.shape? b=some (T,cs.length):=by
 obtain⟨arr,hb,hall⟩:=h
 have:=hall.length
 simp only [Array.length_toList]at this
 simp [World.shape?,hb,this]
theorem ov_toUns {S D t T:TypeId} [hs:TPt P S t]{x:Operand}{b o:Nat}{cs:List SV}(hd:P.underlying D=some .unsafePointer) (ht:(P.info? t).any (fun j => !(j.size==0))=true) (hm:(b,T,cs)∈H) (ho:Nat.blt o cs.length=true)
  (hx:ev F x=lit (.pointer (some ⟨b,o,none⟩))):OpV P (.convert S D x) ty F H (lit (.pointer (some ⟨b,o,none⟩))) :=
 OpV.pure fun m w c a hop _ _ hH h=>by
  have h0:=h x (by simp [Op.operands]);rw [hx,lit_p]at h0
  have hsh:=shape_of (hH.2 _ hm).2
  cases hi:P.info? t with
  |none=>rw [hi]at ht;cases ht
  |some j =>
   rw [hi]at ht
   have hj:j.size≠0:=by simpa using ht
   have:=Lib.run_to_unsafe (P:=P) w ⟨b,o,none⟩ hs.h hd hi hj hsh (Nat.blt_eq.mp ho)
   exact⟨_,by simp [execOp,hop,h0,this],lit_p.2 rfl⟩
theorem ov_ofUns {S D u T:TypeId} [hd:TPt P D u]{x:Operand}{b o:Nat}{cs:List SV}(hs:P.underlying S=some .unsafePointer) (hu:(P.info? u).isSome=true) (hm:(b,T,cs)∈H) (hl:liesAt P P.depth T (cs.length/P.cellsOf T) o u 1=true)
  (hx:ev F x=lit (.pointer (some ⟨b,o,none⟩))):OpV P (.convert S D x) ty F H (lit (.pointer (some ⟨b,o,none⟩))) :=
 OpV.pure fun m w c a hop _ _ hH h=>by
  have h0:=h x (by simp [Op.operands]);rw [hx,lit_p]at h0
  have hsh:=shape_of (hH.2 _ hm).2
  obtain⟨j,hj⟩:=Option.isSome_iff_exists.1 hu
  have:=Lib.run_from_unsafe (P:=P) w ⟨b,o,none⟩ hs hd.h hj hsh hl
  exact⟨_,by simp [execOp,hop,h0,this],lit_p.2 rfl⟩
end
section
variable {F:Fr}{H:LH}{ty:TypeId}
theorem ov_noEsc {x:Operand}{s:SV}{tys:Array TypeId}(hx:ev F x=s):OpV Tryz.prog (.call ⟨.value (.func 357),[x].toArray,tys⟩) ty F H s :=
 OpV.pure fun m w o a ho _ _ _ h=>by
  have h0:=h x (by simp [Op.operands,Call.operands]);rw [hx]at h0
  have h8:=@run_callFunc_extern Tryz.prog 357 _ Extern.AbiNoEscape.same Tryz.func357 (by kernel_rfl) (by kernel_rfl) (by kernel_rfl) (by kernel_rfl)
  refine⟨_,?_,h0⟩
  have:=h8 #[a.eval x] w
  rw [Lib.run_noEscape]at this
  simp only [execOp,ho,resolve,Sem.run_bind,Sem.run_pure,Result.andThen_ok]
  have e1:a.eval (.func 357) = .func (.func 357) #[] #[]:=rfl
  simp only [e1,Deferred.ofValue,Sem.run_pure,Result.andThen_ok,invoke,List.map_toArray,List.map_cons,List.map_nil,Array.empty_append,Array.append_empty,this]
end
abbrev wrC (a s:SV) (d:Nat) (lg:Bool):List SV:=[a,s,lit (.int .i64 (d:Int)),lit (.bool lg)]
abbrev self (w:Nat):SV:=lit (.pointer (some ⟨w,0,none⟩))
abbrev fresh:SV:=lit (.pointer none)
section
variable {P:Program}{C:Ctx}{n:Nat}{F:Fr}{H:LH}{ops:Array Oper}{K:Fr→LH→Prop}{rest:List Oper}{ty:TypeId}{pos:String}{aft:Array Edge}
theorem end0:Ends P [] (Ab.tup []) F H:=⟨[],trivial,Le.refl _⟩
theorem WfH {f:FuncId}{d:Nat}{l:List Operand}{tys:Array TypeId}{svs:List SV}{Hin Rs:LH}{R:SV→LH→Prop}(hc:PuH P f svs Hin R noX) (k:∀res H',R res H'→WPL P C n ops rest K (upd F d res) (H'++Rs))
  (ha:l.map (ev F)=svs:=by exact rfl) (hs:Tk H Hin Rs:=by(repeat(first|exact Tk.nil _|exact Tk.same _|(apply Tk.cons;(first|exact(HDel.here _)|exact(HDel.there _ (HDel.here _))|exact(HDel.there _ (HDel.there _ (HDel.here _)))|exact(HDel.there _ (HDel.there _ (HDel.there _ (HDel.here _))))))|apply Tk.skip))) (hd:Nat.blt d n=true:=by exact rfl) :
  WPL P C n ops (⟨some d, .call ⟨.value (.func f),l.toArray,tys⟩,ty,pos,aft,none⟩::rest) K F H :=
 .perm hs.perm (.callH (s:=lit (.func (.func f) #[] #[])) (first:=[]) (caps:=[]) rfl hc (Spl.app _ _) (by rw [List.nil_append,List.append_nil];exact ha) hd (fun res H' h=>k res H' h) fun _ _ h=>h.elim)
end
theorem copyCheck_f (w:Nat) (s:SV) (d:Nat) (lg:Bool):PuH Tryz.prog 327 [lit (.pointer (some ⟨w,0,none⟩))] [(w,289,wrC fresh s d lg)]
  (fun r H=>r=Ab.tup []∧H=[(w,289,wrC (self w) s d lg)]) noX:=by
 refine PuH.intro Tryz.func327 rfl (by kernel_rfl) fun C hC=>?_
 repeat(refine A1 ⟨?_⟩;intros)
 refine Wo (ov_toUns (by kernel_rfl) (by kernel_rfl) mmA (by kernel_rfl) rfl) ?_
 refine Wo (ov_noEsc (s:=lit (.pointer (some ⟨w,0,none⟩))) rfl) ?_
 refine Wo (ov_ofUns (by kernel_rfl) (by kernel_rfl) mmA (by kernel_rfl) rfl) ?_
 repeat(refine A1 ⟨?_⟩;intros)
 exact endHN _ _ end0 (List.Sublist.refl _) ⟨rfl,rfl⟩
theorem copyCheck_s (w:Nat) (s:SV) (d:Nat) (lg:Bool):PuH Tryz.prog 327 [lit (.pointer (some ⟨w,0,none⟩))] [(w,289,wrC (self w) s d lg)]
  (fun r H=>r=Ab.tup []∧H=[(w,289,wrC (self w) s d lg)]) noX:=by
 refine PuH.intro Tryz.func327 rfl (by kernel_rfl) fun C hC=>?_
 repeat(refine A1 ⟨?_⟩;intros)
 refine Wo (ov_pneS (by kernel_rfl) rfl rfl) ?_
 repeat(refine A1 ⟨?_⟩;intros)
 exact endHN _ _ end0 (List.Sublist.refl _) ⟨rfl,rfl⟩
theorem copyCheck_pu {a:SV}{w:Nat}(ha:a=fresh∨a=self w) (s:SV) (d:Nat) (lg:Bool):PuH Tryz.prog 327 [lit (.pointer (some ⟨w,0,none⟩))] [(w,289,wrC a s d lg)]
  (fun r H=>r=Ab.tup []∧H=[(w,289,wrC (self w) s d lg)]) noX:=by
 rcases ha with rfl|rfl
 ·exact copyCheck_f w s d lg
 ·exact copyCheck_s w s d lg
theorem writeString_pu {a:SV}{w:Nat}(ha:a=fresh∨a=self w){l:List UInt8}{s:SV}{Hb:LH}(hb:Byt l s Hb) (t:List UInt8) (hl:l.length+t.length≤1000000000) (d:Nat) (lg:Bool) :
  PuH Tryz.prog 276 [lit (.pointer (some ⟨w,0,none⟩)),str t] ((w,289,wrC a s d lg)::Hb)
   (fun r H=>∃s' Hb',Byt (l++t) s' Hb'∧r=Ab.tup [lit (.int .i64 (t.length:Int)),lit .nilIface]∧H=(w,289,wrC (self w) s' d lg)::Hb') noX:=by
 haveI:=hb.co
 refine PuH.intro Tryz.func276 rfl (by kernel_rfl) fun C hC=>?_
 repeat(refine A1 ⟨?_⟩;intros)
 refine WfH (copyCheck_pu ha s d lg) ?_
 rintro _ _ ⟨rfl,rfl⟩
 simp only [List.cons_append,List.nil_append]
 repeat(refine A1 ⟨?_⟩;intros)
 refine WPL.appStr hb rfl rfl (List.perm_append_comm (l₁:=[_])) hl ?_ rfl
 intro s' Hb' hb'
 haveI:=hb'.co
 refine WPL.perm List.perm_append_comm ?_
 simp only [List.cons_append,List.nil_append]
 repeat(refine A1 ⟨?_⟩;intros)
 refine WPL.store (b:=w) (o:=1) (sv:=s') (cs':=wrC (self w) s' d lg) rfl rfl rfl (.here _) rfl rfl ?_
 repeat(refine A1 ⟨?_⟩;intros)
 exact endHR _ _ (end2 (RV.tmp rfl) (RV.tmp rfl) (Le.refl _)) (List.Sublist.refl _) ⟨s',Hb',hb',rfl,rfl⟩
theorem put1_pu {a:SV}{w b:Nat}(ha:a=fresh∨a=self w){l:List UInt8}{s:SV}{Hb:LH}(hb:Byt l s Hb) (t:List UInt8) (hl:l.length+t.length≤1000000000) (d:Nat) (lg:Bool) :
  PuH Tryz.prog 216 [lit (.pointer (some ⟨w,0,none⟩)),lit (.slice (some ⟨b,0,none⟩) 1 1)] ((b,9,[str t])::(w,289,wrC a s d lg)::Hb)
   (fun r H=>∃s' Hb',Byt (l++t) s' Hb'∧r=Ab.tup []∧H=(w,289,wrC (self w) s' d lg)::Hb') noX:=by
 refine PuH.intro Tryz.func216 rfl (by kernel_rfl) fun C hC=>?_
 repeat(refine A1 ⟨?_⟩;intros)
 refine WP.unroll 2 ?_
 refine WPR.succ ?_
 repeat(refine A1 ⟨?_⟩;intros)
 refine WfT (writeString_pu ha hb t hl d lg) ?_
 rintro _ _ ⟨s',Hb',hb',rfl,rfl⟩
 simp only [List.cons_append,List.nil_append]
 repeat(refine A1 ⟨?_⟩;intros)
 exact endHN _ _ end0 (List.Sublist.cons _ (List.Sublist.refl _)) ⟨s',Hb',hb',rfl,rfl⟩
abbrev inval:SV:=lit (.iface 282 (.agg #[]))
theorem le_inval:Le (ifc 282 (ag [])) inval:=fun m v h=>by
 unfold ifc at h
 obtain⟨u,rfl,hu⟩:=h
 unfold ag at hu
 obtain⟨arr,rfl,hall⟩:=hu
 rw [lit_p]
 cases arr with
 |mk l=>cases l with
  |nil=>rfl
  |cons _ _=>exact hall.elim
theorem need_pu (b:Bool):PuH Tryz.prog 213 [lit (.bool b)] [] (fun r H=>b=true∧r=Ab.tup []∧H=[]) (fun pv H=>b=false∧pv=inval∧H=[]):=by
 cases b with
 |true =>
  refine PuH.intro Tryz.func213 rfl (by kernel_rfl) fun C hC=>?_
  repeat(refine A1 ⟨?_⟩;intros)
  exact endHN _ _ end0 (List.Sublist.refl _) ⟨rfl,rfl,rfl⟩
 |false =>
  refine PuH.intro Tryz.func213 rfl (by kernel_rfl) fun C hC=>?_
  repeat(refine A1 ⟨?_⟩;intros)
  refine WPL.low 5 rfl le_inval ?_
  refine Wpan ?_
  rw [hC]
  exact⟨rfl,rfl,rfl⟩
section
variable {P:Program}{C:Ctx}{n:Nat}{F:Fr}{H:LH}{ops:Array Oper}{K:Fr→LH→Prop}{rest:List Oper}{ty:TypeId}{pos:String}{aft:Array Edge}
theorem WfX {f:FuncId}{d:Nat}{l:List Operand}{tys:Array TypeId}{svs:List SV}{Hin Rs:LH}{R X:SV→LH→Prop}(hc:PuH P f svs Hin R X) (k:∀res H',R res H'→WPL P C n ops rest K (upd F d res) (Rs++H')) (kx:∀pv H',X pv H'→C.pan pv (H'++Rs))
  (ha:l.map (ev F)=svs:=by exact rfl) (hs:Tk H Hin Rs:=by(repeat(first|exact Tk.nil _|exact Tk.same _|(apply Tk.cons;(first|exact(HDel.here _)|exact(HDel.there _ (HDel.here _))|exact(HDel.there _ (HDel.there _ (HDel.here _)))|exact(HDel.there _ (HDel.there _ (HDel.there _ (HDel.here _))))|exact(HDel.there _ (HDel.there _ (HDel.there _ (HDel.there _ (HDel.here _)))))))|apply Tk.skip))) (hd:Nat.blt d n=true:=by exact rfl) :
  WPL P C n ops (⟨some d, .call ⟨.value (.func f),l.toArray,tys⟩,ty,pos,aft,none⟩::rest) K F H :=
 .perm hs.perm (.callH (s:=lit (.func (.func f) #[] #[])) (first:=[]) (caps:=[]) rfl hc (Spl.app _ _) (by rw [List.nil_append,List.append_nil];exact ha) hd (fun res H' h => .perm List.perm_append_comm (k res H' h)) fun pv H' h=>kx pv H' h)
end
theorem Wneed {C:Ctx}{n:Nat}{F:Fr}{H:LH}{ops:Array Oper}{K:Fr→LH→Prop}{rest:List Oper}{ty:TypeId}{pos:String}{aft:Array Edge}{d:Nat}{x:Operand}{tys:Array TypeId}{b:Bool}
  (h1:b=true→WPL Tryz.prog C n ops rest K (upd F d (Ab.tup [])) H) (h2:b=false→C.pan inval H) (hx:ev F x=lit (.bool b):=by exact rfl) (hd:Nat.blt d n=true:=by exact rfl) :
  WPL Tryz.prog C n ops (⟨some d, .call ⟨.value (.func 213),[x].toArray,tys⟩,ty,pos,aft,none⟩::rest) K F H:=by
 refine WfX (need_pu b) (Rs:=H) (fun res H' h=>?_) (fun pv H' h=>?_) (by rw [←hx];rfl) (.nil _) hd
 ·obtain⟨hb,rfl,rfl⟩:=h
  rw [List.append_nil]
  exact h1 hb
 ·obtain⟨hb,rfl,rfl⟩:=h
  rw [List.nil_append]
  exact h2 hb
theorem WneedT {C:Ctx}{n:Nat}{F:Fr}{H:LH}{ops:Array Oper}{K:Fr→LH→Prop}{rest:List Oper}{ty:TypeId}{pos:String}{aft:Array Edge}{d:Nat}{x:Operand}{tys:Array TypeId}
  (h1:WPL Tryz.prog C n ops rest K (upd F d (Ab.tup [])) H) (hx:ev F x=lit (.bool true):=by exact rfl) (hd:Nat.blt d n=true:=by exact rfl) :
  WPL Tryz.prog C n ops (⟨some d, .call ⟨.value (.func 213),[x].toArray,tys⟩,ty,pos,aft,none⟩::rest) K F H:=Wneed (fun _=>h1) (fun h=>by cases h) hx hd
theorem WneedF {C:Ctx}{n:Nat}{F:Fr}{H:LH}{ops:Array Oper}{K:Fr→LH→Prop}{rest:List Oper}{ty:TypeId}{pos:String}{aft:Array Edge}{d:Nat}{x:Operand}{tys:Array TypeId}
  (h2:C.pan inval H) (hx:ev F x=lit (.bool false):=by exact rfl) (hd:Nat.blt d n=true:=by exact rfl) :
  WPL Tryz.prog C n ops (⟨some d, .call ⟨.value (.func 213),[x].toArray,tys⟩,ty,pos,aft,none⟩::rest) K F H:=Wneed (fun h=>by cases h) (fun _=>h2) hx hd
end Go.Ab
