/- Texts laid one behind the other: Ins, ArrA, Edg, ImM, Fld, RLn, GBase. -/
import Derived.Test.YtbcojehfealiaaaGreatDoorB16
import Derived.Test.YtbcojehfealiaaaGreatDoorB14
import Derived.LoopNIn
set_option linter.all false
set_option maxHeartbeats 16000000
namespace Go.Ab
open Go.Proofs
variable [Base]
section
variable {P:Program}{C:Ctx}{n:Nat}{F:Fr}{H:LH}{ty:TypeId}
theorem A3 {m:Mem}{b k:Nat}{arr:Array Value}{T:TypeId}{cs:List SV}(hb:m b=some (.cells arr T (0,0))) (h:az m cs arr.toList) (hk:k≤maxLen):(xsl cs k).p m (.slice (some ⟨b,0,none⟩) k k):=by
 unfold xsl;exact⟨some ⟨b,0,none⟩,rfl,hk,fun e=>(by cases e), .inr ⟨b,0,rfl,arr,T,(0,0),hb,by rw [List.drop_zero,←h.length,List.take_length];exact h⟩⟩
theorem iB {T e:TypeId}{sz by_:Nat}{z:List SV}{g:Bool} [hS:TSl P T e] [hT:TY P e sz by_ z g]{x:Operand}{s:SV}{ds:List SV}(hx:ev F x=s) (hco:CO s ds) (hf:fS ((List.range 1).map fun i=>(i*sz,sz)) (List.replicate 1 z).flatten [(0,ds)]=some ds:=by exact rfl)
  (hsz:Nat.ble (1*sz) 16777216=true:=by exact rfl) (hpos:Nat.blt 0 sz=true:=by exact rfl):OpV P (.buildSlice T 1 [(0,x)].toArray) ty F H (xsl ds 1) :=
 OpV.pubN (ii (.cons hx hco .nil) hf hsz hpos) fun m b arr hb h=>A3 hb h (by simp only [maxLen];omega)
theorem cg {T e:TypeId}{sz by_:Nat}{z:List SV}{g:Bool} [hS:TSl P T e] [hT:TY P e sz by_ z g]{len:Nat}{l:List (Nat×Operand)}{r:List (Nat×List SV)}{cs:List SV}(hp:dp F l r) (hf:fS ((List.range len).map fun i=>(i*sz,sz)) (List.replicate len z).flatten r=some cs:=by exact rfl)
  (hsz:Nat.ble (len*sz) 16777216=true:=by exact rfl) (hpos:Nat.blt 0 sz=true:=by exact rfl) (hl:Nat.ble len 1000=true:=by exact rfl):OpV P (.buildSlice T len l.toArray) ty F H (sl cs len) :=
 OpV.pubN (ii hp hf hsz hpos) fun m b arr hb h=>DQ hb h (by have:=Nat.le_of_ble_eq_true hl;simp only [maxLen];omega)
theorem JW {T e:TypeId}{sz by_:Nat}{z:List SV}{g:Bool} [hS:TSl P T e] [hT:TY P e sz by_ z g]{x y:Operand}{cs:List SV}{k:Nat}{v:Int}(j:Nat) (hx:ev F x=sl cs k) (hy:ev F y=lit (.int .i64 v)) (hv:v=(j:Int)) (hj:j≤k) :
  OpV P (.slice T x none (some y) none) ty F H (sl (cs.take (j*sz)) j) :=
 OpV.pure fun m w o a ho _ _ _ h=>by
  have e0:=h x (by simp [Op.operands]);rw [hx]at e0;have e1:=h y (by simp [Op.operands]);rw [hy,aq]at e1;subst hv;obtain⟨ad,cap,e0,hc1,hc2,hca⟩:=cE e0
  have hb:(Instr.sliceBounds true k cap none (some (a.eval y)) none).run P w = .ok (0,j,cap) w:=by
   simp [Instr.sliceBounds,ig j cap _ e1 om]
  have hrun:∃a',(execOp a.eval o).run P w = .ok (.value (.slice a' j cap)) w∧∀b off,ad=some ⟨b,off,none⟩→a'=some ⟨b,off,none⟩:=by
   refine⟨if cap=0 then ad else ad.map (·.add 0),?_,?_⟩
   ·simp [execOp,ho,Instr.sliceAt,Instr.slice,underlying,hS.h,e0,hb,hT.run_size]
   ·rintro b off rfl;simp [aO]
  obtain⟨a',hr,q3⟩:=hrun;refine⟨_,hr,f4 om hc2 ?_⟩;rcases hca with hnil|⟨b,off,rfl,hca⟩
  ·left;rw [hnil,List.take_nil]
  ·exact .inr ⟨b,off,q3 b off rfl,hca.take _⟩
theorem gB {T e:TypeId}{sz by_:Nat}{z:List SV}{g:Bool} [hS:TSl P T e] [hT:TY P e sz by_ z g]{x y y':Operand}{cs:List SV}{k:Nat}{v v':Int}(j:Nat) (hx:ev F x=sl cs k) (hy:ev F y=lit (.int .i64 v)) (hy':ev F y'=lit (.int .i64 v')) (hv:v=(j:Int)) (hv':v'=(j:Int)) (hk:cs.length=k*sz) (hj:j≤k) (hpos:0<sz:=by decide) :
  OpV P (.slice T x none (some y) (some y')) ty F H (xsl (cs.take (j*sz)) j) :=
 OpV.pure fun m w o a ho _ _ _ h=>by
  have e0:=h x (by simp [Op.operands]);rw [hx]at e0;have e1:=h y (by simp [Op.operands]);rw [hy,aq]at e1;have e2:=h y' (by simp [Op.operands]);rw [hy',aq]at e2;subst hv hv';obtain⟨ad,cap,e0,hc1,hc2,hca⟩:=cE e0
  have hb:(Instr.sliceBounds true k cap none (some (a.eval y)) (some (a.eval y'))).run P w = .ok (0,j,j) w:=by
   simp [Instr.sliceBounds,ig j cap _ e2 om,ig j j _ e1 (Nat.le_refl _)]
  have hrun:∃a',(execOp a.eval o).run P w = .ok (.value (.slice a' j j)) w∧(∀q,ad=some q→∃q',a'=some q')∧∀b off,ad=some ⟨b,off,none⟩→a'=some ⟨b,off,none⟩:=by
   refine⟨if j=0 then ad else ad.map (·.add 0),?_,?_,?_⟩
   ·simp [execOp,ho,Instr.sliceAt,Instr.slice,underlying,hS.h,e0,hb,hT.run_size]
   ·rintro q rfl;split <;> simp
   ·rintro b off rfl;simp [aO]
  obtain⟨a',hr,q2,q3⟩:=hrun;refine⟨_,hr,?_⟩;unfold xsl;refine⟨a',rfl,om,fun hn=>?_,?_⟩
  ·rcases hca with hnil|⟨b,off,rfl,_⟩
   ·rw [hnil,List.length_nil]at hk;rcases Nat.mul_eq_zero.mp hk.symm with h|h <;> omega
   ·obtain⟨q',hq⟩:=q2 _ rfl;rw [hq]at hn;cases hn
  ·rcases hca with hnil|⟨b,off,rfl,hca⟩
   ·left;rw [hnil,List.take_nil]
   ·exact .inr ⟨b,off,q3 b off rfl,hca.take _⟩
theorem aG {T e:TypeId}{sz by_:Nat}{z:List SV}{g:Bool} [hS:TSl P T e] [hT:TY P e sz by_ z g]{x y:Operand}{cs ds:List SV}{k k0:Nat}(hx:ev F x=xsl cs k) (hy:ev F y=sl ds k0) (hk:cs.length=k*sz) (hds:ds.length=k0*sz) (hl:k+k0≤1000000) (hpos:0<sz:=by decide) (hby:by_≤10000:=by decide) :
  OpV P (.call ⟨.builtin .append,#[x,y],#[T,T]⟩) ty F H (sl (cs++ds) (k+k0)):=by
 refine OpV.of0 ?_;intro m w o a ho hty h1 h2 h3 K Q hK;have e0:=evA (x:=x) h3 (by simp [Op.operands,Call.operands]);rw [hx]at e0;have e1:=evA (x:=y) h3 (by simp [Op.operands,Call.operands]);rw [hy]at e1;unfold xsl at e0;obtain⟨ad,e0,hkm,hadn,hca⟩:=e0;have e1s:=e1;obtain⟨ad2,cap2,e2,hc1,hc2,hcb⟩:=cE e1s;obtain⟨i,v,hi,hsz,hbyt,hz,hzl,hfl,hvs⟩:=hT.run_bytes;have hmul:∀q,q≤2000001→q*by_≤140737488355328:=fun q hq=>Nat.le_trans (Nat.mul_le_mul hq hby) (by decide)
 have hexec:execOp a.eval o=(do let v←Builtin.append_ #[T,T] o.type #[a.eval x,a.eval y];pure (.value v)):=by
  simp [execOp,ho,resolve,invoke,builtin]
 by_cases hk0:k0=0
 ·subst hk0;rw [Nat.zero_mul]at hds;obtain rfl:=List.eq_nil_of_length_eq_zero hds
  have hs:Src P i.size T (.slice ad2 0 cap2) 0 [] w:=by
   cases ad2 with
   |none=>exact Src.ofNil w hS.h cap2
   |some a2=>exact Src.ofSlice w hS.h a2 0 cap2 [] (by simp) (by intro j u hj;simp at hj) (by intro u hu;cases hu)
  have hrun:=run_append_nothing (P:=P) w T T o.type e i hS.h hi ad k k (Nat.le_refl _) _ hs;unfold Oper.wp;rw [hexec,e0,e2];simp only [Sem.run_bind,hrun,Result.andThen_ok,Sem.run_pure];refine hK _ m w (f4 (Nat.le_refl _) hkm ?_) h1 (Rel.refl _ _ _);rw [List.append_nil];exact hca
 ·obtain⟨b2,off2,rfl,arr2,T2,fz2,hb2,hall2⟩:=hcb.resolve_left (fun h=>by
   rw [h,List.length_nil]at hds;rcases Nat.mul_eq_zero.mp hds.symm with h|h <;> omega)
  have hw2:=h1 _ _ hb2;rw [hds]at hall2;generalize hl2:(arr2.toList.drop off2).take (k0*sz)=l2 at hall2;have hlen2:l2.length=k0*sz:=by rw [hall2.length,hds]
  have hys:∀j u,l2[j]? = some u→w.cell? ((⟨b2,off2,none⟩:Addr).add j)=some u:=fun j u hj=>by
   rw [aO,cu w b2 _ arr2 _ _ hw2];rw [←hl2,List.getElem?_take]at hj;split at hj
   ·rw [List.getElem?_drop]at hj;simpa using hj
   ·cases hj
  have fin:∀(c:Nat) (arr:Array Value),k+k0≤c→c≤maxLen→az m (cs++ds) (arr.toList.take ((k+k0)*sz))→(Builtin.append_ #[T,T] o.type #[a.eval x,a.eval y]).run P w = .ok (.slice (some ⟨w.heap.size,0,none⟩) (k+k0) c) (w.drew.alloc (.cells arr e))→o.wp P a w K Q:=by
   intro c arr hc hcm hall hrun;unfold Oper.wp;rw [hexec];simp only [Sem.run_bind,hrun,Result.andThen_ok,Sem.run_pure];obtain⟨m',g1,g2,g3⟩:=Av (w':=w.drew.alloc (.cells arr e)) h1 (.inr rfl);refine hK _ m' _ (f4 hc hcm (.inr ⟨w.heap.size,0,rfl,arr,e,(0,0),g3,?_⟩)) g1 g2;rw [List.drop_zero,List.length_append,hk,hds,←Nat.add_mul];exact hall.mono g2.le
  have tk:∀(l1 r:List Value),az m cs l1→l1.length=k*sz→az m (cs++ds) ((l1++l2++r).take ((k+k0)*sz)):=fun l1 r hall1 hlen1=>by
   have hlk:(l1++l2).length=(k+k0)*sz:=by rw [List.length_append,hlen1,hlen2,Nat.add_mul]
   rw [List.take_append_of_le_length (by rw [hlk];exact Nat.le_refl _),List.take_of_length_le (by rw [hlk];exact Nat.le_refl _)];exact hall1.append hall2
  rcases hca with hnil|⟨b1,off1,rfl,arr1,T1,fz1,hb1,hall1⟩
  ·subst hnil
   have hk1:k=0:=by
    rw [List.length_nil]at hk;rcases Nat.mul_eq_zero.mp hk.symm with h|h <;> omega
   subst hk1;cases ad with
   |none =>
    have hrun:=run_append_nil (P:=P) w T o.type e i v hS.h hi hz ⟨b2,off2,none⟩ k0 cap2 l2 (by rw [hlen2,hsz]) hys om om (by rw [hbyt];have:=hmul k0 om;omega);rw [←e0,←e2]at hrun;refine fin (grownCap w k0 0 e) _ (by rw [Nat.zero_add];exact grownCap_ge w k0 0 e) (grownCap_le_maxLen w k0 0 e (by simp only [maxLen];omega)) ?_ (by rw [Nat.zero_add];exact hrun);simp only [Array.toList_append,List.toList_toArray];exact tk [] _ trivial (by simp)
   |some ad =>
    refine fin _ _ (grownCap_ge w (0+k0) 0 e) (grownCap_le_maxLen w (0+k0) 0 e (by simp only [maxLen];omega)) ?_ (by rw [e0,e2];exact run_append_grow (P:=P) w T o.type e i v hS.h hi hz ad 0 0 [] (by simp) (by intro j u hj;simp at hj) ⟨b2,off2,none⟩ k0 cap2 l2 (by rw [hlen2,hsz]) hys om om (growslice_fits om (by rw [hbyt];exact hmul _ om)));simp only [Array.toList_append,List.toList_toArray];exact tk [] _ trivial (by simp)
  ·have hw1:=h1 _ _ hb1;have hlen1:=hall1.length;rw [hk]at hall1 hlen1
   have hxs:∀j u,((arr1.toList.drop off1).take (k*sz))[j]? = some u→w.cell? ((⟨b1,off1,none⟩:Addr).add j)=some u:=fun j u hj=>by
    rw [aO,cu w b1 _ arr1 _ _ hw1];rw [List.getElem?_take]at hj;split at hj
    ·rw [List.getElem?_drop]at hj;simpa using hj
    ·cases hj
   refine fin _ _ (grownCap_ge w (k+k0) k e) (grownCap_le_maxLen w (k+k0) k e (by simp only [maxLen];omega)) ?_ (by rw [e0,e2];exact run_append_grow (P:=P) w T o.type e i v hS.h hi hz ⟨b1,off1,none⟩ k k ((arr1.toList.drop off1).take (k*sz)) (by rw [hlen1,hsz]) hxs ⟨b2,off2,none⟩ k0 cap2 l2 (by rw [hlen2,hsz]) hys om om (growslice_fits om (by rw [hbyt];exact hmul _ om)));simp only [Array.toList_append,List.toList_toArray];exact tk _ _ hall1 hlen1
theorem rO {cs:List SV}{k:Nat}:Le (xsl cs k) (sl cs k):=fun m v h=>by
 unfold xsl at h;obtain⟨a,rfl,hk,_,hca⟩:=h;exact f4 (Nat.le_refl _) hk hca
end
theorem pj {α:Type}{f:α→List SV}{sz:Nat}(hf:∀a,(f a).length=sz) (l:List α) (x:α) (j:Nat):((l.map f).flatten).take (j*sz)++(f x++((l.map f).flatten).drop (j*sz))=(((l.take j)++x::l.drop j).map f).flatten:=by
 have h:∀(l:List α) (j:Nat),((l.map f).flatten).take (j*sz)=((l.take j).map f).flatten∧((l.map f).flatten).drop (j*sz)=((l.drop j).map f).flatten:=by
  intro l;induction l with
  |nil=>intro j;simp
  |cons a l ih =>
   intro j;cases j with
   |zero=>simp
   |succ j =>
    obtain⟨i1,i2⟩:=ih j;have e:(j+1)*sz=(f a).length+j*sz:=by rw [hf,Nat.succ_mul];omega
    constructor
    ·rw [List.map_cons,List.flatten_cons,e,List.take_length_add_append,i1,List.take_succ_cons,List.map_cons,List.flatten_cons]
    ·rw [List.map_cons,List.flatten_cons,e,List.drop_length_add_append,i2,List.drop_succ_cons]
 obtain⟨i1,i2⟩:=h l j;rw [i1,i2,List.map_append,List.flatten_append,List.map_cons,List.flatten_cons]
theorem cJ {α:Type}{f:α→List SV}{sz:Nat}(hf:∀a,(f a).length=sz) (l:List α):((l.map f).flatten).length=l.length*sz:=by
 induction l with
 |nil=>simp
 |cons a l ih=>rw [List.map_cons,List.flatten_cons,List.length_append,ih,hf,List.length_cons,Nat.succ_mul,Nat.add_comm]
theorem ua {α:Type}{f:α→List SV}{sz:Nat}(hf:∀a,(f a).length=sz):∀(l:List α) (j:Nat),((l.map f).flatten).take (j*sz)=((l.take j).map f).flatten
 | [],j=>by simp
 |a::l,0=>by simp
 |a::l,j+1=>by
  have e:(j+1)*sz=(f a).length+j*sz:=by rw [hf,Nat.succ_mul];omega
  rw [List.map_cons,List.flatten_cons,e,List.take_length_add_append,ua hf l j,List.take_succ_cons,List.map_cons,List.flatten_cons]
theorem DW {α:Type}{f:α→List SV}{sz:Nat}(hf:∀a,(f a).length=sz):∀{l:List α}{k:Nat}{a:α}(r:List SV),l[k]? = some a→(((l.map f).flatten++r).drop (k*sz)).take sz=f a
 | [],k,a,r,h=>by simp at h
 |b::l,0,a,r,h=>by
  simp only [List.getElem?_cons_zero,Option.some.injEq]at h;subst h;rw [Nat.zero_mul,List.drop_zero,List.map_cons,List.flatten_cons,List.append_assoc,List.take_append_of_le_length (by rw [hf];exact Nat.le_refl _),List.take_of_length_le (by rw [hf];exact Nat.le_refl _)]
 |b::l,k+1,a,r,h=>by
  have e:(k+1)*sz=(f b).length+k*sz:=by rw [hf,Nat.succ_mul];omega
  rw [List.map_cons,List.flatten_cons,List.append_assoc,e,List.drop_length_add_append];exact DW hf r (by simpa using h)
def xP:Nat→List (List SV)→List (Nat×List SV)
 |_,[]=>[]
 |i,d::r=>(i,d)::xP (i+1) r
theorem Ad:∀(ds pre zs:List SV),ds.length≤zs.length→spl (pre++zs) pre.length ds=pre++ds++zs.drop ds.length
 | [],pre,zs,_=>by rw [spl];simp
 |d::ds,pre,[],h=>by simp at h
 |d::ds,pre,z::zs,h=>by
  have e:(pre++z::zs).set pre.length d=(pre++[d])++zs:=by
   rw [List.set_append_right _ _ (Nat.le_refl _),Nat.sub_self,List.set_cons_zero];simp
  rw [spl,e,show pre.length+1=(pre++[d]).length by simp,Ad ds (pre++[d]) zs (by simpa using h)];simp
theorem uc {sz len:Nat}:∀(dss:List (List SV)) (i:Nat) (pre zs:List SV),(∀d∈dss,d.length=sz)→pre.length=i*sz→i+dss.length=len→zs.length=dss.length*sz→
  fS ((List.range len).map fun i=>(i*sz,sz)) (pre++zs) (xP i dss)=some (pre++dss.flatten)
 | [],i,pre,zs,_,_,_,hz=>by
  rw [List.length_nil,Nat.zero_mul]at hz;rw [List.eq_nil_of_length_eq_zero hz,xP,fS];rfl
 |d::dss,i,pre,zs,hd,hp,hl,hz=>by
  have hd0:=hd d Ms;rw [List.length_cons,Nat.succ_mul]at hz
  have hg:((List.range len).map fun i=>(i*sz,sz))[i]? = some (i*sz,sz):=by
   rw [List.getElem?_map,List.getElem?_range (by simp only [List.length_cons]at hl;omega)];rfl
  have hsp:=Ad d pre zs om;rw [xP,fS,hg];simp only;rw [hd0,show Nat.beq sz sz=true from Nat.beq_refl sz,show Nat.ble (i*sz+sz) (pre++zs).length=true from Nat.ble_eq_true_of_le (by rw [List.length_append];omega),←hp,hsp];simp only [Bool.and_self,cond_true];rw [uc dss (i+1) (pre++d) (zs.drop d.length) (fun x hx=>hd x (Mc hx)) (by rw [List.length_append,hp,hd0,Nat.succ_mul]) (by simp only [List.length_cons]at hl;omega) (by rw [List.length_drop];omega)];simp
theorem ve {P:Program}{F:Fr}{H:LH}{ty T e:TypeId}{sz by_:Nat}{z:List SV}{g:Bool} [hS:TSl P T e] [hT:TY P e sz by_ z g]{α:Type}{f:α→List SV}(hf:∀a,(f a).length=sz) (ps:List α){len:Nat}{l:List (Nat×Operand)}{r:List (Nat×List SV)}(hp:dp F l r)
  (hr:r=xP 0 (ps.map f):=by exact rfl) (hn:len=ps.length:=by exact rfl) (hsz:Nat.ble (len*sz) 16777216=true:=by exact rfl) (hpos:Nat.blt 0 sz=true:=by exact rfl) (hl:Nat.ble len 1000=true:=by exact rfl):OpV P (.buildSlice T len l.toArray) ty F H (sl (ps.map f).flatten ps.length):=by
 have hz1:z.length=sz:=by
  obtain⟨l,_,h2,_,h4⟩:=hT.info;rw [←h2,List.length_map,h4]
 subst hn hr;refine cg hp ?_ hsz hpos hl
 have:=uc (sz:=sz) (len:=ps.length) (ps.map f) 0 [] (List.replicate ps.length z).flatten (fun d hd=>by
  obtain⟨a,_,rfl⟩:=List.mem_map.1 hd;exact hf a) (by simp) (by simp) (by
  have h:∀k:Nat,((List.replicate k z).flatten).length=k*sz:=fun k=>by
   induction k with
   |zero=>simp
   |succ k ih=>rw [List.replicate_succ,List.flatten_cons,List.length_append,ih,hz1,Nat.succ_mul,Nat.add_comm]
  rw [h,List.length_map])
 simpa using this
theorem dp.pt {F:Fr}{i:Nat}{x:Operand}{cs:List SV}{l:List (Nat×Operand)}{r:List (Nat×List SV)}(hx:ev F x=ag cs) (h:dp F l r):dp F ((i,x)::l) ((i,cs)::r) := .cons hx inferInstance h
section
variable {P:Program}{C:Ctx}{n:Nat}{Q:Exit→Fr→LH→Prop}{F:Fr}{H:LH}
theorem WP.rowS {c:Code}{T:TypeId}{sz k:Nat}{cs:List SV}{s:SV}{Hs R:LH}(d:Nat) (hown:Own T sz k cs s Hs) (hF:F d=s) (hp:H.Perm (Hs++R)) (h:WP P C n c Q (upd F d (sl cs k)) R):WP P C n c Q F H:=by
 refine WP.perm hp ?_;obtain⟨hcl,⟨rfl,rfl,rfl⟩|⟨b,c',h1,h2,rfl,rfl⟩⟩:=hown
 ·rw [Nat.zero_mul]at hcl;obtain rfl:=List.eq_nil_of_length_eq_zero hcl;refine WP.le (F':=upd F d (sl [] 0)) (fun t=>?_) h;by_cases ht:t=d
  ·subst ht;rw [aF,hF];exact ft
  ·rw [av ht];exact Le.refl _
 ·exact WP.pub (ak.here _) hF (fun m arr g1 g2=>wQ g1 g2 h1 h2) h
theorem WPL.rowS {l:List Oper}{ops:Array Oper}{K:Fr→LH→Prop}{T:TypeId}{sz k:Nat}{cs:List SV}{s:SV}{Hs R:LH}(d:Nat) (hown:Own T sz k cs s Hs) (hF:F d=s) (hp:H.Perm (Hs++R)) (h:WPL P C n ops l K (upd F d (sl cs k)) R):WPL P C n ops l K F H:=by
 refine WPL.perm hp ?_;obtain⟨hcl,⟨rfl,rfl,rfl⟩|⟨b,c',h1,h2,rfl,rfl⟩⟩:=hown
 ·rw [Nat.zero_mul]at hcl;obtain rfl:=List.eq_nil_of_length_eq_zero hcl;refine WPL.le (F':=upd F d (sl [] 0)) (fun t=>?_) h;by_cases ht:t=d
  ·subst ht;rw [aF,hF];exact ft
  ·rw [av ht];exact Le.refl _
 ·exact WPL.pub (ak.here _) hF (fun m arr g1 g2=>wQ g1 g2 h1 h2) h
end
section
variable {P:Program}{F:Fr}{H:LH}{ty:TypeId}
theorem Cm {T e:TypeId}{len k sz by_ by2:Nat}{z z2:List SV}{g g2:Bool} [hE:TY P e k by2 z2 g2] [hT:TY P T sz by_ z g] (hA:P.underlying T=some (.array len e)){l:List (Nat×Operand)}{r:List (Nat×List SV)}{cs:List SV}
  (hp:dp F l r) (hf:fS ((List.range len).map fun i=>(i*k,k)) z r=some cs):OpV P (.build T l.toArray) ty F H (ag cs) :=
 OpV.pure fun m w o a ho _ _ _ h=>by
  obtain⟨v,hz,hall⟩:=hT.run_zero w;have hv:∀p∈l,(ev F p.2).p m (a.eval p.2):=fun p hp'=>h p.2 (by simp only [Op.operands,List.mem_toArray,List.mem_map];exact⟨p,hp',rfl⟩)
  obtain⟨arr',hfill,hall'⟩:=lQ (m:=m) (ρ:=a.eval) (fun i=>some (i*k,k)) (fun i p h=>by
   simp only [List.getElem?_map,Option.map_eq_some_iff]at h;obtain⟨j,hj,rfl⟩:=h;obtain⟨hlt,rfl⟩:=List.getElem?_eq_some_iff.1 hj;simp) hp hv z v.cells cs (hall m) hf
  refine⟨.agg arr',?_,by unfold ag;exact⟨arr',rfl,hall'⟩⟩;simp only [execOp,ho,Instr.build,Sem.run_bind,hz,Result.andThen_ok,underlying,run_program,hA,Sem.run_pure,hE.run_size,List.map_toArray];rw [hfill];rfl
theorem dh {x ix:Operand}{T e:TypeId}{len k by2:Nat}{z2:List SV}{g2:Bool} [hE:TY P e k by2 z2 g2] (hA:P.underlying T=some (.array len e)){ki:IntKind}{b:Nat}{i:Int}
  (hx:ev F x=lit (.pointer (some ⟨b,0,none⟩))) (hi:ev F ix=lit (.int ki i)) (h0:0≤i) (h1:i<len):OpV P (.indexAddr T x ix) ty F H (lit (.pointer (some ⟨b,i.toNat*k,none⟩))) :=
 OpV.pure fun m w o a hop _ _ _ h=>by
  have e0:=h x (by simp [Op.operands]);rw [hx,aq]at e0;have e1:=h ix (by simp [Op.operands]);rw [hi,aq]at e1;refine⟨.pointer (some ⟨b,i.toNat*k,none⟩),?_,aq.2 rfl⟩;simp [execOp,hop,e0,e1,Instr.indexAt,Instr.sureAddr,asIntOf,underlying,hA,h0,h1,hE.run_size,aO]
end
abbrev ppx (p:Pq):List SV:=[lit (.int .i64 (r0 p.1)),lit (.int .i64 (r1 p.1)),r2 p.1,lit (.int .i64 (r0 p.2)),lit (.int .i64 (r1 p.2)),r2 p.2]
theorem uU (p:Pq):(ppx p).length=6:=rfl
abbrev pps (l:List Pq):SV:=sl (l.map ppx).flatten l.length
section
variable {P:Program}{C:Ctx}{n:Nat}{F:Fr}{H:LH}{Post:Exit→Act→World→Prop}
attribute [local semireducible] WP WPL dW iM Dk
def WPY (P:Program) (C:Ctx) (n:Nat) (c:Code) (Post:Exit→Act→World→Prop) (F:Fr) (H:LH):Prop:=∀a w,St C n F H a w→∀d,c.wpIn (fe none) d P Post a w
theorem WPY.seq {x y:Code}(hpan:∀pv H,¬C.pan pv H) (h:WPX none P C n x (fO fun F H=>WPY P C n y Post F H) F H):WPY P C n (.seq x y) Post F H:=by
 intro a w hs d;refine wpIn_seq (wpIn_mono (h a w hs d) ?_);rintro e a' w' (⟨F',H',hs',hq⟩|⟨ch,rfl,_,m,v,pv,H',_,_,_,_,_,_,hx⟩)
 ·cases e with
  |normal=>exact hq a' w' hs' d
  |_=>exact hq.elim
 ·exact absurd hx (hpan _ _)
theorem fO.i {K:Fr→LH→Prop}(h:K F H):fO K .normal F H:=h
theorem WPY.exitF {c:Operand}{id:Nat}{y:Code}(hc:ev F c=lit (.bool false)) (h:∀a w,St C n F H a w→Post (.exit id) a w):WPY P C n (.seq (.cond c .skip (.exit id)) y) Post F H:=by
 intro a w hs d;obtain⟨m,_,hp⟩:=hs.evp;have hv:=hp c;rw [hc,aq]at hv;exact wpIn_seq (wpIn_cond_false hv (wpIn_exit (h a w hs)))
theorem WPY.goT {c:Operand}{id:Nat}{y:Code}(hc:ev F c=lit (.bool true)) (h:WPY P C n y Post F H):WPY P C n (.seq (.cond c .skip (.exit id)) y) Post F H:=by
 intro a w hs d;obtain⟨m,_,hp⟩:=hs.evp;have hv:=hp c;rw [hc,aq]at hv;exact wpIn_seq (wpIn_cond_true hv (wpIn_skip (h a w hs d)))
theorem WPY.seqB {id:Nat}{x y:Code}(h:WPY P C n x (Exit.inBlock id (Exit.then (fun a w=>∀d,y.wpIn (fe none) d P Post a w) Post)) F H):WPY P C n (.seq (.block id x) y) Post F H:=by
 intro a w hs d;refine wpIn_seq (wpIn_block (wpIn_mono (h a w hs d) ?_));intro e a w hq;cases e with
 |normal=>exact hq d
 |exit id' =>
  simp only [Exit.inBlock]at hq⊢;split
  ·rename_i e;rw [if_pos e]at hq;exact hq d
  ·rename_i e;rw [if_neg e]at hq;exact hq
 |_=>exact hq
theorem WPY.last {c:Code}{Q:Exit→Fr→LH→Prop}(h:WPX none P C n c Q F H) (k:∀e a w,g8 C n Q e a w→Post e a w):WPY P C n c Post F H:=fun a w hs d=>wpIn_mono (h a w hs d) k
theorem WPY.block {id:Nat}{c:Code}(h:WPY P C n c (Exit.inBlock id Post) F H):WPY P C n (.block id c) Post F H:=fun a w hs d=>wpIn_block (h a w hs d)
end
theorem wC {P:Program}{w w':World}{a:Act}{x:Operand}{l:Nat}{nx:Next}{args:List Operand}{tys:Array TypeId}{d:Option Nat}{ty:TypeId}{pos:String}{aft:Array Edge}(hx:a.eval x = .func (.yield l) #[] #[]) (hy:(Instr.yield l (args.map a.eval).toArray).run P w = .ok nx w') :
  (execOp a.eval (⟨d, .call ⟨.value x,args.toArray,tys⟩,ty,pos,aft,none⟩:Oper)).run P w = .ok nx w':=by
 simp only [execOp,resolve,hx,Sem.run_bind,Deferred.ofValue,Sem.run_pure,Result.andThen_ok,invoke,List.map_toArray,Array.empty_append,Array.append_empty];exact hy
theorem vz {P:Program}{ops:Array Oper}{Q:Exit→Act→World→Prop}{rest:List Oper}{dd:Nat}{w:World}{a:Act}{x:Operand}{l l':Nat}{args:List Operand}{tys:Array TypeId}{d:Option Nat}{ty:TypeId}{pos:String}{aft:Array Edge}{fn:FuncId}{tmps:Array Value}{asg bdy:Code}
  (hx:a.eval x = .func (.yield l) #[] #[]) (hy:(Instr.yield l (args.map a.eval).toArray).run P w = .ok (.round l' fn tmps asg bdy) w) (hR:RoundIn (fe none) (dd-1) P l' fn tmps asg bdy w fun
   | .returned v,w''=>wpListIn (fe none) dd P ops Q rest (a.put d v) w''
   | .panicked chain,w''=>Q (.panic chain) a w''
   | .outgrown,_=>LetsOut Q):wpListIn (fe none) dd P ops Q (⟨d, .call ⟨.value x,args.toArray,tys⟩,ty,pos,aft,none⟩::rest) a w:=by
 unfold wpListIn;rw [if_pos (show Region.wanted _ _=true from rfl)];refine⟨fun _ _=>trivial,?_⟩;rw [Oper.semAt_eq _ _ _ (fun c e=>by cases e),wC hx hy];exact⟨(fun e=>by cases e),hR⟩
theorem zr {P:Program}{ops:Array Oper}{Q:Exit→Act→World→Prop}{rest:List Oper}{dd:Nat}{w w':World}{a:Act}{o:Oper}{v:Value}(hg:o.guard=none) (hd:(!fu o.op)=true) (hr:(execOp a.eval o).run P w = .ok (.value v) w') (h:wpListIn (fe none) dd P ops Q rest (a.put o.dst v) w'):wpListIn (fe none) dd P ops Q (o::rest) a w:=by
 unfold wpListIn;rw [if_pos (show Region.wanted _ _=true by simp only [Region.wanted,hg])];refine⟨fun _ _=>trivial,?_⟩;rw [Oper.semAt_eq _ _ _ (tE hd),hr];exact h
theorem BS {P:Program}{w:World}{a:Act}{x:Operand}{b:Bool}{T:TypeId}{d:Option Nat}{ty:TypeId}{pos:String}{aft:Array Edge}(hx:a.eval x = .bool b):(execOp a.eval (⟨d, .unOp .not T x,ty,pos,aft,none⟩:Oper)).run P w = .ok (.value (.bool (!b))) w:=by simp only [execOp,hx];cases b <;> rfl
theorem B6 {l:List Pq}{i:Nat}(h:i<l.length):l[i]? = some (l.getD i (0,0)):=by
 rw [List.getD_eq_getElem?_getD,List.getElem?_eq_getElem h];rfl
def Li.neg (l:Li):Li:=⟨-l.a,-l.b,-l.c⟩
theorem IA (a b c:Int):g3 a b c=((Nat.gcd (Nat.gcd a.natAbs b.natAbs) c.natAbs:Nat):Rat):=by
 unfold g3;rw [eQ,show((Nat.gcd a.natAbs b.natAbs:Nat):Rat)=(((Nat.gcd a.natAbs b.natAbs:Nat):Int):Rat)from rfl,eQ,Int.natAbs_natCast]
theorem kM {a:Int}{g:Nat}(hg:g≠0) (h:g∣a.natAbs):((a:Rat)*((g:Nat):Rat)⁻¹).num=sv (decide (a<0)) (a.natAbs/g):=by
 obtain⟨k,hk⟩:=h;have hgr:((g:Nat):Rat)≠0:=by exact_mod_cast hg
 have ek:a.natAbs/g=k:=by rw [hk,Nat.mul_div_cancel_left _ (Nat.pos_of_ne_zero hg)]
 have ea:a=(g:Int)*sv (decide (a<0)) k:=by
  have h0:=eB a;rw [hk]at h0;conv=>lhs;rw [←h0]
  cases decide (a<0)
  ·simp [sv]
  ·simp [sv,Int.mul_neg]
 rw [ek];generalize sv (decide (a<0)) k=z at *
 have:(a:Rat)*((g:Nat):Rat)⁻¹=(z:Rat):=by
  rw [ea,Rat.intCast_mul,Rat.mul_comm,←Rat.mul_assoc];rw [show((g:Int):Rat)=((g:Nat):Rat)from rfl,Rat.inv_mul_cancel _ hgr,Rat.one_mul]
 rw [this,Rat.num_intCast]
theorem Lb {a b:Int}(c:Int) (h:a≠0∨b≠0):Nat.gcd (Nat.gcd a.natAbs b.natAbs) c.natAbs≠0:=by
 intro e;have h1:=(Nat.gcd_eq_zero_iff.1 e).1;have h2:=Nat.gcd_eq_zero_iff.1 h1;omega
theorem tt {a b:Int}(c:Int) (h:a≠0∨b≠0):dV a b c=⟨sv (decide (a<0)) (a.natAbs/Nat.gcd (Nat.gcd a.natAbs b.natAbs) c.natAbs),sv (decide (b<0)) (b.natAbs/Nat.gcd (Nat.gcd a.natAbs b.natAbs) c.natAbs),
  sv (decide (c<0)) (c.natAbs/Nat.gcd (Nat.gcd a.natAbs b.natAbs) c.natAbs)⟩:=by
 have hg:=Lb c h;have d1:Nat.gcd (Nat.gcd a.natAbs b.natAbs) c.natAbs∣a.natAbs:=Nat.dvd_trans (Nat.gcd_dvd_left _ _) (Nat.gcd_dvd_left _ _);have d2:Nat.gcd (Nat.gcd a.natAbs b.natAbs) c.natAbs∣b.natAbs:=Nat.dvd_trans (Nat.gcd_dvd_left _ _) (Nat.gcd_dvd_right _ _);have d3:Nat.gcd (Nat.gcd a.natAbs b.natAbs) c.natAbs∣c.natAbs:=Nat.gcd_dvd_right _ _;unfold dV;rw [IA];generalize Nat.gcd (Nat.gcd a.natAbs b.natAbs) c.natAbs=g at *;rw [kM hg d1,kM hg d2,kM hg d3]
theorem wT {a b:Int}(c:Int) (h:a≠0∨b≠0):(dV a b c).a.natAbs≤a.natAbs∧(dV a b c).b.natAbs≤b.natAbs∧(dV a b c).c.natAbs≤c.natAbs:=by
 rw [tt c h];simp only [gb];exact⟨Nat.div_le_self _ _,Nat.div_le_self _ _,Nat.div_le_self _ _⟩
def thr (x y u v:Rat):Li:=dV (-(v-y)) (u-x) (-(-(v-y)*x+(u-x)*y))
theorem Li.n_pos {l:Li}(hl:l.ok):(0:Rat)<l.b*l.b + -l.a * -l.a:=by
 have h:0<l.b*l.b + -l.a * -l.a:=by
  have h1:0≤l.b*l.b:=by rcases Int.le_total 0 l.b with h|h;exact Int.mul_nonneg h h;exact Int.mul_nonneg_of_nonpos_of_nonpos h h
  have h2:0≤-l.a * -l.a:=by rcases Int.le_total 0 (-l.a)with h|h;exact Int.mul_nonneg h h;exact Int.mul_nonneg_of_nonpos_of_nonpos h h
  rcases hl.2 with h|h
  ·have : -l.a * -l.a≠0:=fun e=>by rcases Int.mul_eq_zero.1 e with e|e <;> omega
   omega
  ·have:l.b*l.b≠0:=fun e=>by rcases Int.mul_eq_zero.1 e with e|e <;> omega
   omega
 exact_mod_cast h
section
variable {P:Program}{F:Fr}{H:LH}{ty:TypeId}
theorem bI {S:TypeId}{fs:List (Nat×Nat)} [TSt P S fs]{x:Operand}{f off sz:Nat}{cs cs':List SV}(hx:ev F x=ag cs) (_hf:fs[f]? = some (off,sz)) (hk:vO P S f=some (off,true,sz)) (hc:(cs.drop off).take sz=cs'):OpV P (.field S x f) ty F H (ag cs') :=
 OpV.pure fun m w o a ho _ _ _ h=>by
  have h0:=h x (by simp [Op.operands]);rw [hx]at h0;unfold ag at h0;obtain⟨arr,h0,hall⟩:=h0;have hall':=(hall.drop off).take sz;rw [hc]at hall';unfold vO at hk;cases hu:P.underlying S with
  |none=>rw [hu]at hk;cases hk
  |some d =>
   rw [hu]at hk;cases d with
   |struct A =>
    simp only [Option.bind_eq_some_iff,Option.map_eq_some_iff,Prod.mk.injEq]at hk;obtain⟨fl,hfl,d,hd,i,hi,e1,e2,e3⟩:=hk
    have hg:(isAgg fl.type).run P w = .ok true w:=by
     cases d <;> first|(cases e2;done)|simp [isAgg,underlying,hd]
    have hs:(sizeOf fl.type).run P w = .ok i.size w:=by
     simp [sizeOf,typeInfo,hi]
    refine⟨.agg (arr.extract off (off+sz)),?_,by unfold ag;exact⟨_,rfl,by
     have e:(arr.extract off (off+sz)).toList=(arr.toList.drop off).take sz:=by
      simp [List.take_drop,Nat.add_sub_cancel_left]
     rw [e];exact hall'⟩⟩
    simp [execOp,ho,h0,Instr.field,underlying,hu,hfl,asAgg,part,hg,hs,e1,e3]
   |_=>cases hk
theorem I6 {T e:TypeId}{by_:Nat}{z0:SV}{g:Bool} [hS:TSl P T e] [hT:TY P e 1 by_ [z0] g]{x y:Operand}{k:Nat}
  (hx:ev F x=lit (.int .i64 k)) (hy:ev F y=lit (.int .i64 k)) (hk:k*by_≤140737488355328) (hk':k≤9223372036854775807):l8 P (.makeSlice T x y) F e (List.replicate k z0) (mkS k):=by
 intro w o a ho ⟨m0,hm0⟩;obtain⟨v,hz,hall⟩:=hT.run_zero w;obtain⟨i,v',hi,hsz,hby,hz',_,hfl,hvs⟩:=hT.run_bytes;have hvv:v=v':=by simp [zeroValue,typeInfo,hi,hz']at hz;exact hz.symm
 subst hvv;have e0:=evN hm0 (x:=x) (by simp [Op.operands]);rw [hx,aq]at e0;have e1:=evN hm0 (x:=y) (by simp [Op.operands]);rw [hy,aq]at e1
 have hw:IntKind.i64.wrap (k:Int)=k:=by
  simp only [IntKind.wrap,IntKind.bits,IntKind.signed,Bool.true_and];have h1:¬(9223372036854775808:Int)≤(k:Int)%18446744073709551616:=by omega
  simp [h1];omega
 obtain⟨c0,hc0⟩:∃c0,v.cells = #[c0]:=by
  have:v.cells.size=1:=hvs;rcases hvc:v.cells with⟨l⟩
  rw [hvc]at this;match l,this with
  | [c0],_=>exact⟨c0,rfl⟩
 have hrun:(execOp a.eval o).run P w = .ok (.value (.slice (some ⟨w.heap.size,0,none⟩) k k)) (w.alloc (.cells (List.replicate k c0).toArray e)):=by
  have hb:¬((by_:Int)*(k:Int)>281474976710656):=by
   have:(by_*k:Nat)≤281474976710656:=by rw [Nat.mul_comm];omega
   have h2:((by_*k:Nat):Int)≤281474976710656:=by omega
   rw [Int.natCast_mul]at h2;omega
  have hk0:¬((k:Int)<0):=by omega
  have harr:(Array.range k).map (fun j=>v.cells[j%v.cells.size]!)=(List.replicate k c0).toArray:=by
   rw [hc0];apply Array.ext
   ·simp
   ·intro j h1 h2;simp [Nat.mod_one]
  simp only [execOp,ho,Instr.makeSlice,e0,e1,Sem.run_bind,underlying,run_program,hS.h,Result.andThen_ok,Sem.run_pure,asInt,asIntOf,typeInfo,hi,hw,hby]
  have hcond:((decide ((k:Int)<0)||decide ((by_:Int)*(k:Int)>2^48))||decide ((k:Int)<0)||decide ((k:Int)>(k:Int)))=false:=by
   simp only [Bool.or_eq_false_iff,decide_eq_false_iff_not];refine⟨⟨⟨hk0,?_⟩,hk0⟩,om⟩;have:(2:Int)^48=281474976710656:=by decide
   rw [this];exact hb
  simp only [hcond,Bool.false_eq_true,if_false,Int.toNat_natCast,Sem.run_bind,run_askRoom,Result.andThen_ok,hT.run_size,Nat.mul_one,newRow];by_cases hk:k=0
  ·subst hk;simp [show(Array.range 0) = #[]from rfl]
  ·simp only [hk,if_false,Sem.run_bind,hz,Result.andThen_ok,Sem.run_pure,harr,run_newObj,World.alloc_eq]
 refine⟨_,hrun,fun m _=>?_⟩;have:=hall m;rw [hc0]at this;exact az.replicate this.1.1 this.1.2 k
end
theorem BY {a b:Int}(c:Int) (ha:il a≤1000000) (hb:il b≤1000000) (hc:il c≤1000000) (h:a≠0∨b≠0):Pu Tryz.prog 176 [int a,int b,int c] (Ab.tup [lq (dV a b c),lit (.bool true)]):=by
 have hg:=Lb c h;have hg1:Nat.gcd a.natAbs b.natAbs≠0:=fun e=>by rw [Nat.gcd_eq_zero_iff]at e;omega
 have k1:=jc (a:=a.natAbs) (b:=b.natAbs) (n:=1000000) ha hb;have c1:=mJ a.natAbs b.natAbs (show il a≤_ by omega) (show il b≤_ by omega);have c2:=mJ (Nat.gcd a.natAbs b.natAbs) c.natAbs om (show il c≤_ by omega);have k2:=jc (a:=Nat.gcd a.natAbs b.natAbs) (b:=c.natAbs) (n:=1000000) k1 hc;have e:=tt c h;have ea:=congrArg Li.a e;have eb:=congrArg Li.b e;have ec:=congrArg Li.c e;clear e;simp only at ea eb ec;generalize dV a b c=l at *;have hn1:=n8 hg1;generalize Nat.gcd a.natAbs b.natAbs=g1 at *;generalize Nat.gcd g1 c.natAbs=g at *;have d1:=fB a.natAbs g hg (show il a≤_ by omega) om;have d2:=fB b.natAbs g hg (show il b≤_ by omega) om;have d3:=fB c.natAbs g hg (show il c≤_ by omega) om;have m1:=bA (decide (a<0)) (a.natAbs/g) (Nat.le_trans (aM (Nat.div_le_self _ _)) (show il a≤_ by omega));have m2:=bA (decide (b<0)) (b.natAbs/g) (Nat.le_trans (aM (Nat.div_le_self _ _)) (show il b≤_ by omega));have m3:=bA (decide (c<0)) (c.natAbs/g) (Nat.le_trans (aM (Nat.div_le_self _ _)) (show il c≤_ by omega));rw [←ea]at m1;rw [←eb]at m2;rw [←ec]at m3;clear ea eb ec ha hb hc hg hg1 k1 k2 h;refine Pi Tryz.func176 fun C=>?_
 repeat(first|(refine A1 ⟨?_⟩;intros)|refine W4 c1 ⟨?_⟩|refine W4 c2 ⟨?_⟩|refine W4 d1 ⟨?_⟩|refine W4 d2 ⟨?_⟩|refine W4 d3 ⟨?_⟩|refine W4 m1 ⟨?_⟩|refine W4 m2 ⟨?_⟩|refine W4 m3 ⟨?_⟩)
 exact G3
theorem fL (a:Int):Pu Tryz.prog 123 [int a] (rq (a:Rat)):=by
 rw [oW];refine Pi Tryz.func123 fun C=>?_
 repeat(refine A1 ⟨?_⟩;intros)
 exact aS (aJ (RV.cellA rfl List.mem_cons_self rfl rfl) (Le.ag ⟨Le.refl _,Le.refl _,eC,trivial⟩))
theorem uL (x y u v:Rat) (hx:ht x≤100000) (hy:ht y≤100000) (hu:ht u≤100000) (hv:ht v≤100000):Pu Tryz.prog 175 [rp x y,rp u v] (rp (x-u) (y-v)):=by
 have o:=oX (-1) om om;have h1:ht ((-1:Int):Rat)≤1:=vK _ om;have a:=ot x y ((-1:Int):Rat) u v om om om om om;have e:∀x u:Rat,x+((-1:Int):Rat)*u=x-u:=fun x u=>by rw [show((-1:Int):Rat) = -1 from rfl];grind
 rw [e,e]at a;refine Pi Tryz.func175 fun C=>?_
 exact X2 o a
theorem iQ (l:Li) (h:l.le 1000000):Pu Tryz.prog 126 [lq l] (rp (l.b:Rat) (-(l.a:Rat))):=by
 have q1:=fL l.b;have q2:=fL l.a;have o:=iP (l.a:Rat) (by rw [cp];have:=h.a;omega);refine Pi Tryz.func126 fun C=>?_
 repeat(first|(refine A1 ⟨?_⟩;intros)|refine W4 q1 ⟨?_⟩|refine W4 q2 ⟨?_⟩|refine W4 o ⟨?_⟩)
 exact G1
theorem qe (l:Li) (h:l.le 1000000):Pu Tryz.prog 83 [lq l] (lq l.neg):=by
 have m1:=io l.a (show il l.a≤_ by have:=h.a;omega);have m2:=io l.b (show il l.b≤_ by have:=h.b;omega);have m3:=io l.c (show il l.c≤_ by have:=h.c;omega);refine Pi Tryz.func83 fun C=>?_
 repeat(first|(refine A1 ⟨?_⟩;intros)|refine W4 m1 ⟨?_⟩|refine W4 m2 ⟨?_⟩|refine W4 m3 ⟨?_⟩)
 exact G1
theorem JB (l:Li) (h:l.le 1000000):Pu Tryz.prog 78 [lq l] (lq l):=by
 have m1:=mD l.a (by have:=h.a;omega);have m2:=mD l.b (by have:=h.b;omega);have m3:=mD l.c (by have:=h.c;omega);refine Pi Tryz.func78 fun C=>?_
 repeat(first|(refine A1 ⟨?_⟩;intros)|refine W4 m1 ⟨?_⟩|refine W4 m2 ⟨?_⟩|refine W4 m3 ⟨?_⟩)
 exact G1
theorem uP (x y u v:Rat) (hx:ht x≤1000000) (hy:ht y≤1000000) (hu:ht u≤1000000) (hv:ht v≤1000000) (h1:ht (x*u)≤3000000) (h2:ht (y*v)≤3000000):Pu Tryz.prog 179 [rp x y,rp u v] (rq (x*u+y*v)):=by
 have t1:=aX x u om om;have t2:=aX y v om om;have p:=eK (x*u) (y*v) h1 h2;refine Pi Tryz.func179 fun C=>?_
 repeat(first|(refine A1 ⟨?_⟩;intros)|refine W4 t1 ⟨?_⟩|refine W4 t2 ⟨?_⟩|refine W4 p ⟨?_⟩)
 exact G1
theorem lx (x y u v:Rat) (hx:ht x≤100000) (hy:ht y≤100000) (hu:ht u≤100000) (hv:ht v≤100000):Pu Tryz.prog 137 [rp x y,rp u v] (rq (x*v-y*u)):=by
 have h1:=ae x v;have h2:=ae y u;have t1:=aX x v om om;have t2:=aX y u om om;have p:=eh (x*v) (y*u) om om;refine Pi Tryz.func137 fun C=>?_
 repeat(first|(refine A1 ⟨?_⟩;intros)|refine W4 t1 ⟨?_⟩|refine W4 t2 ⟨?_⟩|refine W4 p ⟨?_⟩)
 exact G1
theorem rG {a:Rat}(m:Nat){n:Nat}(h:n=a.den*m):a*((n:Int):Rat)=((a.num*m:Int):Rat):=by
 subst h
 have h1:a*(a.den:Rat)=(a.num:Rat):=by
  conv=>lhs;lhs;rw [←Rat.mkRat_self a]
  rw [show(a.den:Rat)=mkRat (a.den:Int) 1 from(Rat.mkRat_one _).symm,Rat.mkRat_mul_mkRat,Nat.mul_one];have:=Rat.mkRat_mul_right (n:=a.num) (d:=1) a.den_nz;rw [Nat.one_mul]at this;rw [this,Rat.mkRat_one]
 rw [show(((a.den*m:Nat):Int):Rat)=(a.den:Rat)*(m:Rat)from by push_cast;rfl,←Rat.mul_assoc,h1];push_cast
 rfl
theorem Fm (m:Nat):LeL [ag [lit (.bool false),nat m,lit (.slice none 0 0)]] [rq ((m:Int):Rat)]:=by
 rw [oW];refine⟨Le.ag ⟨?_,?_,eC,trivial⟩,trivial⟩
 ·rw [decide_eq_false om];exact Le.refl _
 ·rw [Int.natAbs_natCast];exact Le.refl _
theorem yo {x y u v:Rat}{L:Nat}(hL:L≤10000) (hx:ht x≤L) (hy:ht y≤L) (hu:ht u≤L) (hv:ht v≤L) (h:u-x≠0∨v-y≠0):Pu Tryz.prog 118 [rp x y,rp u v] (Ab.tup [lq (thr x y u v),lit (.bool true)]):=by
 have s:=uL u v x y om om om om;have k1:=cI u x;have k2:=cI v y;have k3:=ck (v-y);have n1:=iP (v-y) om;have k4:=ae (-(v-y)) x;have k5:=ae (u-x) y;have t1:=aX (-(v-y)) x om om;have t2:=aX (u-x) y om om;have k6:=aI (-(v-y)*x) ((u-x)*y);have p1:=eK (-(v-y)*x) ((u-x)*y) om om;have n2:=iP (-(v-y)*x+(u-x)*y) om;have k7:=ck (-(v-y)*x+(u-x)*y)
 have hab : -(v-y)≠0∨u-x≠0:=by
  rcases h with h|h
  ·exact .inr h
  ·exact .inl fun e=>h (by rw [←Rat.neg_neg (v-y),e];rfl)
 unfold thr;generalize -(v-y)=a at *;generalize u-x=b at *;generalize -(a*x+b*y)=c at *;have e1:=cK a;have e2:=cK b;have e3:=cK c;have l1:=cB a;have l2:=cB b;have l3:=cB c;have l4:=bW a.den b.den;have l5:=bW (a.den*b.den) c.den;have q1:=ej a.den b.den om om;have q2:=ej (a.den*b.den) c.den om om;have m1:=bA false (a.den*b.den*c.den) om;rw [yp,vG]at m1;obtain⟨m,hm⟩:∃m,m=a.den*b.den*c.den:=⟨_,rfl⟩
 have fa:=rG (a:=a) (b.den*c.den) (n:=m) (by rw [hm,Nat.mul_assoc]);have fb:=rG (a:=b) (a.den*c.den) (n:=m) (by rw [hm,Nat.mul_comm a.den,Nat.mul_assoc]);have fc:=rG (a:=c) (a.den*b.den) (n:=m) (by rw [hm,Nat.mul_comm])
 have hmp:(0:Rat)<((m:Int):Rat):=by
  have:0<m:=by rw [hm];exact Nat.mul_pos (Nat.mul_pos a.den_pos b.den_pos) c.den_pos
  exact_mod_cast this
 rw [←hm]at q2 m1 l5;have hmh:ht ((m:Int):Rat)≤max (dgs m).length 1:=by rw [cp];exact Nat.le_refl _
 have g1:=(aX a ((m:Int):Rat) om om).arg (l':=[rq a,ag [lit (.bool false),nat m,lit (.slice none 0 0)]]) ⟨Le.refl _,Fm m⟩;have g2:=(aX b ((m:Int):Rat) om om).arg (l':=[rq b,ag [lit (.bool false),nat m,lit (.slice none 0 0)]]) ⟨Le.refl _,Fm m⟩;have g3:=(aX c ((m:Int):Rat) om om).arg (l':=[rq c,ag [lit (.bool false),nat m,lit (.slice none 0 0)]]) ⟨Le.refl _,Fm m⟩;have o1:=ae a ((m:Int):Rat);have o2:=ae b ((m:Int):Rat);have o3:=ae c ((m:Int):Rat);have ep:dV a b c=dV (((m:Int):Rat)*a) (((m:Int):Rat)*b) (((m:Int):Rat)*c):=(nS _ _ _ _ hmp).symm;rw [Rat.mul_comm _ a,Rat.mul_comm _ b,Rat.mul_comm _ c]at ep
 have hne:a*((m:Int):Rat)≠0∨b*((m:Int):Rat)≠0:=by
  have h0:((m:Int):Rat)≠0:=fun e=>by rw [e]at hmp;exact absurd hmp (by decide)
  rcases hab with h|h
  ·exact .inl fun e=>by rcases Rat.mul_eq_zero.1 e with e|e;exact h e;exact h0 e
  ·exact .inr fun e=>by rcases Rat.mul_eq_zero.1 e with e|e;exact h e;exact h0 e
 rw [fa]at g1 o1;rw [fb]at g2 o2;rw [fc]at g3 o3;rw [fa,fb,fc]at ep;rw [fa,fb]at hne;rw [ep];clear fa fb fc ep hmp hab h hm;generalize a.num*((b.den*c.den:Nat):Int)=A at *;generalize b.num*((a.den*c.den:Nat):Int)=B at *;generalize c.num*((a.den*b.den:Nat):Int)=C' at *;rw [cp]at o1 o2 o3
 have hne':A≠0∨B≠0:=by
  rcases hne with h|h
  ·exact .inl fun e=>h (by rw [e];rfl)
  ·exact .inr fun e=>h (by rw [e];rfl)
 have mk:=BY C' (a:=A) (b:=B) om om om hne';simp only [oW]at g1 g2 g3;generalize dV (A:Rat) (B:Rat) (C':Rat)=r at *;clear o1 o2 o3 hmh k1 k2 k3 k4 k5 k6 k7 l1 l2 l3 l4 l5 hne hne' hx hy hu hv;refine Pi Tryz.func118 fun C=>?_
 repeat(first|(refine AS ⟨?_⟩;intros)|(refine O1 ⟨?_⟩;intros)|(refine Wcx (s) ?_)|(refine dH (s) ?_)|(refine Wcx (n1) ?_)|(refine dH (n1) ?_))
 refine WdL 7 1 ?_;repeat(first|(refine A1 ⟨?_⟩;intros)|refine W4 n1 ⟨?_⟩)
 refine dL2 fun b7 b8=>?_
 refine Gs (sv:=rq a) (cs':=[lit (.bool (decide (a.num<0))),nat a.num.natAbs,dg (gO a.den)]) rfl rfl rfl (by first|exact .here _|exact .there _ (.here _)) rfl rfl ?_ ?_
 ·(repeat(first|exact LOk.nil|refine Lsk ?_|refine Lcv ?_))
 refine Gn ?_ ?_
 ·(repeat(first|exact LOk.nil|refine Lsk ?_|refine Lcv ?_))
 repeat(first|(refine A1 ⟨?_⟩;intros)|(refine Wo (bI rfl rfl kr rfl) ?_)|(refine Wdo (bI rfl rfl kr rfl) ?_)|refine W4 s ⟨?_⟩|refine W4 n1 ⟨?_⟩|refine W4 t1 ⟨?_⟩|refine W4 t2 ⟨?_⟩|refine W4 p1 ⟨?_⟩|refine W4 n2 ⟨?_⟩|refine W4 e1 ⟨?_⟩|refine W4 e2 ⟨?_⟩|refine W4 e3 ⟨?_⟩|refine W4 q1 ⟨?_⟩|refine W4 q2 ⟨?_⟩|refine W4 m1 ⟨?_⟩|refine W4 g1 ⟨?_⟩|refine W4 g2 ⟨?_⟩|refine W4 g3 ⟨?_⟩|refine W4 mk ⟨?_⟩)
 exact G3
theorem Li.le.gr {l:Li}{L L':Nat}(h:l.le L) (k:L≤L'):l.le L':=⟨Nat.le_trans h.a k,Nat.le_trans h.b k,Nat.le_trans h.c k⟩
theorem dI (z:Int){L:Nat}(h:il z≤L):ht (z:Rat)≤max L 1:=by
 rw [cp];omega
def Li.bf (l:Li):Rat := -((l.c:Rat)/((l.b:Rat)*l.b + -(l.a:Rat) * -(l.a:Rat)))
theorem Li.bf_ht {l:Li}(h:l.le 1):ht l.bf≤10:=by
 unfold Li.bf;have ha:ht (l.a:Rat)≤1:=by have:=dI l.a h.a;omega
 have hb:ht (l.b:Rat)≤1:=by have:=dI l.b h.b;omega
 have hc:ht (l.c:Rat)≤1:=by have:=dI l.c h.c;omega
 have h1:=ae (l.b:Rat) l.b;have h2:=ae (-(l.a:Rat)) (-(l.a:Rat));have h3:=aI ((l.b:Rat)*l.b) (-(l.a:Rat) * -(l.a:Rat));have h4:=kh ((l.b:Rat)*l.b + -(l.a:Rat) * -(l.a:Rat));have h5:=ae (l.c:Rat) ((l.b:Rat)*l.b + -(l.a:Rat) * -(l.a:Rat))⁻¹;rw [ck]at h2⊢;rw [Rat.div_def];omega
theorem rd {l:Li}(hok:l.ok) (h:l.le 1):Pu Tryz.prog 125 [lq l] (rp (l.bf*l.a) (l.bf*l.b)):=by
 have hf:=Li.bf_ht h;have ha:ht (l.a:Rat)≤1:=by have:=dI l.a h.a;omega
 have hb:ht (l.b:Rat)≤1:=by have:=dI l.b h.b;omega
 have hc:ht (l.c:Rat)≤1:=by have:=dI l.c h.c;omega
 have h1:=ae (l.b:Rat) l.b;have h2:=ae (-(l.a:Rat)) (-(l.a:Rat));have h3:=aI ((l.b:Rat)*l.b) (-(l.a:Rat) * -(l.a:Rat));have ha':ht (-(l.a:Rat))≤1:=by rw [ck];exact ha
 have hn:=Li.n_pos hok
 have hne:((l.b:Rat)*l.b + -(l.a:Rat) * -(l.a:Rat)).num≠0:=fun e=>by
  have:(l.b:Rat)*l.b + -(l.a:Rat) * -(l.a:Rat)=0:=Rat.num_eq_zero.1 e;rw [this]at hn;exact absurd hn (by decide)
 have c1:=iQ l (h.gr om);have c2:=fL l.c;have c3:=uP (l.b:Rat) (-(l.a:Rat)) l.b (-(l.a:Rat)) om om om om om om;have c4:=jA (l.c:Rat) ((l.b:Rat)*l.b + -(l.a:Rat) * -(l.a:Rat)) om om hne;have hq:ht ((l.c:Rat)/((l.b:Rat)*l.b + -(l.a:Rat) * -(l.a:Rat)))≤10:=by rw [←ck];exact hf
 have c5:=iP ((l.c:Rat)/((l.b:Rat)*l.b + -(l.a:Rat) * -(l.a:Rat))) om;rw [show -((l.c:Rat)/((l.b:Rat)*l.b + -(l.a:Rat) * -(l.a:Rat)))=l.bf from rfl]at c5;have c6:=fL l.a;have c7:=fL l.b;have c8:=aX l.bf (l.a:Rat) om om;have c9:=aX l.bf (l.b:Rat) om om;clear hf ha hb hc h1 h2 h3 ha' hn hne hq;refine Pi Tryz.func125 fun C=>?_
 repeat(first|(refine A1 ⟨?_⟩;intros)|refine W4 c1 ⟨?_⟩|refine W4 c2 ⟨?_⟩|refine W4 c3 ⟨?_⟩|refine W4 c4 ⟨?_⟩|refine W4 c5 ⟨?_⟩|refine W4 c6 ⟨?_⟩|refine W4 c7 ⟨?_⟩|refine W4 c8 ⟨?_⟩|refine W4 c9 ⟨?_⟩)
 exact G1
end Go.Ab
