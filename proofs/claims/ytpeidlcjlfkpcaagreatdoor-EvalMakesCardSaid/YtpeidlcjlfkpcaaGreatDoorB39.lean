/- Texts laid one behind the other: As, EvFail, EvC, KaL. -/
import Derived.WalkKit
import Derived.RowKitTokens
import Derived.Test.YtpeidlcjlfkpcaaGreatDoorB38
set_option linter.all false
set_option maxHeartbeats 16000000
namespace Go.Ab
open Go.Proofs Go.RowKit Go.Extern.Stop Go.Stop Go.Extern
theorem I5 (G:Nat) (hG:G=(Tryz.prog).globals.size) (t:Addr) (w:World):(ReflectliteValue.unpack (.iface 96 (.pointer (some t)))).run Tryz.prog w
  = .ok (.agg #[.pointer (some ⟨G,96,none⟩), .pointer (some ⟨w.heap.size,0,none⟩), .int .u64 150]) (w.alloc (.cells #[.pointer (some t)] 96)):=by subst hG;kernel_rfl
theorem QC (G:Nat) (hG:G=(Tryz.prog).globals.size) (a:Addr) (w:World):(ReflectliteValue.methodAny (ReflectliteValue.valueError "reflectlite.Value.Type" 0) (fun t _ _ _=>ReflectliteType.toType t) #[.agg #[.pointer (some ⟨G,96,none⟩), .pointer (some a), .int .u64 150]]).run Tryz.prog w
  = .ok (.iface 205 (.agg #[.pointer (some ⟨G,96,none⟩)])) w:=by subst hG;kernel_rfl
theorem Fi (h:Value) (w:World):(Go.method 601 205 (.agg #[h]) "Kind").run Tryz.prog w = .ok (365,h) w:=by kernel_rfl
theorem Ry (G:Nat) (hG:G=(Tryz.prog).globals.size) (w:World):((ReflectliteType.abiMethod fun t=>(fun a:Nat=>Value.int IntKind.u8 (a:Int)) <$> Rtype.kind t) #[.pointer (some ⟨G,96,none⟩)]).run Tryz.prog w = .ok (.int .u8 22) w:=by subst hG;kernel_rfl
theorem Rz (G:Nat) (hG:G=(Tryz.prog).globals.size) (w:World):((ReflectliteType.abiMethod fun t=>(fun a:Nat=>Value.int IntKind.u8 (a:Int)) <$> Rtype.kind t) #[.pointer (some ⟨G,94,none⟩)]).run Tryz.prog w = .ok (.int .u8 22) w:=by subst hG;kernel_rfl
theorem rlm (z:Sem Value) (f:TypeId→Addr→Nat→Nat→Sem Value) (v:Value) :
  ReflectliteValue.method z f #[v]=(do match←ReflectliteValue.parts v with|none=>z|some (t,a,fl)=>f t a fl (fl%32)):=rfl
theorem GO (G:Nat) (hG:G=(Tryz.prog).globals.size) (a:Addr) (w:World):(ReflectliteValue.parts (.agg #[.pointer (some ⟨G,96,none⟩), .pointer (some a), .int .u64 150])).run Tryz.prog w = .ok (some (96,a,150)) w:=by subst hG;kernel_rfl
theorem Pv (G:Nat) (hG:G=(Tryz.prog).globals.size) (a p:Addr) (W:World) (ha:W.cell? a=some (.pointer (some p))) :
  (ReflectliteValue.method (ReflectliteValue.valueError "reflectlite.Value.IsNil" 0) ReflectliteValue.isNil #[.agg #[.pointer (some ⟨G,96,none⟩), .pointer (some a), .int .u64 150]]).run Tryz.prog W = .ok (.bool false) W:=by
 rw [rlm];simp only [Sem.run_bind,GO G hG,Result.andThen];simp [ReflectliteValue.isNil,loadVar,isAgg,underlying,Tryz.underlying96,ha,Result.andThen]
theorem Fj (h:Value) (w:World):(Go.method 601 205 (.agg #[h]) "Elem").run Tryz.prog w = .ok (379, .agg #[h]) w:=by kernel_rfl
theorem vW (h:Value) (w:World):(Go.method 601 205 (.agg #[h]) "Implements").run Tryz.prog w = .ok (380, .agg #[h]) w:=by kernel_rfl
theorem tM (h:Value) (w:World):(Go.method 601 205 (.agg #[h]) "AssignableTo").run Tryz.prog w = .ok (377, .agg #[h]) w:=by kernel_rfl
theorem RU (G:Nat) (hG:G=(Tryz.prog).globals.size) (w:World):(ReflectliteType.method ReflectliteType.elem #[.agg #[.pointer (some ⟨G,96,none⟩)]]).run Tryz.prog w = .ok (.iface 205 (.agg #[.pointer (some ⟨G,94,none⟩)])) w:=by subst hG;kernel_rfl
theorem BY (G:Nat) (hG:G=(Tryz.prog).globals.size) (w:World):(ReflectliteType.relation "Implements" ReflectliteType.implements_ #[.agg #[.pointer (some ⟨G,94,none⟩)], .iface 205 (.agg #[.pointer (some ⟨G,39,none⟩)])]).run Tryz.prog w = .ok (.bool true) w:=by subst hG;kernel_rfl
theorem JW (G:Nat) (hG:G=(Tryz.prog).globals.size) (v:Value) (w:World):(ReflectliteType.typeOf #[.iface 94 v]).run Tryz.prog w = .ok (.iface 205 (.agg #[.pointer (some ⟨G,94,none⟩)])) w:=by subst hG;kernel_rfl
theorem Cj (G:Nat) (hG:G=(Tryz.prog).globals.size) (w:World):(ReflectliteType.relation "AssignableTo" ReflectliteType.assignableTo #[.agg #[.pointer (some ⟨G,94,none⟩)], .iface 205 (.agg #[.pointer (some ⟨G,94,none⟩)])]).run Tryz.prog w = .ok (.bool true) w:=by subst hG;kernel_rfl
theorem I6 (G:Nat) (hG:G=(Tryz.prog).globals.size) (e:Addr) (w:World):(ReflectliteValue.unpack (.iface 94 (.pointer (some e)))).run Tryz.prog w
  = .ok (.agg #[.pointer (some ⟨G,94,none⟩), .pointer (some ⟨w.heap.size,0,none⟩), .int .u64 150]) (w.alloc (.cells #[.pointer (some e)] 94)):=by subst hG;kernel_rfl
theorem MK (w:World):(Rtype.elem? 96).run Tryz.prog w = .ok (some 94) w:=by kernel_rfl
theorem TB (G:Nat) (hG:G=(Tryz.prog).globals.size) (p:Addr) (w:World):(ReflectliteValue.mk 94 p ReflectliteValue.flagAddr).run Tryz.prog w = .ok (.agg #[.pointer (some ⟨G,94,none⟩), .pointer (some p), .int .u64 406]) w:=by subst hG;kernel_rfl
theorem PP (G:Nat) (hG:G=(Tryz.prog).globals.size) (a p:Addr) (W:World) (ha:W.cell? a=some (.pointer (some p))) :
  (ReflectliteValue.method (ReflectliteValue.valueError "reflectlite.Value.Elem" 0) ReflectliteValue.elem #[.agg #[.pointer (some ⟨G,96,none⟩), .pointer (some a), .int .u64 150]]).run Tryz.prog W
   = .ok (.agg #[.pointer (some ⟨G,94,none⟩), .pointer (some p), .int .u64 406]) W:=by
 rw [rlm];simp only [Sem.run_bind,GO G hG,Result.andThen];simp [ReflectliteValue.elem,loadVar,isAgg,underlying,Tryz.underlying96,ha,Result.andThen,MK,TB G hG]
theorem rls (v x:Value):ReflectliteValue.set #[v,x]=(do
  let(some (dst,a,fl),some (src,b,_)):=(←ReflectliteValue.parts v,←ReflectliteValue.parts x)
   |unsupported (.noEntry "extern/(internal/reflectlite.Value).Set.zeroValue")
  if fl/ReflectliteValue.flagAddr%2==0 then unsupported (.noEntry "extern/(internal/reflectlite.Value).Set.unaddressable")
  let val←loadVar src b
  if←Rtype.directlyAssignable dst src then storeVar dst a val
  else if←Rtype.implements dst src then
   if(←Rtype.kind src)==20 then
    match val with
    | .nilIface=>unsupported (.noEntry "extern/reflectlite: a nil value of one interface type handed on as a value of another")
    |_=>storeVar dst a val
   else storeVar dst a (.iface src val)
  else panicString ("reflectlite.Set: value of type " ++ (←Rtype.spelt src) ++ " is not assignable to type " ++ (←Rtype.spelt dst))
  pure (.tuple #[])):=rfl
theorem L5 (G:Nat) (hG:G=(Tryz.prog).globals.size) (a:Addr) (w:World):(ReflectliteValue.parts (.agg #[.pointer (some ⟨G,94,none⟩), .pointer (some a), .int .u64 406])).run Tryz.prog w = .ok (some (94,a,406)) w:=by subst hG;kernel_rfl
theorem O8 (G:Nat) (hG:G=(Tryz.prog).globals.size) (a:Addr) (w:World):(ReflectliteValue.parts (.agg #[.pointer (some ⟨G,94,none⟩), .pointer (some a), .int .u64 150])).run Tryz.prog w = .ok (some (94,a,150)) w:=by subst hG;kernel_rfl
theorem MR (w:World):(Rtype.directlyAssignable 94 94).run Tryz.prog w = .ok true w:=by kernel_rfl
theorem Sz (G:Nat) (hG:G=(Tryz.prog).globals.size) (ta b e:Addr) (old:Value) (W:World) (hb:W.cell? b=some (.pointer (some e))) (ht:W.cell? ta=some old) (hf:W.frozen? ta=false) :
  (ReflectliteValue.set #[.agg #[.pointer (some ⟨G,94,none⟩), .pointer (some ta), .int .u64 406], .agg #[.pointer (some ⟨G,94,none⟩), .pointer (some b), .int .u64 150]]).run Tryz.prog W
   = .ok (.tuple #[]) (W.setCell ta (.pointer (some e))):=by
 rw [rls];simp only [Sem.run_bind,L5 G hG,O8 G hG,Result.andThen];simp [ReflectliteValue.flagAddr,loadVar,isAgg,underlying,Tryz.underlying94,hb,Result.andThen,MR,storeVar,Value.cells,storeCells,Addr.add];rw [run_store Tryz.prog W ta _ _ (by rfl)];simp [ht,hf]
set_option maxRecDepth 20000 in
theorem S3 (G:Nat) (hG:G=(Tryz.prog).globals.size) (e t:Addr) (old:Value) (w:World) (hg:w.cell? ⟨1,0,none⟩=some (.iface 205 (.agg #[.pointer (some ⟨G,39,none⟩)]))) (ht0:w.cell? t=some old) (hf0:w.frozen? t=false) :
  Calls Tryz.prog 29 #[.iface 94 (.pointer (some e)), .iface 96 (.pointer (some t))] w fun ev w'=>ev = .returned (.bool true)∧w'=((((w.alloc (.cells #[.pointer (some t)] 96)).alloc (.cells #[.pointer (some ⟨G,96,none⟩), .pointer (some ⟨w.heap.size,0,none⟩), .int .u64 150] 151)).alloc (.cells #[.pointer (some ⟨G,96,none⟩), .pointer (some ⟨w.heap.size,0,none⟩), .int .u64 150] 151)).alloc (.cells #[.pointer (some e)] 94)).setCell t (.pointer (some e)):=by
 have h6:=@run_callFunc_extern Tryz.prog 65 _ (fun args=>ReflectliteValue.unpack (args.getD 0 (.tuple #[]))) Tryz.func65 kr kr kr kr;have h7:=@run_callFunc_extern Tryz.prog 66 _ (ReflectliteValue.methodAny (ReflectliteValue.valueError "reflectlite.Value.Type" 0) (fun t _ _ _=>ReflectliteType.toType t)) Tryz.func66 kr kr kr kr;have h8:=@run_callFunc_extern Tryz.prog 67 _ (ReflectliteValue.method (ReflectliteValue.valueError "reflectlite.Value.IsNil" 0) ReflectliteValue.isNil) Tryz.func67 kr kr kr kr;have h27:=@run_callFunc_extern Tryz.prog 365 _ (ReflectliteType.abiMethod fun t=>do pure (.int .u8 (←Rtype.kind t))) Tryz.func365 kr kr kr kr;have h37:=@run_callFunc_extern Tryz.prog 379 _ (ReflectliteType.method ReflectliteType.elem) Tryz.func379 kr kr kr kr;have h38:=@run_callFunc_extern Tryz.prog 380 _ (ReflectliteType.relation "Implements" ReflectliteType.implements_) Tryz.func380 kr kr kr kr;have h10:=@run_callFunc_extern Tryz.prog 69 _ ReflectliteType.typeOf Tryz.func69 kr kr kr kr;have h35:=@run_callFunc_extern Tryz.prog 377 _ (ReflectliteType.relation "AssignableTo" ReflectliteType.assignableTo) Tryz.func377 kr kr kr kr;have h11:=@run_callFunc_extern Tryz.prog 101 _ (ReflectliteValue.method (ReflectliteValue.valueError "reflectlite.Value.Elem" 0) ReflectliteValue.elem) Tryz.func101 kr kr kr kr;have h12:=@run_callFunc_extern Tryz.prog 102 _ ReflectliteValue.set Tryz.func102 kr kr kr kr;have tO:=JW G hG;have mA:=tM;have a25:=Cj G hG;have v25:=I6 G hG;have f6:=I5 G hG;have f7:=QC G hG;have mK:=Fi;have mE:=Fj;have mI:=vW;have k27:=Ry G hG;have k25:=Rz G hG;have e27:=RU G hG;have i25:=BY G hG;have n8:=Pv G hG ⟨w.heap.size,0,none⟩ t ((w.alloc (.cells #[.pointer (some t)] 96)).alloc (.cells #[.pointer (some ⟨G,96,none⟩), .pointer (some ⟨w.heap.size,0,none⟩), .int .u64 150] 151)) (by simp)
 have hlt:1<w.heap.size:=by
  rcases aJ 1 w.heap.size with h|h
  ·exact h
  ·simp [World.cell?,n6 h]at hg
 have hg2:((w.alloc (.cells #[.pointer (some t)] 96)).alloc (.cells #[.pointer (some ⟨G,96,none⟩), .pointer (some ⟨w.heap.size,0,none⟩), .int .u64 150] 151)).cell? ⟨1,0,none⟩=some (.iface 205 (.agg #[.pointer (some ⟨G,39,none⟩)])):=by
  rw [World.cell?_alloc_lt _ _ ⟨1,0,none⟩ (by simp;omega),World.cell?_alloc_lt _ _ ⟨1,0,none⟩ hlt];exact hg
 have htl:t.block<w.heap.size:=by
  rcases aJ t.block w.heap.size with h|h
  ·exact h
  ·simp [World.cell?,n6 h]at ht0
 have el:=PP G hG ⟨w.heap.size,0,none⟩ t (((w.alloc (.cells #[.pointer (some t)] 96)).alloc (.cells #[.pointer (some ⟨G,96,none⟩), .pointer (some ⟨w.heap.size,0,none⟩), .int .u64 150] 151)).alloc (.cells #[.pointer (some ⟨G,96,none⟩), .pointer (some ⟨w.heap.size,0,none⟩), .int .u64 150] 151)) (by rw [World.cell?_alloc_lt _ _ ⟨w.heap.size,0,none⟩ (by simp;omega)];simp)
 have st:=Sz G hG t ⟨w.heap.size+1+1+1,0,none⟩ e old ((((w.alloc (.cells #[.pointer (some t)] 96)).alloc (.cells #[.pointer (some ⟨G,96,none⟩), .pointer (some ⟨w.heap.size,0,none⟩), .int .u64 150] 151)).alloc (.cells #[.pointer (some ⟨G,96,none⟩), .pointer (some ⟨w.heap.size,0,none⟩), .int .u64 150] 151)).alloc (.cells #[.pointer (some e)] 94))
  (by rw [World.cell?_alloc_at _ _ _ _ (by simp)];rfl)
  (by rw [World.cell?_alloc_lt _ _ t (by simp;omega),World.cell?_alloc_lt _ _ t (by simp;omega),World.cell?_alloc_lt _ _ t (by simp;omega),World.cell?_alloc_lt _ _ t htl];exact ht0)
  (by rw [World.frozen?_alloc_old _ _ t (by simp;omega),World.frozen?_alloc_old _ _ t (by simp;omega),World.frozen?_alloc_old _ _ t (by simp;omega),World.frozen?_alloc_old _ _ t (Nat.ne_of_lt htl)];exact hf0)
 clear hG;go_enter Tryz.func29,Tryz.ntmps29
 go_wp2
 refine wp_loop_rounds 1 ?_;rw [rounds_succ];go_wp2
 go_ret
 exact⟨rfl,rfl⟩
theorem m9 (w:World) (o:Obj) (k:Nat) (h:k<w.heap.size):(w.alloc o).heap[k]? = w.heap[k]?:=by
 simp only [World.alloc];rw [Array.getElem?_push_lt h,vG h]
noncomputable abbrev errT:Value := .iface 205 (.agg #[.pointer (some ⟨(Tryz.prog).globals.size,39,none⟩)])
theorem T5 [Base] [gv:GV 1 errT]{cs:List SV}{b:Nat}{s0:SV} :
  PuH Tryz.prog 29 [ifc 94 (pt cs),lit (.iface 96 (.pointer (some ⟨b,0,none⟩)))] [(b,94,[s0])] (fun r H'=>r=lit (.bool true)∧H'=[(b,94,[pt cs])]) noX:=by
 unfold PuH;refine⟨kr,fun m w vs hm hH ha=>?_⟩
 obtain⟨v0,v1,rfl,h0,h1⟩:∃v0 v1,vs=[v0,v1]∧(ifc 94 (pt cs)).p m v0∧(lit (.iface 96 (.pointer (some ⟨b,0,none⟩)))).p m v1:=by
  match vs,ha with
  | [v0,v1],ha=>exact⟨v0,v1,rfl,ha.1,ha.2.1⟩
 rw [ap]at h1;subst h1;unfold ifc at h0;obtain⟨u,rfl,hu⟩:=h0;have hu':=hu;unfold pt at hu';obtain⟨a,off,rfl,hat⟩:=hu';obtain⟨hmb,arr,hb,hal⟩:=hH.2 _ Ms;simp only at hmb hb hal;have hlt:b<w.heap.size:=(dt.1 hb).1
 obtain⟨old,hao⟩:∃old,arr = #[old]:=by
  obtain⟨l⟩:=arr;match l,hal with
  | [v],_=>exact⟨v,rfl⟩
 subst hao;obtain⟨T,fz,hg⟩:=gv.h;have hg':=hm _ _ (hm.base _ _ hg);have hc:=S3 _ rfl ⟨a,off,none⟩ ⟨b,0,none⟩ old w (by simp [World.cell?,hg']) (by simp [World.cell?,hb]) (by simp [World.frozen?,hb]);refine hc.mono fun e w' ⟨he,hw⟩=>?_
 subst he;obtain⟨w4,hw4⟩:∃w4,w4=((((w.alloc (.cells #[.pointer (some ⟨b,0,none⟩)] 96)).alloc (.cells #[.pointer (some ⟨(Tryz.prog).globals.size,96,none⟩), .pointer (some ⟨w.heap.size,0,none⟩), .int .u64 150] 151)).alloc (.cells #[.pointer (some ⟨(Tryz.prog).globals.size,96,none⟩), .pointer (some ⟨w.heap.size,0,none⟩), .int .u64 150] 151)).alloc (.cells #[.pointer (some ⟨a,off,none⟩)] 94)):=⟨_,rfl⟩
 rw [←hw4]at hw
 have hold:∀k,k<w.heap.size→w4.heap[k]? = w.heap[k]?:=fun k hk=>by
  rw [hw4,m9 _ _ _ (by simp;omega),m9 _ _ _ (by simp;omega),m9 _ _ _ (by simp;omega),m9 _ _ _ hk]
 have hsz:w4.heap.size=w.heap.size+4:=by rw [hw4];simp
 have hb4:w4.heap[b]? = some (.cells #[old] 94 (0,0)):=(hold b hlt).trans hb;have hbn:=sM w4 b #[old] 94 0 (.pointer (some ⟨a,off,none⟩)) hb4;rw [←hw]at hbn
 have hne:∀k,k<w.heap.size→k≠b→w'.heap[k]? = w.heap[k]?:=fun k hk hkb=>by
  rw [hw,wF _ _ _ _ _ hkb,hold k hk]
 refine⟨m,[(b,94,[pt cs])],⟨fun k o hk=>?_,hm.base⟩,⟨by simp,fun e he=>?_⟩,⟨Mem.le_refl m,fun _ _ _=>rfl,?_,?_,?_,?_,fun k hk hn=>?_⟩,fun e he=>?_, .inl ⟨_,_,rfl,ap.2 rfl,rfl,rfl⟩⟩
 ·have h:=hm _ _ hk;have hkb:k≠b:=fun h=>by rw [h,hmb]at hk;cases hk
  rw [hne k (dt.1 h).1 hkb];exact h
 ·obtain rfl:=ar.1 he;exact⟨hmb,_,hbn,⟨hu,rfl⟩,trivial⟩
 ·rw [hw,hw4];rfl
 ·rw [hw,hw4];rfl
 ·rw [hw,hw4];exact⟨rfl,au _⟩
 ·rw [hw];simp only [World.setCell,Array.size_modify,hsz];omega
 ·exact hne k hk fun h=>hn (by simp [keys,h])
 ·obtain rfl:=ar.1 he;exact .inl (by simp [keys])
end Go.Ab
namespace Go.Ab
open Go.Proofs
variable [Base]
theorem M8 [iF 6]:Pu Tryz.prog 31 [lit (.int .i64 5)] (lit (jV 6)):=by
 refine Pi Tryz.func31 fun C=>?_
 exact Z1
theorem M9 [iF 4]:Pu Tryz.prog 31 [lit (.int .i64 3)] (lit (jV 4)):=by
 refine Pi Tryz.func31 fun C=>?_
 exact Z1
theorem M7 [iF 8]:Pu Tryz.prog 31 [lit (.int .i64 7)] (lit (jV 8)):=by
 refine Pi Tryz.func31 fun C=>?_
 exact Z1
theorem yU [GV 1 errT]{g:Nat}{k:Int}(hk:Pu Tryz.prog 31 [lit (.int .i64 k)] (lit (jV g))) (l c:Int) (s:List UInt8) :
  Pu Tryz.prog 11 [erA g (lit (.int .i64 l)) (lit (.int .i64 c)) (str s),ag [lit (.int .i64 k),lit (.int .i64 l),lit (.int .i64 c),str s]] (lit (.bool true)):=by
 have cA:=@T5 _ _ [lit (jV g),lit (.int .i64 l),lit (.int .i64 c),str s];have ci:=RD g (lit (.int .i64 l)) (lit (.int .i64 c)) (str s);refine Pi Tryz.func11 fun C=>?_
 repeat(refine AS ⟨?_⟩;intros)
 refine Wo (cF (sv:=ag _) rfl) ?_;repeat(first|(refine AS ⟨?_⟩;intros)|(refine O1 ⟨?_⟩;intros))
 rename_i b5;refine WdZ 38 [0,1,2,3,4,5,6,7,8,9,10,11,12,13,14,15,16,17,18,19,20,21,22,23,24,25,26,27,28,29,30,31,32,33,34,35,36,37] [2] [(b5,94,[lit (.pointer none)])] _ ?_;refine ZkD 2 ?_;refine A2 ⟨?_⟩;intros;refine yu ?_;refine ZkC (cA (b:=b5) (s0:=lit (.pointer none))) (Tk.same _) ?_ (fun _ _ h=>h.elim);rintro _ _ ⟨rfl,rfl⟩;refine TK (Hd:=[(b5,94,[pt [lit (jV g),lit (.int .i64 l),lit (.int .i64 c),str s]])]) 35 ?_;repeat(first|(refine A1 ⟨?_⟩;intros)|(refine Wo (bN (a:=s) (b:=s) rfl rfl (a9 rfl)) ?_)|(refine Wdo (bN (a:=s) (b:=s) rfl rfl (a9 rfl)) ?_)|(refine Wog (bN (a:=s) (b:=s) rfl rfl (a9 rfl)) ?_)|(refine fJ (bN (a:=s) (b:=s) rfl rfl (a9 rfl)) ?_)|refine W4 hk ⟨?_⟩|refine W4 ci ⟨?_⟩)
 refine yu ?_;refine ZkN ?_;exact Z1
abbrev t5:SV:=ag [lit (.int .i64 5),lit (.slice none 0 0)]
abbrev kvT:TypeId:=330
abbrev ktT:TypeId:=284
abbrev ke (p:Nat):SV:=lit (.pointer (some ⟨p,0,none⟩))
abbrev kTx:List UInt8:=[97,32,45,32,97]
abbrev kvC (k:Nat):List SV:=[str kTx,lit (.int .i64 k),lit (.int .i64 1),lit (.int .i64 (k+1:Nat))]
structure Tq where
 k:Nat
 t:List UInt8
 c:Nat
abbrev ktx (a:Tq):List SV:=[lit (.int .i64 a.k),str a.t,lit (.int .i64 1),lit (.int .i64 a.c)]
abbrev kqA:Tq:=⟨1,[97],1⟩
abbrev kqM:Tq:=⟨3,[45],3⟩
abbrev kqB:Tq:=⟨1,[97],5⟩
abbrev kqE:Tq:=⟨0,[],6⟩
abbrev kts (ts:List Tq):SV:=sl (ts.map ktx).flatten ts.length
theorem Pn (l:List UInt8) (k n:Nat):([str l,lit (.int .i64 ((k+n:Nat):Int)),lit (.int .i64 1),lit (.int .i64 (k+n+1:Nat))]:List SV)=[str l,lit (.int .i64 ((k:Int)+n)),lit (.int .i64 1),lit (.int .i64 (((k+1:Nat):Int)+n))]:=by
 rw [show((k+n:Nat):Int)=(k:Int)+n by omega,show((k+n+1:Nat):Int)=((k+1:Nat):Int)+n by omega]
theorem M4 (r k n:Nat) (l:List UInt8) (h:k+n≤l.length) (hl:l.length≤100000) :
  PuH Tryz.prog 238 [ke r,lit (.int .i64 n)] [(r,kvT,[str l,lit (.int .i64 k),lit (.int .i64 1),lit (.int .i64 (k+1:Nat))])] (fun v H=>v=str ((l.drop k).take n)∧H=[(r,kvT,[str l,lit (.int .i64 ((k+n:Nat):Int)),lit (.int .i64 1),lit (.int .i64 (k+n+1:Nat))])]) noX:=by
 rw [show(l.drop k).take n=(l.take (k+n)).drop k by rw [n7,kJ],Pn];refine PuH.intro Tryz.func238 rfl kr fun C hC=>?_
 refine A2 ⟨?_⟩;intros;refine Wdo (R0 (i:=k) (j:=k+n) rfl (fun y hy=>by cases hy;exact⟨_,_,rfl,rfl⟩) (fun h=>by cases h) (fun y hy=>by cases hy;exact⟨_,_,rfl,om⟩) (fun h=>by cases h) om h) ?_;refine A2 ⟨?_⟩;intros;exact ct _ _ (bJ (RV.tmp rfl) Lr) Sr ⟨rfl,rfl⟩
theorem yD (r k k':Nat) (b:UInt8) (h:k'=k+1) (hk:k+1≤kTx.length) (hb:(kTx.drop k).take 1=[b]) :
  PuH Tryz.prog 238 [ke r,lit (.int .i64 1)] [(r,kvT,kvC k)] (fun v H=>v=str [b]∧H=[(r,kvT,kvC k')]) noX:=by
 have c:=M4 r k 1 kTx hk (by decide);subst h;rw [hb]at c;exact c
theorem kcl (b:UInt8) (z:Int) (h:zm b.toNat=z):Pu Tryz.prog 237 [u8 b.toNat] (lit (.int .i64 z)):=h▸zr b.toNat_lt
theorem J9:Pu Tryz.prog 237 [u8 97] (lit (.int .i64 3)):=kcl 97 3 (by decide +kernel)
theorem RB:Pu Tryz.prog 237 [u8 32] (lit (.int .i64 1)):=kcl 32 1 (by decide +kernel)
theorem SI:Pu Tryz.prog 237 [u8 45] (lit (.int .i64 5)):=kcl 45 5 (by decide +kernel)
theorem uL (r k k':Nat) (h:k=0∧k'=0∨k=1∧k'=2∨k=3∧k'=4∨k=5∧k'=5) :
  PuH Tryz.prog 236 [ke r] [(r,kvT,kvC k)] (fun v H=>v=Ab.tup []∧H=[(r,kvT,kvC k')]) noX:=by
 have t1:=yD r 1 2 32 rfl (by decide) rfl;have t2:=yD r 3 4 32 rfl (by decide) rfl;have hl:kTx.length=5:=rfl;rcases h with⟨rfl,rfl⟩|⟨rfl,rfl⟩|⟨rfl,rfl⟩|⟨rfl,rfl⟩
 ·refine PuH.intro Tryz.func236 rfl kr fun C hC=>?_
  refine WP.block ?_;refine WP.unroll 3 (WPR.succ ?_);refine D1 J9 ⟨?_⟩;intros;exact ct _ _ jv Sr ⟨rfl,rfl⟩
 ·refine PuH.intro Tryz.func236 rfl kr fun C hC=>?_
  refine WP.block ?_;refine WP.unroll 3 (WPR.succ ?_);refine D1 RB ⟨?_⟩;intros;refine WfT t1 ?_;rintro _ _ ⟨rfl,rfl⟩;simp only [ab,a8];refine D1 SI ⟨?_⟩;intros;exact ct _ _ jv Sr ⟨rfl,rfl⟩
 ·refine PuH.intro Tryz.func236 rfl kr fun C hC=>?_
  refine WP.block ?_;refine WP.unroll 3 (WPR.succ ?_);refine D1 RB ⟨?_⟩;intros;refine WfT t2 ?_;rintro _ _ ⟨rfl,rfl⟩;simp only [ab,a8];refine D1 J9 ⟨?_⟩;intros;exact ct _ _ jv Sr ⟨rfl,rfl⟩
 ·refine PuH.intro Tryz.func236 rfl kr fun C hC=>?_
  refine WP.block ?_;refine WP.unroll 3 (WPR.succ ?_);refine A2 ⟨?_⟩;intros;exact gB _ _ jv Sr ⟨rfl,rfl⟩
theorem Hm (r k:Nat) (h:k=0∨k=4) :
  PuH Tryz.prog 239 [ke r,sl [lit (.int .i64 3),lit (.int .i64 4)] 2] [(r,kvT,kvC k)] (fun v H=>v=lit (.int .i64 1)∧H=[(r,kvT,kvC k)]) noX:=by
 have hl:kTx.length=5:=rfl;rcases h with rfl|rfl
 ·refine PuH.intro Tryz.func239 rfl kr fun C hC=>?_
  refine A2 ⟨?_⟩;intros;refine WP.unroll 3 (WPR.succ ?_);refine D1 J9 ⟨?_⟩;intros;refine WP.unroll 3 (WPR.succ ?_);refine A2 ⟨?_⟩;intros;refine Wo (ae (cs':=[lit (.int .i64 3)]) rfl rfl om om rfl (by simp)) ?_;refine A2 ⟨?_⟩;intros;refine Wdo (uA (i:=1) rfl rfl om) ?_;refine D1 RB ⟨?_⟩;intros;refine WP.unroll 3 (WPR.succ ?_);refine A2 ⟨?_⟩;intros;refine Wo (ae (cs':=[lit (.int .i64 3)]) rfl rfl om om rfl (by simp)) ?_;refine A2 ⟨?_⟩;intros;refine Wo (ae (cs':=[lit (.int .i64 4)]) rfl rfl om om rfl (by simp)) ?_;refine A2 ⟨?_⟩;intros;exact ct _ _ (bJ (RV.tmp rfl) Lr) Sr ⟨rfl,rfl⟩
 ·refine PuH.intro Tryz.func239 rfl kr fun C hC=>?_
  refine A2 ⟨?_⟩;intros;refine WP.unroll 3 (WPR.succ ?_);refine D1 J9 ⟨?_⟩;intros;refine WP.unroll 3 (WPR.succ ?_);refine A2 ⟨?_⟩;intros;refine Wo (ae (cs':=[lit (.int .i64 3)]) rfl rfl om om rfl (by simp)) ?_;refine A2 ⟨?_⟩;intros;exact ct _ _ (bJ (RV.tmp rfl) Lr) Sr ⟨rfl,rfl⟩
theorem uM (r k k':Nat) (a:Tq) (h:(k=0∧k'=1∧a=kqA∨k=3∧k'=5∧a=kqB)∨k=1∧k'=3∧a=kqM∨k=5∧k'=5∧a=kqE) :
  PuH Tryz.prog 197 [ke r] [(r,kvT,kvC k)] (fun v H=>v=Ab.tup [ag (ktx a),lit .nilIface]∧H=[(r,kvT,kvC k')]) noX:=by
 have hl:kTx.length=5:=rfl;have h1:([97]:List UInt8).length=1:=rfl;rcases h with(⟨rfl,rfl,rfl⟩|⟨rfl,rfl,rfl⟩)|⟨rfl,rfl,rfl⟩|⟨rfl,rfl,rfl⟩
 ·have c0:=uL r 0 0 om;have c2:=Hm r 0 om;have c3:=yD r 0 1 97 rfl (by decide) rfl;refine PuH.intro Tryz.func197 rfl kr fun C hC=>?_
  refine A2 ⟨?_⟩;intros;refine WfT c0 ?_;rintro _ _ ⟨rfl,rfl⟩;simp only [ab,a8];refine D1 J9 ⟨?_⟩;intros;refine I1 46 rfl (aq.here _) om om ?_;refine WfT c2 ?_;rintro _ _ ⟨rfl,rfl⟩;simp only [ab,a8];refine WfT c3 ?_;rintro _ _ ⟨rfl,rfl⟩;simp only [ab,a8];refine A2 ⟨?_⟩;intros;exact ct _ _ (eJ (RV.cellA rfl mmA rfl rfl) (RV.tmp rfl) Lr) Sq ⟨rfl,rfl⟩
 ·have c0:=uL r 3 4 om;have c2:=Hm r 4 om;have c3:=yD r 4 5 97 rfl (by decide) rfl;refine PuH.intro Tryz.func197 rfl kr fun C hC=>?_
  refine A2 ⟨?_⟩;intros;refine WfT c0 ?_;rintro _ _ ⟨rfl,rfl⟩;simp only [ab,a8];refine D1 J9 ⟨?_⟩;intros;refine I1 46 rfl (aq.here _) om om ?_;refine WfT c2 ?_;rintro _ _ ⟨rfl,rfl⟩;simp only [ab,a8];refine WfT c3 ?_;rintro _ _ ⟨rfl,rfl⟩;simp only [ab,a8];refine A2 ⟨?_⟩;intros;exact ct _ _ (eJ (RV.cellA rfl mmA rfl rfl) (RV.tmp rfl) Lr) Sq ⟨rfl,rfl⟩
 ·have c0:=uL r 1 2 om;have c3:=yD r 2 3 45 rfl (by decide) rfl;refine PuH.intro Tryz.func197 rfl kr fun C hC=>?_
  refine A2 ⟨?_⟩;intros;refine WfT c0 ?_;rintro _ _ ⟨rfl,rfl⟩;simp only [ab,a8];refine D1 SI ⟨?_⟩;intros;refine WfT c3 ?_;rintro _ _ ⟨rfl,rfl⟩;simp only [ab,a8];refine A2 ⟨?_⟩;intros;exact ct _ _ (eJ (RV.cellA rfl mmA rfl rfl) (RV.tmp rfl) Lr) Sq ⟨rfl,rfl⟩
 ·have c0:=uL r 5 5 om;refine PuH.intro Tryz.func197 rfl kr fun C hC=>?_
  refine A2 ⟨?_⟩;intros;refine WfT c0 ?_;rintro _ _ ⟨rfl,rfl⟩;simp only [ab,a8];refine A2 ⟨?_⟩;intros;exact ct _ _ (eJ (RV.cellA rfl mmA rfl rfl) (RV.tmp rfl) Lr) Sq ⟨rfl,rfl⟩
abbrev kTs:List Tq:=[kqA,kqM,kqB,kqE]
theorem Fu:Pu Tryz.prog 146 [str kTx] (Ab.tup [kts kTs,lit .nilIface]):=by
 have hl:kTx.length=5:=rfl;have n1:=fun r=>uM r 0 1 kqA (by simp)
 have n2:=fun r=>uM r 1 3 kqM (by simp)
 have n3:=fun r=>uM r 3 5 kqB (by simp)
 have n4:=fun r=>uM r 5 5 kqE (by simp)
 refine Pi Tryz.func146 fun C=>?_
 refine A2 ⟨?_⟩;intros;rename_i r;refine WP.unroll 4 (WPR.succ ?_);refine A2 ⟨?_⟩;intros;refine WfT (n1 r) ?_;rintro _ _ ⟨rfl,rfl⟩;simp only [ab,a8];refine A2 ⟨?_⟩;intros;refine ot (Own.nil ktT 4) om (fun s1 H1 o1=>?_);simp only [ab,a8];have hco1:=o1.co;refine A2 ⟨?_⟩;intros;refine WfT (n2 r) ?_ (hs:=Tk.cons (aq.there _ (aq.there _ (aq.here _))) (Tk.nil _));rintro _ _ ⟨rfl,rfl⟩;refine WPL.perm aG ?_;simp only [ab,a8];refine A2 ⟨?_⟩;intros;refine ot o1 om (fun s2 H2 o2=>?_);simp only [ab,a8];have hco2:=o2.co;refine A2 ⟨?_⟩;intros;refine WfT (n3 r) ?_ (hs:=Tk.cons (aq.there _ (aq.there _ (aq.here _))) (Tk.nil _));rintro _ _ ⟨rfl,rfl⟩;refine WPL.perm aG ?_;simp only [ab,a8];refine A2 ⟨?_⟩;intros;refine ot o2 om (fun s3 H3 o3=>?_);simp only [ab,a8];have hco3:=o3.co;refine A2 ⟨?_⟩;intros;refine WfT (n4 r) ?_ (hs:=Tk.cons (aq.there _ (aq.there _ (aq.here _))) (Tk.nil _));rintro _ _ ⟨rfl,rfl⟩;refine WPL.perm aG ?_;simp only [ab,a8];refine A2 ⟨?_⟩;intros;refine ot o3 om (fun s4 H4 o4=>?_);simp only [ab,a8];obtain⟨hcl,⟨h0,_⟩|⟨b,c,hnc,hcm,rfl,rfl⟩⟩:=o4
 ·exact absurd h0 (by decide)
 refine WPL.pub (d:=29) (s':=kts kTs) (by repeat(first|exact aq.here _|apply aq.there)) rfl (fun m arr h1 h2=>pn h1 h2 hnc hcm) ?_;refine A2 ⟨?_⟩;intros;refine cV (eJ (RV.tmp rfl) (RV.tmp rfl) (Le.of_eq rfl))
end Go.Ab
