/- An abstract machine over the walk calculus: frame slots hold monotone predicates on values, local mutable blocks stand in a list, all else is unchanging memory. Every law holds of every program. -/
import Derived.Tactics2
import Derived.Orders
import Derived.Scope
import Derived.Deep.LoopGhost
import Derived.KernelRfl
import Derived.Laws.Cells
import Derived.Laws.Rows
import Derived.Laws.Wrap64
import GoSem.ClaimData
import Derived.Laws.AppendOwn
import Derived.LaidEql
import Derived.Stop.IfaceNil
import Derived.LoopN
set_option linter.all false
namespace Go.Ab
abbrev xM:=@List.mem_cons_of_mem
abbrev cL:=@List.mem_cons_self
abbrev ak:=@List.mem_cons
abbrev bG:=@Bool.and_eq_true
abbrev iJ:=@List.replicate_succ
abbrev au:=@Nat.le_refl
abbrev cQ:=@Nat.lt_of_lt_of_le
abbrev aU:=@Nat.le_trans
abbrev np:=@Nat.le_succ
abbrev dt:=@Array.getElem?_eq_some_iff
abbrev aj:=@List.mem_map
abbrev az:=@List.mem_append
abbrev aH:=@List.map_append
abbrev jh:=@List.nodup_append
abbrev bA:=@Nat.eq_of_beq_eq_true
abbrev cY:=@Nat.beq_refl
abbrev fS:=@of_decide_eq_true
abbrev kX:=@of_decide_eq_false
abbrev lG:=@Ne.symm
abbrev iK:=@Nat.not_lt
abbrev ay:=@Nat.blt_eq
abbrev vG:=@Array.getElem?_eq_getElem
abbrev nf:=@beq_self_eq_true
abbrev aV:=@if_true
abbrev vF:=@Option.bind_some
abbrev kW:=@Option.getD_some
abbrev rS:=@Option.map_some
abbrev bM:=@Option.some.injEq
abbrev cP:=@Prod.mk.injEq
abbrev gC:=@Option.map_eq_some_iff
abbrev n9:=@not_true_eq_false
abbrev aO:=@if_false
abbrev pa:=@Int.not_lt
abbrev jg:=@List.getElem?_map
abbrev n7:=@List.drop_take
abbrev jP:=@List.drop_drop
abbrev cO:=@List.length_drop
abbrev eE:=@List.getElem?_take
abbrev eD:=@List.getElem?_drop
abbrev aC:=@List.length_take
abbrev kV:=@List.take_take
abbrev dv:=@Nat.min_eq_left
abbrev aD:=@List.map_cons
abbrev iI:=@List.nodup_cons
abbrev vE:=@Array.getElem?_modify
abbrev aF:=@List.length_cons
abbrev p9:=@Nat.le_of_eq
abbrev gY:=@Nat.le_of_ble_eq_true
abbrev aN:=@Array.length_toList
abbrev cj:=@Nat.add_zero
abbrev n6:=@Array.getElem?_eq_none
abbrev rR:=@Array.size_append
abbrev rQ:=@Array.size_replicate
abbrev rP:=@Array.toArray_toList
abbrev vD:=@List.mapM_toArray
abbrev vC:=@List.size_toArray
abbrev ar:=@List.mem_singleton
abbrev dN:=@Int.toNat_natCast
abbrev cB:=@Nat.mul_one
abbrev jO:=@List.drop_eq_getElem_cons
abbrev fR:=@List.drop_eq_nil_of_le
abbrev p8:=@List.map_drop
abbrev mW:=@List.map_take
abbrev vB:=@List.zipIdx_cons
abbrev gX:=@List.foldl_cons
abbrev jN:=@Nat.add_assoc
abbrev dV:=@List.cons.injEq
abbrev vA:=@List.mem_toArray
abbrev iH:=@List.map_toArray
abbrev du:=@List.toList_toArray
abbrev p7:=@List.map_map
abbrev cK:=@List.length_map
abbrev an:=@Nat.zero_le
abbrev aX:=@Bool.true_and
abbrev aE:=@Nat.mul_comm
abbrev cX:=@Int.natCast_mul
abbrev p6:=@Nat.mod_one
abbrev cg:=@Bool.or_eq_false_iff
abbrev vz:=@decide_eq_false_iff_not
abbrev bE:=@Bool.false_eq_true
abbrev bD:=@List.drop_zero
abbrev aP:=@List.take_length
abbrev eC:=@List.pairwise_cons
abbrev vw:=@List.map_congr_left
abbrev cG:=@List.mem_append_left
abbrev vv:=@List.mem_filterMap
abbrev cN:=@List.mem_append_right
abbrev fQ:=@List.all_eq_true
abbrev dE:=@List.mem_range
abbrev aW:=@Bool.false_or
abbrev fw:=@Bool.not_eq_true'
abbrev fv:=@List.contains_iff_mem
abbrev zM:=@List.mem_take_iff_getElem
abbrev kU:=@Bool.not_true
abbrev mV:=@List.Pairwise.sublist
abbrev rO:=@List.take_sublist
abbrev p5:=@List.pairwise_iff_getElem
abbrev cW:=@List.mem_filter
abbrev jM:=@List.pairwise_append
abbrev rN:=@List.filter_eq_self
abbrev iB:=@cond_true
abbrev tv:=@Nat.testBit_or
abbrev bO:=@Bool.or_eq_true
abbrev nP:=@List.any_cons
abbrev aJ:=@Nat.lt_or_ge
abbrev xK:=@Option.isNone_iff_eq_none
abbrev bd:=@List.append_nil
abbrev cT:=@List.eq_nil_of_length_eq_zero
abbrev qi:=@List.exists_cons_of_ne_nil
abbrev dA:=@List.append_of_mem
abbrev lL:=@List.perm_middle
abbrev gQ:=@Nat.lt_trichotomy
abbrev xJ:=@Classical.byContradiction
abbrev qh:=@List.pairwise_map
abbrev xI:=@List.Pairwise.imp_of_mem
abbrev lK:=@List.length_filter_le
abbrev fG:=@List.not_mem_nil
abbrev eP:=@or_false
abbrev tu:=@List.take_succ_eq_append_getElem
abbrev gP:=@List.mem_of_mem_take
abbrev kM:=@List.mem_of_mem_drop
abbrev fg:=@List.getElem_mem
abbrev df:=@List.getElem?_eq_none
abbrev ab:=@List.cons_append
abbrev bR:=@Nat.pow_succ
abbrev aM:=@Nat.mul_add
abbrev aI:=@Nat.mul_assoc
abbrev eO:=@Nat.mul_le_mul_left
abbrev dz:=@List.take_of_length_le
abbrev gO:=@List.take_append_drop
abbrev gN:=@Nat.pow_le_pow_right
abbrev kL:=@Nat.lt_of_le_of_lt
abbrev xH:=@Int.fdiv_eq_ediv_of_nonneg
abbrev qg:=@BitVec.toNat_ofNat
abbrev eN:=@Nat.mod_eq_of_lt
abbrev aZ:=@Bool.false_and
abbrev xG:=@Nat.two_pow_add_eq_or_of_lt
abbrev tt:=@BitVec.toNat_or
abbrev gM:=@Nat.add_comm
abbrev ff:=@List.getElem?_cons_zero
abbrev gg:=@List.getElem?_cons_succ
abbrev aB:=@Nat.zero_add
abbrev fF:=@Array.toList_append
abbrev a8:=@List.nil_append
abbrev lJ:=@List.take_append_of_le_length
abbrev fE:=@List.length_pos_iff
abbrev bw:=@List.flatten_cons
abbrev fD:=@List.getElem?_append_left
abbrev lI:=@List.getElem?_append_right
abbrev e6:=@Nat.succ_mul
abbrev qf:=@List.ext_getElem?
abbrev cS:=@Nat.mod_lt
abbrev bI:=@List.getElem?_eq_some_iff
abbrev dc:=@Nat.pow_pos
abbrev nO:=@Nat.pow_mul
abbrev cD:=@Nat.pow_add
abbrev jH:=@Nat.pow_zero
abbrev f9:=@Nat.pos_of_ne_zero
abbrev fC:=@Nat.div_add_mod
abbrev dw:=@Nat.div_le_self
abbrev xF:=@Option.bind_eq_some_iff
abbrev j5:=@List.Perm.refl
abbrev a9:=@decide_eq_true
abbrev aa:=@decide_eq_false
abbrev eM:=@List.drop_succ_cons
abbrev jG:=@List.drop_nil
abbrev gL:=@List.take_succ_cons
abbrev jF:=@List.take_zero
abbrev iA:=@List.take_nil
abbrev j4:=@List.flatten_nil
abbrev lH:=@List.replicate_zero
abbrev gK:=@List.set_cons_zero
abbrev j0:=@List.set_cons_succ
abbrev bQ:=@Nat.zero_mul
abbrev aY:=@Nat.one_mul
abbrev tr:=@Int.toNat_zero
abbrev bq:=@List.length_nil
abbrev jE:=@Bool.and_self
abbrev kK:=@cond_false
abbrev aT:=@Nat.add_mul
abbrev kJ:=@Nat.add_sub_cancel_left
abbrev iz:=@List.map_nil
abbrev lF:=@Array.empty_append
abbrev nN:=@Array.append_empty
abbrev qe:=@Int.mul_one
abbrev eL:=@List.drop_length
abbrev nM:=@Nat.lt_or_gt_of_ne
abbrev iy:=@Int.lt_trichotomy
abbrev gf:=@Int.sign_eq_neg_one_of_neg
abbrev fy:=@Int.sign_eq_one_of_pos
abbrev iZ:=@Nat.mul_right_comm
abbrev db:=@Nat.mul_le_mul
abbrev tn:=@Int.mul_nonneg
abbrev nL:=@List.getElem?_replicate
abbrev jD:=@Nat.mul_zero
abbrev lE:=@decide_false
abbrev aS:=@Bool.and_false
abbrev bo:=@Bool.and_true
abbrev qd:=@Int.mul_neg
abbrev nK:=@Nat.sub_le
abbrev gJ:=@and_true
abbrev tm:=@Array.toList_map
abbrev tj:=@Array.toList_range
abbrev aR:=@Nat.mul_le_mul_right
abbrev kI:=@Nat.div_lt_iff_lt_mul
abbrev kH:=@Nat.mul_lt_mul_of_pos_right
abbrev nJ:=@Int.natCast_emod
abbrev ti:=@Nat.add_mul_div_left
abbrev iw:=@Nat.div_eq_of_lt
abbrev qc:=@Nat.mul_left_comm
abbrev xE:=@Nat.lt_of_mul_lt_mul_right
abbrev qa:=@Nat.mul_add_div
abbrev q9:=@Nat.mul_add_mod
abbrev kG:=@Nat.mul_pos
abbrev dZ:=@Nat.add_sub_cancel
abbrev th:=@Nat.sub_add_cancel
abbrev lD:=@Nat.gcd_zero_right
abbrev ge:=@Nat.gcd_comm
abbrev lC:=@Nat.gcd_rec
abbrev q8:=@Int.ofNat_natAbs_of_nonpos
abbrev nI:=@Int.natAbs_of_nonneg
abbrev fx:=@Int.natAbs_mul
abbrev tg:=@Int.gcd_dvd_left
abbrev q7:=@Nat.le_of_dvd
abbrev xD:=@Int.tdiv_eq_ediv_of_dvd
abbrev kF:=@Nat.div_one
abbrev xC:=@Nat.mul_div_cancel_left
abbrev tf:=@Int.mul_ediv_cancel_left
abbrev lB:=@Nat.gcd_dvd_left
abbrev td:=@Rat.mkRat_zero
abbrev nH:=@Nat.gcd_eq_zero_iff
abbrev nG:=@Nat.gcd_dvd_right
abbrev gc:=@Int.sign_eq_zero_iff_zero
abbrev jC:=@Int.natAbs_neg
abbrev pZ:=@Nat.le_max_right
abbrev jB:=@Rat.neg_num
abbrev nF:=@Rat.neg_den
abbrev nE:=@Rat.add_def'
abbrev nD:=@Rat.mul_def'
abbrev pY:=@Rat.sub_eq_add_neg
abbrev jA:=@Rat.mkRat_one
abbrev eA:=@Rat.num_intCast
abbrev jy:=@Rat.den_intCast
abbrev gI:=@Int.sub_add_cancel
abbrev iu:=@Nat.mul_ne_zero
abbrev io:=@Rat.mkRat_self
abbrev ga:=@Rat.num_eq_zero
abbrev im:=@Int.natAbs_natCast
abbrev iY:=@Rat.div_def
abbrev lA:=@Rat.mkRat_mul_mkRat
abbrev tc:=@Rat.mkRat_mul_right
abbrev pX:=@Rat.num_nonneg
abbrev f8:=@Rat.le_of_lt
abbrev nC:=@Nat.gcd_mul_left
abbrev nB:=@Rat.mul_zero
abbrev iX:=@Rat.intCast_mul
abbrev ik:=@Rat.mul_assoc
abbrev pW:=@Rat.mul_inv_cancel
abbrev pV:=@Rat.mul_one
abbrev eK:=@Rat.mul_comm
abbrev dQ:=@Rat.mul_eq_zero
abbrev xB:=@Int.mul_nonneg_of_nonpos_of_nonpos
abbrev bB:=@Bool.or_true
abbrev bs:=@Bool.true_or
abbrev tb:=@Nat.gcd_zero_left
abbrev pU:=@Rat.add_zero
abbrev nA:=@Rat.zero_add
abbrev ij:=@Nat.sub_mul
abbrev ac:=@List.length_append
abbrev iW:=@List.length_replicate
abbrev aG:=@List.perm_append_comm
abbrev pS:=@List.any_append
abbrev iV:=@Nat.sub_self
abbrev lz:=@List.any_eq_true
abbrev kE:=@List.foldl_append
abbrev t9:=@List.takeWhile_cons
abbrev bn:=@List.mem_of_getElem?
abbrev t8:=@Rat.intCast_natCast
abbrev dk:=@Rat.mul_nonneg
abbrev g9:=@Rat.le_total
abbrev bP:=@Rat.le_refl
abbrev ez:=@Rat.mul_pos
abbrev g8:=@Rat.div_mul_cancel
abbrev cC:=@decide_eq_true_eq
abbrev nz:=@Rat.not_le
abbrev ii:=@Rat.intCast_eq_zero_iff
abbrev ig:=@Rat.not_lt
abbrev t7:=@List.exists_mem_of_ne_nil
abbrev kD:=@List.set_append_right
abbrev ax:=@List.append_assoc
abbrev cH:=@List.flatten_append
abbrev av:=@List.nil_sublist
abbrev aA:=@List.getElem?_eq_getElem
abbrev sZ:=@List.take_left'
abbrev jx:=@Prod.ext
abbrev kC:=@true_or
abbrev jw:=@false_or
abbrev gH:=@true_and
abbrev cR:=@List.getD_eq_getElem?_getD
abbrev iU:=@List.range_succ
abbrev kB:=@List.mem_iff_getElem
abbrev sY:=@List.getElem_drop
abbrev aQ:=@Bool.or_false
abbrev kA:=@Bool.eq_iff_iff
abbrev bZ:=@Option.some.inj
abbrev pR:=@Nat.mul_eq_zero
abbrev xA:=@List.take_length_add_append
abbrev xz:=@List.drop_length_add_append
abbrev ly:=@Nat.ble_eq_true_of_le
abbrev bH:=@List.length_singleton
abbrev ny:=@Option.isSome_some
abbrev kz:=@Int.sign_trichotomy
abbrev gG:=@List.length_set
abbrev sX:=@List.pairwise_singleton
abbrev xy:=@List.getLast_eq_getElem
abbrev sW:=@Option.isSome_iff_exists
abbrev gF:=@Rat.intCast_neg
abbrev sV:=@List.mem_iff_getElem?
abbrev xx:=@List.append_eq_append_iff
abbrev pQ:=@beq_iff_eq
abbrev sU:=@List.Perm.of_eq
abbrev nu:=@Option.isSome_none
abbrev sS:=@List.drop_left
abbrev xw:=@List.drop_append_of_le_length
abbrev lx:=@List.sum_cons
abbrev dP:=@List.countP_cons
abbrev nt:=@decide_true
abbrev ky:=@List.mem_flatten
abbrev sR:=@List.countP_le_length
abbrev sQ:=@Option.getD_none
abbrev pP:=@Rat.lt_irrefl
abbrev pO:=@Classical.not_not
abbrev sP:=@List.take_add_one
abbrev fZ:=@List.sublist_cons_self
abbrev iS:=@List.sublist_append_left
abbrev sO:=@Bool.not_false
abbrev xv:=@List.findIdx?_eq_some_iff_getElem
abbrev gE:=@List.map_eq_nil_iff
abbrev xu:=@Nat.lt_succ_iff_lt_or_eq
theorem om {p:Prop}(h:p:=by omega):p:=h
theorem kr {p:Prop}(h:p:=by kernel_rfl):p:=h
theorem Mc {α:Type _}{a b:α}{l:List α}(h:a∈l):a∈b::l:=xM _ h
theorem Ms {α:Type _}{a:α}{l:List α}:a∈a::l:=cL
theorem Sr {α:Type _}{l:List α}:l.Sublist l:=List.Sublist.refl l
theorem Sc {α:Type _}{a:α}{l l':List α}(h:l.Sublist l'):l.Sublist (a::l'):=List.Sublist.cons a h
abbrev Mem:=Nat→Option Obj
def Mem.le (m m':Mem):Prop:=∀b o,m b=some o→m' b=some o
theorem Mem.le_refl (m:Mem):m.le m:=fun _ _ h=>h
theorem Mem.le_trans {a b c:Mem}(h:a.le b) (k:b.le c):a.le c:=fun x o hx=>k x o (h x o hx)
structure SV where
 p:Mem→Value→Prop
 mono:∀{m m':Mem}{v:Value},m.le m'→p m v→p m' v
abbrev Fr:=Nat→SV
abbrev LH:=List (Nat×TypeId×List SV)
@[irreducible] def lit (v:Value):SV:=⟨fun _ u=>u=v,fun _ h=>h⟩
@[irreducible] def top:SV:=⟨fun _ _=>True,fun _ h=>h⟩
@[irreducible] def ex {α:Type}(f:α→SV):SV:=⟨fun m v=>∃x,(f x).p m v,fun h ⟨x,hx⟩=>⟨x,(f x).mono h hx⟩⟩
def bk (m:Mem):List SV→List Value→Prop
 | [],[]=>True
 |s::ss,v::vs=>(s.p m v∧v.oneCell'=true)∧bk m ss vs
 |_,_=>False
def dC (m:Mem):List SV→List Value→Prop
 | [],[]=>True
 |s::ss,v::vs=>s.p m v∧dC m ss vs
 |_,_=>False
theorem dC.mono {m m':Mem}(h:m.le m'):∀{cs:List SV}{vs:List Value},dC m cs vs→dC m' cs vs
 | [],[],_=>trivial
 |s::_,_::_,hh=>⟨s.mono h hh.1,dC.mono h hh.2⟩
 | [],_::_,hh=>hh.elim
 |_::_,[],hh=>hh.elim
theorem dC.get {m:Mem}:∀{cs:List SV}{vs:List Value}{i:Nat}{s:SV},dC m cs vs→cs[i]? = some s→∃v,vs[i]? = some v∧s.p m v
 | [],[],_,_,_,h=>by simp at h
 |_::_,v::_,0,_,hh,h=>⟨v,by simp,by simp at h;exact h▸hh.1⟩
 |_::_,_::_,i+1,_,hh,h=>by
  have:=hh.2.get (i:=i) (by simpa using h);simpa using this
 | [],_::_,_,_,hh,_=>hh.elim
 |_::_,[],_,_,hh,_=>hh.elim
theorem bk.mono {m m':Mem}(h:m.le m'):∀{cs:List SV}{vs:List Value},bk m cs vs→bk m' cs vs
 | [],[],_=>trivial
 |s::_,_::_,hh=>⟨⟨s.mono h hh.1.1,hh.1.2⟩,bk.mono h hh.2⟩
 | [],_::_,hh=>hh.elim
 |_::_,[],hh=>hh.elim
theorem bk.length {m:Mem}:∀{cs:List SV}{vs:List Value},bk m cs vs→vs.length=cs.length
 | [],[],_=>rfl
 |_::_,_::_,hh=>by simp [hh.2.length]
 | [],_::_,hh=>hh.elim
 |_::_,[],hh=>hh.elim
theorem bk.flat {m:Mem}:∀{cs:List SV}{vs:List Value},bk m cs vs→∀v∈vs,v.oneCell'=true
 | [],[],_,_,h=>by cases h
 |_::_,_::_,hh,v,h=>by
  rcases ak.1 h with rfl|h
  ·exact hh.1.2
  ·exact hh.2.flat v h
 | [],_::_,hh,_,_=>hh.elim
 |_::_,[],hh,_,_=>hh.elim
theorem bk.get {m:Mem}:∀{cs:List SV}{vs:List Value}{i:Nat}{s:SV},bk m cs vs→cs[i]? = some s→∃v,vs[i]? = some v∧s.p m v∧v.oneCell'=true
 | [],[],_,_,_,h=>by simp at h
 |_::_,v::_,0,_,hh,h=>⟨v,by simp,by simp at h;exact h▸hh.1⟩
 |_::_,_::_,i+1,_,hh,h=>by
  have:=hh.2.get (i:=i) (by simpa using h);simpa using this
 | [],_::_,_,_,hh,_=>hh.elim
 |_::_,[],_,_,hh,_=>hh.elim
theorem bk.append {m:Mem}:∀{cs ds:List SV}{vs us:List Value},bk m cs vs→bk m ds us→bk m (cs++ds) (vs++us)
 | [],_,[],_,_,k=>k
 |_::_,_,_::_,_,h,k=>⟨h.1,h.2.append k⟩
 | [],_,_::_,_,h,_=>h.elim
 |_::_,_,[],_,h,_=>h.elim
theorem bk.drop {m:Mem}:∀{cs:List SV}{vs:List Value}(n:Nat),bk m cs vs→bk m (cs.drop n) (vs.drop n)
 | [],[],n,_=>by simp [bk]
 |_::_,_::_,0,h=>h
 |_::_,_::_,n+1,h=>by simpa using h.2.drop n
 | [],_::_,_,h=>h.elim
 |_::_,[],_,h=>h.elim
theorem bk.take {m:Mem}:∀{cs:List SV}{vs:List Value}(n:Nat),bk m cs vs→bk m (cs.take n) (vs.take n)
 | [],[],n,_=>by simp [bk]
 |_::_,_::_,0,_=>by simp [bk]
 |_::_,_::_,n+1,h=>by simpa [bk] using ⟨h.1,h.2.take n⟩
 | [],_::_,_,h=>h.elim
 |_::_,[],_,h=>h.elim
theorem bk.set {m:Mem}{s:SV}{v:Value}:∀{cs:List SV}{vs:List Value}(n:Nat),bk m cs vs→s.p m v→v.oneCell'=true→bk m (cs.set n s) (vs.set n v)
 | [],[],n,_,_,_=>by simp [bk]
 |_::_,_::_,0,h,k,f=>by simpa [bk] using ⟨⟨k,f⟩,h.2⟩
 |_::_,_::_,n+1,h,k,f=>by simpa [bk] using ⟨h.1,h.2.set n k f⟩
 | [],_::_,_,h,_,_=>h.elim
 |_::_,[],_,h,_,_=>h.elim
theorem bk.lits (m:Mem):∀vs:List Value,(vs.all (·.oneCell'))=true→bk m (vs.map lit) vs
 | [],_=>trivial
 |v::vs,h=>by
  simp only [List.all_cons,bG]at h;exact⟨⟨by unfold lit;rfl,h.1⟩,bk.lits m vs h.2⟩
theorem bk.replicate {m:Mem}{s:SV}{v:Value}(h:s.p m v) (f:v.oneCell'=true):∀n,bk m (List.replicate n s) (List.replicate n v)
 |0=>trivial
 |n+1=>by simp only [iJ];exact⟨⟨h,f⟩,bk.replicate h f n⟩
def upd (F:Fr) (d:Nat) (s:SV):Fr:=fun t=>bif Nat.beq t d then s else F t
def fm:List (Nat×SV)→Fr
 | []=>fun _=>top
 |(d,s)::r=>upd (fm r) d s
def ini:List SV→Nat→SV
 | [],_=>top
 |s::_,0=>s
 |_::ss,n+1=>ini ss n
def ie (m:Mem) (b off:Nat) (cs:List SV):Prop :=
 ∃(arr:Array Value) (T:TypeId) (fz:Nat×Nat),m b=some (.cells arr T fz)∧bk m cs ((arr.toList.drop off).take cs.length)
theorem ie.mono {m m':Mem}(h:m.le m'){b off:Nat}{cs:List SV}:ie m b off cs→ie m' b off cs :=
 fun⟨arr,T,fz,a,b⟩=>⟨arr,T,fz,h _ _ a,b.mono h⟩
class Base where
 mem:Mem
variable [Base]
structure dD (m:Mem) (w:World):Prop where
 at':∀b o,m b=some o→w.heap[b]? = some o
 base:Base.mem.le m
instance {m:Mem}{w:World}:CoeFun (dD m w) (fun _=>∀b o,m b=some o→w.heap[b]? = some o):=⟨dD.at'⟩
def jt (m:Mem) (w:World) (b:Nat) (T:TypeId) (cs:List SV):Prop :=
 ∃arr:Array Value,w.heap[b]? = some (.cells arr T (0,0))∧bk m cs arr.toList
def HOk (m:Mem) (w:World) (H:LH):Prop :=
 (H.map (·.1)).Nodup∧∀e∈H,m e.1=none∧jt m w e.1 e.2.1 e.2.2
structure Rel (ks:List Nat) (m:Mem) (w:World) (m':Mem) (w':World):Prop where
 le:m.le m'
 old:∀b,b<w.heap.size→b∉ks→m' b=m b
 os:w'.os=w.os
 tape:w'.tape=w.tape
 output:w'.output=w.output∧w.drawn≤w'.drawn
 size:w.heap.size≤w'.heap.size
 block:∀b,b<w.heap.size→b∉ks→w'.heap[b]? = w.heap[b]?
theorem Rel.refl (ks:List Nat) (m:Mem) (w:World):Rel ks m w m w :=
 ⟨Mem.le_refl m,fun _ _ _=>rfl,rfl,rfl,⟨rfl,au _⟩,au _,fun _ _ _=>rfl⟩
theorem Rel.trans {ks ks' : List Nat} {m m1 m2 : Mem} {w w1 w2 : World} (h : Rel ks m w m1 w1) (k : Rel ks' m1 w1 m2 w2)
    (hk:∀b,b<w.heap.size→b∈ks'→b∈ks):Rel ks m w m2 w2 :=
  ⟨Mem.le_trans h.le k.le,fun b hb hn=>(k.old b (cQ hb h.size) (fun x=>hn (hk b hb x))).trans (h.old b hb hn),
   k.os.trans h.os,k.tape.trans h.tape,⟨k.output.1.trans h.output.1,aU h.output.2 k.output.2⟩,aU h.size k.size,
   fun b hb hn=>(k.block b (cQ hb h.size) (fun x=>hn (hk b hb x))).trans (h.block b hb hn)⟩
theorem Rel.drw {ks:List Nat}{m m':Mem}{w w':World}(h:Rel ks m w m' w'):Rel ks m w m' {w' with drawn:=w'.drawn+1}:=⟨h.le,h.old,h.os,h.tape,⟨h.output.1,aU h.output.2 (np _)⟩,h.size,h.block⟩
theorem jt.lt {m:Mem}{w:World}{b:Nat}{T:TypeId}{cs:List SV}(h:jt m w b T cs):b<w.heap.size:=by
 obtain⟨arr,h,_⟩:=h;exact(dt.1 h).1
theorem HOk.rel {ks:List Nat}{m m':Mem}{w w':World}{H:LH}(h:HOk m w H) (r:Rel ks m w m' w') (hk:∀e∈H,e.1∉ks):HOk m' w' H :=
 ⟨h.1,fun e he=>by
  obtain⟨hm,hc⟩:=h.2 e he;have hlt:=hc.lt;obtain⟨arr,ha,hall⟩:=hc;exact⟨(r.old _ hlt (hk e he)).trans hm,arr,(r.block _ hlt (hk e he)).trans ha,hall.mono r.le⟩⟩
theorem Rel.mono {ks ks':List Nat}{m m':Mem}{w w':World}(h:Rel ks m w m' w') (hs:∀b∈ks,b∈ks'):Rel ks' m w m' w' :=
 ⟨h.le,fun b hb hn=>h.old b hb fun x=>hn (hs b x),h.os,h.tape,h.output,h.size,fun b hb hn=>h.block b hb fun x=>hn (hs b x)⟩
def keys (H:LH):List Nat:=H.map (·.1)
theorem yx {H:LH}{e:Nat×TypeId×List SV}(h:e∈H):e.1∈keys H:=aj.2 ⟨e,h,rfl⟩
theorem HOk.beside {m m':Mem}{w w':World}{E H:LH}(h:HOk m w (E++H)) (h':HOk m' w' H) (r:Rel (keys H) m w m' w'):HOk m' w' (E++H):=by
 refine⟨h.1,fun e he=>?_⟩;rcases az.1 he with hE|hH
 ·obtain⟨hm,hc⟩:=h.2 e he;have hlt:=hc.lt
  have hn:e.1∉keys H:=fun hk=>by
   have hnd:=h.1;rw [aH]at hnd;exact(jh.1 hnd).2.2 _ (aj.2 ⟨e,hE,rfl⟩) _ hk rfl
  obtain⟨arr,ha,hall⟩:=hc;exact⟨(r.old _ hlt hn).trans hm,arr,(r.block _ hlt hn).trans ha,hall.mono r.le⟩
 ·exact h'.2 e hH
structure Ctx where
 ks:List Nat
 m:Mem
 w:World
 pan:SV→LH→Prop:=fun _ _=>False
 dfs:List Deferred:=[]
def St (C:Ctx) (n:Nat) (F:Fr) (H:LH) (a:Act) (w:World):Prop :=
 a.defers=C.dfs∧n≤a.tmps.size∧∃m,dD m w∧HOk m w H∧Rel C.ks C.m C.w m w∧(∀e∈H,e.1∈C.ks∨C.w.heap.size≤e.1)∧
  ∀t,(F t).p m (a.tmps.getD t undef)
def ev (F:Fr):Operand→SV
 | .tmp t=>F t
 | .const v=>lit v
 | .global g=>lit (.pointer (some ⟨g,0,none⟩))
 | .func f=>lit (.func (.func f) #[] #[])
def Le (s s':SV):Prop:=∀m v,s.p m v→s'.p m v
theorem Le.refl (s:SV):Le s s:=fun _ _ h=>h
theorem Le.of_eq {s s':SV}(h:s=s'):Le s s':=h▸Le.refl s
theorem Le.top (s:SV):Le s top:=fun _ _ _=>by unfold Ab.top;trivial
theorem Le.ex {α:Type}{f:α→SV}{s:SV}(x:α) (h:Le s (f x)):Le s (ex f):=fun m v hv=>by unfold Ab.ex;exact⟨x,h m v hv⟩
def LeF (F G:Fr):Prop:=∀t,Le (F t) (G t)
theorem LeF.refl (F:Fr):LeF F F:=fun _=>Le.refl _
theorem LeF.nil (F:Fr):LeF F (fm []):=fun _=>Le.top _
theorem LeF.upd {F G:Fr}{d:Nat}{s:SV}(h:Le (F d) s) (k:LeF F G):LeF F (upd G d s):=fun t=>by
 unfold Ab.upd;cases hb:Nat.beq t d with
 |true=>have:=bA hb;subst this;exact h
 |false=>exact k t
theorem LeF.cons {F:Fr}{d:Nat}{s:SV}{r:List (Nat×SV)}(h:Le (F d) s) (k:LeF F (fm r)):LeF F (fm ((d,s)::r)):=LeF.upd h k
theorem St.le {C:Ctx}{n:Nat}{F F':Fr}{H:LH}{a:Act}{w:World}(h:St C n F H a w) (k:LeF F F'):St C n F' H a w:=by
 obtain⟨hd,hn,m,h1,h2,h3,h4,h5⟩:=h;exact⟨hd,hn,m,h1,h2,h3,h4,fun t=>k t _ _ (h5 t)⟩
def j8 (K:Fr→LH→Prop) (Q:Exit→Fr→LH→Prop):Exit→Fr→LH→Prop
 | .normal,F,H=>K F H
 |e,F,H=>Q e F H
def rG (id:Nat) (Q:Exit→Fr→LH→Prop):Exit→Fr→LH→Prop
 | .exit id',F,H=>bif Nat.beq id' id then Q .normal F H else Q (.exit id') F H
 |e,F,H=>Q e F H
def Pan (C:Ctx) (ch:List PanicEntry) (a:Act) (w:World):Prop :=
 a.defers=C.dfs∧∃(m:Mem) (v:Value) (pv:SV) (H:LH),ch=[{v:=v,recovered:=false}]∧dD m w∧HOk m w H∧Rel C.ks C.m C.w m w∧(∀e∈H,e.1∈C.ks∨C.w.heap.size≤e.1)∧pv.p m v∧C.pan pv H
def oE (C:Ctx) (n:Nat) (Q:Exit→Fr→LH→Prop):Exit→Act→World→Prop :=
 fun e a w=>(∃F H,St C n F H a w∧Q e F H)∨∃ch,e = .panic ch∧Pan C ch a w
theorem oE.mk {C:Ctx}{n:Nat}{Q:Exit→Fr→LH→Prop}{e:Exit}{F:Fr}{H:LH}{a:Act}{w:World}(hs:St C n F H a w) (hq:Q e F H):oE C n Q e a w := .inl ⟨F,H,hs,hq⟩
def WP (P:Program) (C:Ctx) (n:Nat) (c:Code) (Q:Exit→Fr→LH→Prop) (F:Fr) (H:LH):Prop :=
 ∀a w,St C n F H a w→c.wp P (oE C n Q) a w
section rules
variable {P:Program}{C:Ctx}{n:Nat}{Q:Exit→Fr→LH→Prop}{F:Fr}{H:LH}
theorem WP.le {c:Code}{F':Fr}(k:LeF F F') (h:WP P C n c Q F' H):WP P C n c Q F H:=fun a w hs=>h a w (hs.le k)
theorem WP.mono {c:Code}{Q':Exit→Fr→LH→Prop}(h:WP P C n c Q F H) (k:∀e F H,Q e F H→Q' e F H):WP P C n c Q' F H :=
 fun a w hs=>wp_mono (h a w hs) fun e _ _ hx=>hx.imp (fun⟨F',H',hs',hq⟩=>⟨F',H',hs',k e F' H' hq⟩) id
theorem WP.seq {x y:Code}(h:∀K:Fr→LH→Prop,(∀F H,WP P C n y Q F H→K F H)→WP P C n x (j8 K Q) F H):WP P C n (.seq x y) Q F H:=by
 intro a w hs;refine wp_seq (wp_mono (h (fun F H=>WP P C n y Q F H) (fun _ _ h=>h) a w hs) ?_);rintro e a' w' (⟨F',H',hs',hq⟩|⟨ch,rfl,hp⟩)
 ·cases e with
  |normal=>exact hq a' w' hs'
  |_=>exact .inl ⟨F',H',hs',hq⟩
 ·exact .inr ⟨ch,rfl,hp⟩
theorem WP.join {x y:Code}(J:Fr→LH→Prop) (h:WP P C n x (j8 J Q) F H) (k:∀F' H',J F' H'→WP P C n y Q F' H'):WP P C n (.seq x y) Q F H:=by
 refine WP.seq fun K hK=>h.mono ?_
 intro e F' H' hq;cases e with
 |normal=>exact hK _ _ (k _ _ hq)
 |_=>exact hq
theorem WP.block {id:Nat}{c:Code}(h:WP P C n c (rG id Q) F H):WP P C n (.block id c) Q F H:=by
 intro a w hs;refine wp_block (wp_mono (h a w hs) ?_);rintro e a' w' (⟨F',H',hs',hq⟩|⟨ch,rfl,hp⟩)
 ·cases e with
  |exit id' =>
   simp only [rG]at hq;simp only [Exit.inBlock];cases hb:Nat.beq id' id with
   |true=>rw [hb]at hq;rw [if_pos (bA hb)];exact .inl ⟨F',H',hs',hq⟩
   |false=>rw [hb]at hq;rw [if_neg (fun h=>by rw [h,cY]at hb;cases hb)];exact .inl ⟨F',H',hs',hq⟩
  |_=>exact .inl ⟨F',H',hs',hq⟩
 ·exact .inr ⟨ch,rfl,hp⟩
def scQ (Q:Exit→Fr→LH→Prop):Exit→Fr→LH→Prop
 | .goto _,_,_=>False
 |e,F,H=>Q e F H
theorem WP.scope {c:Code}(h:WP P C n c (scQ Q) F H):WP P C n (.scope c) Q F H:=by
 intro a w hs;refine wp_scope_straight (wp_mono (h a w hs) ?_);rintro e a' w' (⟨F',H',hs',hq⟩|⟨ch,rfl,hp⟩)
 ·cases e with
  |goto l=>exact hq.elim
  |_=>exact .inl ⟨F',H',hs',hq⟩
 ·exact .inr ⟨ch,rfl,hp⟩
theorem scN (h:Q .normal F H):scQ Q .normal F H:=h
theorem scR (h:Q .ret F H):scQ Q .ret F H:=h
theorem scX {i:Nat}(h:Q (.exit i) F H):scQ Q (.exit i) F H:=h
theorem WP.skip (h:Q .normal F H):WP P C n .skip Q F H:=fun _ _ hs=>wp_skip (.mk hs h)
theorem WP.label {l:Nat}(h:Q .normal F H):WP P C n (.label l) Q F H:=fun _ _ hs=>wp_label (.mk hs h)
theorem WP.exit {id:Nat}(h:Q (.exit id) F H):WP P C n (.exit id) Q F H:=fun _ _ hs=>wp_exit (.mk hs h)
theorem WP.ret (h:Q .ret F H):WP P C n .ret Q F H:=fun _ _ hs=>wp_ret (.mk hs h)
theorem St.evp {a:Act}{w:World}(h:St C n F H a w):∃m,dD m w∧∀x,(ev F x).p m (a.eval x):=by
 obtain⟨_,_,m,h1,_,_,_,h5⟩:=h;refine⟨m,h1,fun x=>?_⟩;cases x with
 |tmp t=>exact h5 t
 |const v=>unfold ev lit;rfl
 |global g=>unfold ev lit;rfl
 |func f=>unfold ev lit;rfl
theorem ap {m:Mem}{v u:Value}:(lit v).p m u↔u=v:=by unfold lit;exact Iff.rfl
theorem WP.cond {c:Operand}{x y:Code}{t:Bool}(hc:ev F c=lit (.bool t)) (h1:t=true→WP P C n x Q F H) (h2:t=false→WP P C n y Q F H) :
  WP P C n (.cond c x y) Q F H:=by
 intro a w hs;obtain⟨m,_,hp⟩:=hs.evp;have hv:=hp c;rw [hc,ap]at hv;exact wp_cond_split hv (fun h=>h1 h a w hs) (fun h=>h2 h a w hs)
theorem WP.condD {c:Operand}{x y:Code}{p:Prop} [Decidable p] (hc:ev F c=lit (.bool (decide p))) (h1:p→WP P C n x Q F H) (h2:¬p→WP P C n y Q F H) :
  WP P C n (.cond c x y) Q F H:=WP.cond hc (fun h=>h1 (fS h)) (fun h=>h2 (kX h))
theorem WP.loop {ι:Type}{c:Code}(J:ι→Prop) (μ:ι→Nat) (G:ι→Fr) (L:ι→LH) (x0:ι) (h0:J x0) (hF:LeF F (G x0)) (hH:H=L x0)
  (round:∀x,J x→∀K:Fr→LH→Prop,(∀F' H' x',J x'→μ x'<μ x→LeF F' (G x')→H'=L x'→K F' H')→WP P C n c (j8 K Q) (G x) (L x)) :
  WP P C n (.loop c) Q F H:=by
 intro a w hs;subst hH;refine wp_loop_ghost (fun k a w=>∃x,μ x=k∧J x∧St C n (G x) (L x) a w) (μ x0) ⟨x0,rfl,h0,hs.le hF⟩ ?_;rintro k a w ⟨x,rfl,hJ,hs⟩;refine wp_mono (round x hJ (fun F' H'=>∃x',J x'∧μ x'<μ x∧LeF F' (G x')∧H'=L x') (fun F' H' x' a b c d=>⟨x',a,b,c,d⟩) a w hs) ?_;rintro e a' w' (⟨F',H',hs',hq⟩|⟨ch,rfl,hp⟩)
 ·cases e with
  |normal =>
   obtain⟨x',hJ',hμ,hF',rfl⟩:=hq;exact⟨μ x',hμ,x',rfl,hJ',hs'.le hF'⟩
  |_=>exact .inl ⟨F',H',hs',hq⟩
 ·exact .inr ⟨ch,rfl,hp⟩
def OpV (P:Program) (op:Op) (ty:TypeId) (F:Fr) (H:LH) (sv:SV):Prop :=
 ∀(m:Mem) (w:World) (o:Oper) (a:Act),o.op=op→o.type=ty→dD m w→HOk m w H→
  (∀t, .tmp t∈op.operands→(F t).p m (a.eval (.tmp t)))→
  ∀(K:Act→World→Prop) (Q:Exit→Act→World→Prop),
   (∀v m' w',sv.p m' v→dD m' w'→HOk m' w' H→Rel (keys H) m w m' w'→K (a.put o.dst v) w')→o.wp P a w K Q
theorem OpV.of0 {op:Op}{ty:TypeId}{F:Fr}{H:LH}{sv:SV}(h:∀(m:Mem) (w:World) (o:Oper) (a:Act),o.op=op→o.type=ty→dD m w→HOk m w H→(∀t, .tmp t∈op.operands→(F t).p m (a.eval (.tmp t)))→
  ∀(K:Act→World→Prop) (Q:Exit→Act→World→Prop),(∀v m' w',sv.p m' v→dD m' w'→Rel [] m w m' w'→K (a.put o.dst v) w')→o.wp P a w K Q):OpV P op ty F H sv :=
 fun m w o a ho hty h1 h2 h3 K Q hK=>h m w o a ho hty h1 h2 h3 K Q fun v m' w' q1 q2 q3=>hK v m' w' q1 q2 (h2.rel q3 fun _ _=>by simp) (q3.mono fun _ h=>by cases h)
theorem OpV.congr {op:Op}{ty:TypeId}{F F':Fr}{sv:SV}(h:OpV P op ty F H sv) (k:∀t, .tmp t∈op.operands→F t=F' t):OpV P op ty F' H sv :=
 fun m w o a ho hty h1 h2 h3=>h m w o a ho hty h1 h2 fun t ht=>by rw [k t ht];exact h3 t ht
theorem gT {a:Act}{d t:Nat}{v:Value}(hd:d<a.tmps.size):(a.put (some d) v).tmps.getD t undef=if t=d then v else a.tmps.getD t undef:=by
 simp only [Act.put];by_cases h:t=d
 ·subst h;simp [hd]
 ·rw [if_neg h];simp [Array.getElem?_setIfInBounds_ne (lG h)]
theorem St.put {a:Act}{w w':World}{d:Nat}{v:Value}{sv:SV}{m m':Mem}(hd:d<n)
  (hdef:a.defers=C.dfs) (hn:n≤a.tmps.size) (_h2:HOk m w H) (h3:Rel C.ks C.m C.w m w)
  (h4:∀e∈H,e.1∈C.ks∨C.w.heap.size≤e.1) (h5:∀t,(F t).p m (a.tmps.getD t undef))
  (hv:sv.p m' v) (hm':dD m' w') (hH':HOk m' w' H) (r:Rel (keys H) m w m' w'):St C n (upd F d sv) H (a.put (some d) v) w':=by
 refine⟨hdef,by simpa [Act.put] using hn,m',hm',hH',h3.trans r (fun b hb h=>?_),h4,fun t=>?_⟩
 ·obtain⟨e,he,rfl⟩:=aj.1 h;rcases h4 e he with h|h
  ·exact h
  ·exact absurd hb (iK.2 h)
 rw [gT (cQ hd hn)];unfold upd;by_cases ht:t=d
 ·subst ht;rw [if_pos rfl,cY];exact hv
 ·rw [if_neg ht]
  have:Nat.beq t d=false:=by
   cases hb:Nat.beq t d with
   |false=>rfl
   |true=>exact absurd (bA hb) ht
  rw [this];exact(F t).mono r.le (h5 t)
structure WQ (C:Ctx) (n:Nat) (K:Fr→LH→Prop) (Q:Exit→Act→World→Prop):Prop where
 norm:∀a' w' F' H',St C n F' H' a' w'→K F' H'→Q .normal a' w'
 pan:∀ch a' w',Pan C ch a' w'→Q (.panic ch) a' w'
theorem WQ.lift {C:Ctx}{n:Nat}{Q:Exit→Fr→LH→Prop}:WQ C n (fun F H=>Q .normal F H) (oE C n Q):=⟨fun _ _ _ _ hs hq => .mk hs hq,fun ch _ _ hp => .inr ⟨ch,rfl,hp⟩⟩
def WPL (P:Program) (C:Ctx) (n:Nat) (ops:Array Oper) (l:List Oper) (K:Fr→LH→Prop) (F:Fr) (H:LH):Prop :=
 ∀a w,St C n F H a w→∀Q:Exit→Act→World→Prop,WQ C n K Q→wpList P ops Q l a w
variable {ops:Array Oper}{K:Fr→LH→Prop}{rest:List Oper}
theorem WPL.nil (h:K F H):WPL P C n ops [] K F H:=fun a w hs _ hq=>wpList_nil (hq.norm a w F H hs h)
theorem WPL.le {l:List Oper}{F':Fr}(k:LeF F F') (h:WPL P C n ops l K F' H):WPL P C n ops l K F H:=fun a w hs=>h a w (hs.le k)
theorem WP.reg {id:Nat}{l:List Oper}(h:WPL P C n l.toArray l (fun F H=>Q .normal F H) F H):WP P C n (.region id l.toArray false) Q F H :=
 fun a w hs=>wp_region_lit (h a w hs _ .lift)
theorem WPL.val {d:Nat}{op:Op}{ty:TypeId}{pos:String}{aft:Array Edge}{sv:SV}(hop:OpV P op ty F H sv) (hd:Nat.blt d n=true)
  (k:WPL P C n ops rest K (upd F d sv) H):WPL P C n ops (⟨some d,op,ty,pos,aft,none⟩::rest) K F H:=by
 intro a w hs Q hq;obtain⟨hdef,hn,m,h1,h2,h3,h4,h5⟩:=hs;refine wpList_plain rfl fun K' hK'=>?_
 refine hop m w _ a rfl rfl h1 h2 (fun t _=>h5 t) K' Q fun v m' w' hv hm' hH' r=>hK' _ _ ?_
 exact k _ _ (St.put (ay.mp hd) hdef hn h2 h3 h4 h5 hv hm' hH' r) Q hq
theorem tz {j:Nat}{oj:Oper}{dj:Nat}{t:Bool}{a:Act}{w:World}(hs:St C n F H a w) (hj:ops[j]? = some oj) (hd:oj.dst=some dj)
  (hf:F dj=lit (.bool t)) (hdn:Nat.blt dj n=true):yielded ops a.tmps j=some t:=by
 obtain⟨_,hn,m,_,_,_,_,h5⟩:=hs;have h:=h5 dj;rw [hf,ap]at h;have hlt:dj<a.tmps.size:=cQ (ay.mp hdn) hn
 have:a.tmps[dj]? = some (.bool t):=by
  rw [vG hlt];simp [hlt]at h;rw [h]
 simp [yielded,hj,hd,this]
theorem WPL.valG {d j:Nat}{op:Op}{ty:TypeId}{pos:String}{aft:Array Edge}{sv:SV}{t:Bool}{oj:Oper}{dj:Nat}
  (hj:ops[j]? = some oj) (hdj:oj.dst=some dj) (hf:F dj=lit (.bool t)) (hdn:Nat.blt dj n=true)
  (hop:OpV P op ty F H sv) (hd:Nat.blt d n=true)
  (k:WPL P C n ops rest K (upd F d sv) H):WPL P C n ops (⟨some d,op,ty,pos,aft,some (j,t)⟩::rest) K F H:=by
 intro a w hs Q hq;have hy:=tz hs hj hdj hf hdn;obtain⟨hdef,hn,m,h1,h2,h3,h4,h5⟩:=hs;refine wpList_step fun K' hK'=>?_
 simp only [Region.wanted,hy,nf,aV];refine hop m w _ a rfl rfl h1 h2 (fun t _=>h5 t) K' Q fun v m' w' hv hm' hH' r=>hK' _ _ ?_
 exact k _ _ (St.put (ay.mp hd) hdef hn h2 h3 h4 h5 hv hm' hH' r) Q hq
theorem WPL.skipG {d j:Nat}{op:Op}{ty:TypeId}{pos:String}{aft:Array Edge}{t t':Bool}{oj:Oper}{dj:Nat}
  (hj:ops[j]? = some oj) (hdj:oj.dst=some dj) (hf:F dj=lit (.bool t')) (hdn:Nat.blt dj n=true) (hne:(t'==t)=false)
  (hd:Nat.blt d n=true)
  (k:WPL P C n ops rest K (upd F d (lit undef)) H):WPL P C n ops (⟨some d,op,ty,pos,aft,some (j,t)⟩::rest) K F H:=by
 intro a w hs Q hq;have hy:=tz hs hj hdj hf hdn;obtain⟨hdef,hn,m,h1,h2,h3,h4,h5⟩:=hs;refine wpList_skip (by simp only [Region.wanted,hy];simpa using hne) ?_;exact k _ _ (St.put (ay.mp hd) hdef hn h2 h3 h4 h5 (ap.2 rfl) h1 h2 (Rel.refl _ _ _)) Q hq
theorem u5 {j:Nat}{oj:Oper}{dj:Nat}{a:Act}(hj:ops[j]? = some oj) (hd:oj.dst=some dj) (h:a.tmps.getD dj undef=undef):yielded ops a.tmps j=none:=by
 unfold yielded;simp only [hj,hd,vF];rw [Array.getD_eq_getD_getElem?]at h;cases ht:a.tmps[dj]? with
 |none=>rfl
 |some v =>
  rw [ht]at h;simp only [kW]at h;subst h;rfl
theorem WPL.skipU {d j:Nat}{op:Op}{ty:TypeId}{pos:String}{aft:Array Edge}{t:Bool}{oj:Oper}{dj:Nat}
  (hj:ops[j]? = some oj) (hdj:oj.dst=some dj) (hf:F dj=lit undef) (hd:Nat.blt d n=true)
  (k:WPL P C n ops rest K (upd F d (lit undef)) H):WPL P C n ops (⟨some d,op,ty,pos,aft,some (j,t)⟩::rest) K F H:=by
 intro a w hs Q hq;obtain⟨hdef,hn,m,h1,h2,h3,h4,h5⟩:=hs;have hy:=u5 (a:=a) hj hdj (by have h:=h5 dj;rw [hf,ap]at h;exact h);refine wpList_skip (by simp only [Region.wanted,hy];rfl) ?_;exact k _ _ (St.put (ay.mp hd) hdef hn h2 h3 h4 h5 (ap.2 rfl) h1 h2 (Rel.refl _ _ _)) Q hq
theorem WPL.exd {α:Type}{l:List Oper}{d:Nat}{f:α→SV}(hf:F d=ex f) (h:∀x,WPL P C n ops l K (upd F d (f x)) H):WPL P C n ops l K F H:=by
 intro a w hs;obtain⟨hdef,hn,m,h1,h2,h3,h4,h5⟩:=hs;have hx:=h5 d;rw [hf]at hx;unfold ex at hx;obtain⟨x,hx⟩:=hx;refine h x a w ⟨hdef,hn,m,h1,h2,h3,h4,fun t=>?_⟩;unfold upd;cases hb:Nat.beq t d with
 |true=>rw [bA hb];exact hx
 |false=>exact h5 t
end rules
def vZ:TypeDesc→Bool
 | .struct _| .array _ _=>true
 |_=>false
class TY (P:Program) (T:TypeId) (sz by_:outParam Nat) (z:outParam (List SV)) (agg:outParam Bool):Prop where
 info:∃l:List Value,(P.info? T).map (fun i=>(i.size,i.bytes,i.zero.map fun z=>z.cells.toList))=some (sz,by_,some l)∧l.map lit=z∧l.all (·.oneCell')=true∧l.length=sz
 agg:(P.underlying T).map vZ=some agg
class TSl (P:Program) (T:TypeId) (e:outParam TypeId):Prop where
 h:P.underlying T=some (.slice e)
class TSt (P:Program) (T:TypeId) (fs:outParam (List (Nat×Nat))):Prop where
 h:∃a:Array Field,P.underlying T=some (.struct a)∧a.toList.map (fun f=>(some f.offset,(P.info? f.type).map (·.size)))=fs.map fun p=>(some p.1,some p.2)
class TIn (P:Program) (T:TypeId) (k:outParam IntKind):Prop where
 h:P.underlying T=some (.int k)
class TBo (P:Program) (T:TypeId):Prop where
 h:P.underlying T=some .bool
class TSr (P:Program) (T:TypeId):Prop where
 h:P.underlying T=some .string
class TPt (P:Program) (T:TypeId) (e:outParam TypeId):Prop where
 h:P.underlying T=some (.pointer e)
@[irreducible] def ag (cs:List SV):SV:=⟨fun m v=>∃arr:Array Value,v = .agg arr∧bk m cs arr.toList,fun h ⟨arr,e,k⟩=>⟨arr,e,k.mono h⟩⟩
@[irreducible] def tup (cs:List SV):SV:=⟨fun m v=>∃arr:Array Value,v = .tuple arr∧dC m cs arr.toList,fun h ⟨arr,e,k⟩=>⟨arr,e,k.mono h⟩⟩
@[irreducible] def pt (cs:List SV):SV:=⟨fun m v=>∃b off,v = .pointer (some ⟨b,off,none⟩)∧ie m b off cs,fun h ⟨b,off,e,k⟩=>⟨b,off,e,k.mono h⟩⟩
@[irreducible] def sl (cs:List SV) (n:Nat):SV:=⟨fun m v=>∃a cap,v = .slice a n cap∧n≤cap∧cap≤maxLen∧(cs=[]∨∃b off,a=some ⟨b,off,none⟩∧ie m b off cs),
 fun h ⟨a,cap,e,x,y,k⟩=>⟨a,cap,e,x,y,k.imp id fun⟨b,off,e,k⟩=>⟨b,off,e,k.mono h⟩⟩⟩
class CO (s:SV) (cs:outParam (List SV)):Prop where
 h:∀m v,s.p m v→bk m cs v.cells.toList
instance (cs:List SV):CO (ag cs) cs:=⟨fun m v h=>by unfold ag at h;obtain⟨arr,rfl,h⟩:=h;exact h⟩
theorem lp {s:SV}(hs:∀m v,s.p m v→v.cells = #[v]∧v.oneCell'=true):CO s [s]:=⟨fun m v h=>by rw [(hs m v h).1];exact⟨⟨h,(hs m v h).2⟩,trivial⟩⟩
instance (k:IntKind) (n:Int):CO (lit (.int k n)) [lit (.int k n)]:=lp fun m v h=>by rw [ap]at h;subst h;exact⟨rfl,rfl⟩
instance (b:Bool):CO (lit (.bool b)) [lit (.bool b)]:=lp fun m v h=>by rw [ap]at h;subst h;exact⟨rfl,rfl⟩
instance (s:ByteArray):CO (lit (.string s)) [lit (.string s)]:=lp fun m v h=>by rw [ap]at h;subst h;exact⟨rfl,rfl⟩
instance (a:Option Addr):CO (lit (.pointer a)) [lit (.pointer a)]:=lp fun m v h=>by rw [ap]at h;subst h;exact⟨rfl,rfl⟩
instance (a:Option Addr) (n c:Nat):CO (lit (.slice a n c)) [lit (.slice a n c)]:=lp fun m v h=>by rw [ap]at h;subst h;exact⟨rfl,rfl⟩
instance (cs:List SV) (n:Nat):CO (sl cs n) [sl cs n]:=lp fun m v h=>by unfold sl at h;obtain⟨a,c,rfl,_⟩:=h;exact⟨rfl,rfl⟩
instance (cs:List SV):CO (pt cs) [pt cs]:=lp fun m v h=>by unfold pt at h;obtain⟨a,c,rfl,_⟩:=h;exact⟨rfl,rfl⟩
instance:CO (lit .nilIface) [lit .nilIface]:=lp fun m v h=>by rw [ap]at h;subst h;exact⟨rfl,rfl⟩
section
variable {P:Program}{F:Fr}{H:LH}{ty:TypeId}
theorem TY.run_size {T:TypeId}{sz by_:Nat}{z:List SV}{g:Bool}(h:TY P T sz by_ z g) (w:World):(sizeOf T).run P w = .ok sz w:=by
 obtain⟨l,hi,_⟩:=h.info;cases hp:P.info? T with
 |none=>rw [hp]at hi;simp at hi
 |some i=>rw [hp]at hi;simp at hi;simp [sizeOf,typeInfo,hp,hi]
theorem TY.run_agg {T:TypeId}{sz by_:Nat}{z:List SV}{g:Bool}(h:TY P T sz by_ z g) (w:World):(isAgg T).run P w = .ok g w:=by
 have hg:=h.agg;cases hp:P.underlying T with
 |none=>rw [hp]at hg;simp at hg
 |some d=>rw [hp]at hg;simp at hg;subst hg;cases d <;> simp [isAgg,underlying,hp,vZ]
theorem TY.run_bytes {T:TypeId}{sz by_:Nat}{z:List SV}{g:Bool}(h:TY P T sz by_ z g):∃i v,P.info? T=some i∧i.size=sz∧i.bytes=by_∧i.zero=some v∧v.cells.toList.map lit=z∧v.cells.toList.all (·.oneCell')=true∧v.cells.size=sz:=by
 obtain⟨l,hi,hz,hf,hl⟩:=h.info;cases hp:P.info? T with
 |none=>rw [hp]at hi;simp at hi
 |some i =>
  rw [hp]at hi;simp only [rS,bM,cP,gC]at hi;obtain⟨h1,h2,v,h3,h4⟩:=hi;exact⟨i,v,rfl,h1,h2,h3,by rw [h4];exact hz,by rw [h4];exact hf,by rw [←hl,←h4];simp⟩
theorem TY.run_zero {T:TypeId}{sz by_:Nat}{z:List SV}{g:Bool}(h:TY P T sz by_ z g) (w:World):∃v,(zeroValue T).run P w = .ok v w∧∀m,bk m z v.cells.toList:=by
 obtain⟨i,v,hp,_,_,hz,hl,hf,_⟩:=h.run_bytes;exact⟨v,by simp [zeroValue,typeInfo,hp,hz],fun m=>hl▸bk.lits m _ hf⟩
theorem eB (w:World) (b off:Nat) (arr:Array Value) (T:TypeId) (fz:Nat×Nat) (h:w.heap[b]? = some (.cells arr T fz)):w.cell? ⟨b,off,none⟩=arr[off]?:=by
 simp [World.cell?,h]
theorem cE (b o n:Nat):(⟨b,o,none⟩:Addr).add n=⟨b,o+n,none⟩:=by
 unfold Addr.add;split
 ·subst_vars;rfl
 ·rfl
theorem evA {op:Op}{m:Mem}{a:Act}(h:∀t, .tmp t∈op.operands→(F t).p m (a.eval (.tmp t))){x:Operand}(hx:x∈op.operands):(ev F x).p m (a.eval x):=by
 cases x with
 |tmp t=>exact h t hx
 |const v=>unfold ev lit;rfl
 |global g=>unfold ev lit;rfl
 |func f=>unfold ev lit;rfl
theorem OpV.pure {op:Op}{sv:SV}
  (h:∀(m:Mem) (w:World) (o:Oper) (a:Act),o.op=op→o.type=ty→dD m w→HOk m w H→(∀x∈op.operands,(ev F x).p m (a.eval x))→
   ∃v,(execOp a.eval o).run P w = .ok (.value v) w∧sv.p m v):OpV P op ty F H sv:=by
 refine OpV.of0 ?_;intro m w o a ho hty h1 h2 h3 K Q hK;obtain⟨v,hr,hv⟩:=h m w o a ho hty h1 h2 fun x hx=>evA h3 hx
 unfold Oper.wp;rw [hr];exact hK v m w hv h1 (Rel.refl _ _ _)
theorem On {x:Operand}{sv:SV}(hx:ev F x=sv):OpV P (.move x) ty F H sv :=
 OpV.pure fun m w o a ho _ _ _ h=>⟨a.eval x,by simp [execOp,ho],hx▸h x (by simp [Op.operands])⟩
theorem IU {x:Operand}{sv:SV}(hx:ev F x=sv):OpV P (.assign x) ty F H sv :=
 OpV.pure fun m w o a ho _ _ _ h=>⟨a.eval x,by simp [execOp,ho],hx▸h x (by simp [Op.operands])⟩
theorem BG {c x y:Operand}{t:Bool}{sx sy:SV}(hc:ev F c=lit (.bool t)) (hx:ev F x=sx) (hy:ev F y=sy):OpV P (.pick c x y) ty F H (bif t then sx else sy) :=
 OpV.pure fun m w o a ho _ _ _ h=>by
  have h0:=h c (by simp [Op.operands]);rw [hc,ap]at h0;have h1:=h x (by simp [Op.operands]);rw [hx]at h1;have h2:=h y (by simp [Op.operands]);rw [hy]at h2;refine⟨if t then a.eval x else a.eval y,by simp [execOp,ho,h0,asBool],?_⟩;cases t <;> simpa
theorem Lc {c x y:Operand}{t u v:Bool}(hc:ev F c=lit (.bool t)) (hx:ev F x=lit (.bool u)) (hy:ev F y=lit (.bool v)):OpV P (.pick c x y) ty F H (lit (.bool (bif t then u else v))):=by
 have:=BG (P:=P) (H:=H) (ty:=ty) hc hx hy;cases t <;> exact this
theorem IJ {T:TypeId}{x:Operand}{t:Bool}(hx:ev F x=lit (.bool t)):OpV P (.unOp .not T x) ty F H (lit (.bool (!t))) :=
 OpV.pure fun m w o a ho _ _ _ h=>by
  have h0:=h x (by simp [Op.operands]);rw [hx,ap]at h0;exact⟨.bool !t,by simp [execOp,ho,h0,Op.unary],ap.2 rfl⟩
theorem IK {T:TypeId}{x:Operand}{k:IntKind}{n r:Int}(hx:ev F x=lit (.int k n)) (hr:k.wrap (-n)=r):OpV P (.unOp .neg T x) ty F H (lit (.int k r)) :=
 OpV.pure fun m w o a ho _ _ _ h=>by
  have h0:=h x (by simp [Op.operands]);rw [hx,ap]at h0;exact⟨.int k r,by simp [execOp,ho,h0,Op.unary,Op.intArith,hr],ap.2 rfl⟩
theorem eH {op:BinOp}{T T':TypeId}{x y:Operand}{vx vy r:Value}(hx:ev F x=lit vx) (hy:ev F y=lit vy)
  (hr:∀w,(Go.binOp op T vx vy).run P w = .ok r w) (hg:∀w,(Go.eqGuard op T x y vx vy).run P w = .ok () w):OpV P (.binOp op T x y T') ty F H (lit r) :=
 OpV.pure fun m w o a ho _ _ _ h=>by
  have h0:=h x (by simp [Op.operands]);rw [hx,ap]at h0;have h1:=h y (by simp [Op.operands]);rw [hy,ap]at h1;exact⟨r,by simp [execOp,ho,h0,h1,hr,hg],ap.2 rfl⟩
theorem SN (a b:Int):(a==b)=decide (a=b):=rfl
theorem eF {op:BinOp}{T:TypeId}{x y:Operand}{k k':IntKind}{a b:Int}(w:World):(Go.eqGuard op T x y (.int k a) (.int k' b)).run P w = .ok () w:=by
 cases op <;> simp [Go.eqGuard]
section bins
variable {T T':TypeId}{x y:Operand}{k:IntKind}{a b r:Int}(hx:ev F x=lit (.int k a)) (hy:ev F y=lit (.int k b))
include hx hy
theorem Lu (hr:k.wrap (a+b)=r):OpV P (.binOp .add T x y T') ty F H (lit (.int k r)) :=
 eH hx hy (fun w=>by simp [Go.binOp,Op.intArith,hr]) eF
theorem BD (hr:k.wrap (a-b)=r):OpV P (.binOp .sub T x y T') ty F H (lit (.int k r)) :=
 eH hx hy (fun w=>by simp [Go.binOp,Op.intArith,hr]) eF
theorem R8 (hr:k.wrap (a*b)=r):OpV P (.binOp .mul T x y T') ty F H (lit (.int k r)) :=
 eH hx hy (fun w=>by simp [Go.binOp,Op.intArith,hr]) eF
theorem R5 (h0:b≠0) (hr:k.wrap (a.tdiv b)=r):OpV P (.binOp .quo T x y T') ty F H (lit (.int k r)) :=
 eH hx hy (fun w=>by simp [Go.binOp,Op.intDiv,hr,h0]) eF
theorem R4 (h0:b≠0) (hr:a.tmod b=r):OpV P (.binOp .rem T x y T') ty F H (lit (.int k r)) :=
 eH hx hy (fun w=>by simp [Go.binOp,Op.intDiv,hr,h0]) eF
theorem yo (hr:k.wrap (BitVec.ofInt k.bits a &&& BitVec.ofInt k.bits b).toNat=r):OpV P (.binOp .and T x y T') ty F H (lit (.int k r)) :=
 eH hx hy (fun w=>by simp only [Go.binOp,ne_eq,n9,aO,Op.intBits,Sem.run_pure,hr]) eF
theorem qP (hr:k.wrap (BitVec.ofInt k.bits a ||| BitVec.ofInt k.bits b).toNat=r):OpV P (.binOp .or T x y T') ty F H (lit (.int k r)) :=
 eH hx hy (fun w=>by simp only [Go.binOp,ne_eq,n9,aO,Op.intBits,Sem.run_pure,hr]) eF
theorem Rd:OpV P (.binOp .eql T x y T') ty F H (lit (.bool (decide (a=b)))) :=
 eH hx hy (fun w=>by simp [Go.binOp,Op.intCmp,SN]) eF
theorem R7:OpV P (.binOp .neq T x y T') ty F H (lit (.bool (decide (a≠b)))) :=
 eH hx hy (fun w=>by simp [Go.binOp,Op.intCmp,bne,SN]) eF
theorem R9:OpV P (.binOp .lss T x y T') ty F H (lit (.bool (decide (a<b)))) :=
 eH hx hy (fun w=>by simp [Go.binOp,Op.intCmp]) eF
theorem Ra:OpV P (.binOp .leq T x y T') ty F H (lit (.bool (decide (a≤b)))) :=
 eH hx hy (fun w=>by simp [Go.binOp,Op.intCmp]) eF
theorem Rb:OpV P (.binOp .gtr T x y T') ty F H (lit (.bool (decide (b<a)))) :=
 eH hx hy (fun w=>by simp [Go.binOp,Op.intCmp]) eF
theorem Rc:OpV P (.binOp .geq T x y T') ty F H (lit (.bool (decide (b≤a)))) :=
 eH hx hy (fun w=>by simp [Go.binOp,Op.intCmp]) eF
end bins
theorem R3 {T T':TypeId}{x y:Operand}{k k':IntKind}{a b r:Int}(hx:ev F x=lit (.int k a)) (hy:ev F y=lit (.int k' b)) (h0:0≤b)
  (hr:k.wrap (a*2^(min b.toNat k.bits))=r):OpV P (.binOp .shl T x y T') ty F H (lit (.int k r)) :=
 eH hx hy (fun w=>by simp [Go.binOp,Op.shift,hr,pa.2 h0]) eF
theorem R2 {T T':TypeId}{x y:Operand}{k k':IntKind}{a b r:Int}(hx:ev F x=lit (.int k a)) (hy:ev F y=lit (.int k' b)) (h0:0≤b)
  (hr:a.fdiv (2^(min b.toNat k.bits))=r):OpV P (.binOp .shr T x y T') ty F H (lit (.int k r)) :=
 eH hx hy (fun w=>by simp [Go.binOp,Op.shift,hr,pa.2 h0]) eF
theorem OE {S D:TypeId}{k0 k:IntKind} [hS:TIn P S k0] [hD:TIn P D k]{x:Operand}{a r:Int}{ki:IntKind}(hx:ev F x=lit (.int ki a)) (hr:k.wrap a=r):OpV P (.convert S D x) ty F H (lit (.int k r)) :=
 OpV.pure fun m w o c ho _ _ _ h=>by
  have h0:=h x (by simp [Op.operands]);rw [hx,ap]at h0;exact⟨.int k r,by simp [execOp,ho,h0,Go.convert,underlying,hS.h,hD.h,Conv.intToInt,hr],ap.2 rfl⟩
theorem Ek {T:TypeId} [hT:TBo P T]{s t:Bool}(w:World):(Op.equal T (.bool s) (.bool t)).run P w = .ok (s==t) w:=by
 unfold Op.equal Op.maxDepth;rw [show(10000:Nat)=9999+1 from rfl,Op.equalIn];simp [underlying,hT.h]
theorem OH {T T':TypeId} [hT:TBo P T]{x y:Operand}{s t:Bool}(hx:ev F x=lit (.bool s)) (hy:ev F y=lit (.bool t)):OpV P (.binOp .eql T x y T') ty F H (lit (.bool (s==t))) :=
 eH hx hy (fun w=>by simp [Go.binOp,Ek]) (fun w=>by simp [Go.eqGuard])
theorem OG {T T':TypeId} [hT:TBo P T]{x y:Operand}{s t:Bool}(hx:ev F x=lit (.bool s)) (hy:ev F y=lit (.bool t)):OpV P (.binOp .neq T x y T') ty F H (lit (.bool (s != t))) :=
 eH hx hy (fun w=>by simp [Go.binOp,Ek,bne]) (fun w=>by simp [Go.eqGuard])
theorem IS {S:TypeId}{fs:List (Nat×Nat)} [hS:TSt P S fs]{x:Operand}{f b o off sz o':Nat}(hx:ev F x=lit (.pointer (some ⟨b,o,none⟩)))
  (hf:fs[f]? = some (off,sz+1)) (ho:o+off=o'):OpV P (.fieldAddr S x f) ty F H (lit (.pointer (some ⟨b,o',none⟩))) :=
 OpV.pure fun m w o a hop _ _ _ h=>by
  have h0:=h x (by simp [Op.operands]);rw [hx,ap]at h0;obtain⟨A,hA,hm⟩:=hS.h;have hl:(A.toList.map (fun f=>(some f.offset,(P.info? f.type).map (·.size))))[f]? = some (some off,some (sz+1)):=by rw [hm];simp [hf]
  rw [jg]at hl;cases hfd:A.toList[f]? with
  |none=>rw [hfd]at hl;simp at hl
  |some fd =>
   rw [hfd]at hl;simp only [rS,bM,cP,gC]at hl;obtain⟨h1,i,hi,h2⟩:=hl;have hfd':A[f]? = some fd:=by simpa using hfd
   refine⟨.pointer (some ⟨b,o',none⟩),?_,ap.2 rfl⟩;simp [execOp,hop,h0,Instr.fieldAt,underlying,hA,hfd',Instr.sureAddr,fieldPlace,sizeOf,typeInfo,hi,h2,cE,h1,ho]
theorem IR {S:TypeId}{fs:List (Nat×Nat)} [hS:TSt P S fs]{x:Operand}{f off sz:Nat}{cs cs':List SV}(hx:ev F x=pt cs)
  (hf:fs[f]? = some (off,sz+1)) (ho:cs.drop off=cs'):OpV P (.fieldAddr S x f) ty F H (pt cs') :=
 OpV.pure fun m w o a hop _ _ _ h=>by
  have h0:=h x (by simp [Op.operands]);rw [hx]at h0;unfold pt at h0;obtain⟨b,o0,h0,hc⟩:=h0;obtain⟨A,hA,hm⟩:=hS.h;have hl:(A.toList.map (fun f=>(some f.offset,(P.info? f.type).map (·.size))))[f]? = some (some off,some (sz+1)):=by rw [hm];simp [hf]
  rw [jg]at hl;cases hfd:A.toList[f]? with
  |none=>rw [hfd]at hl;simp at hl
  |some fd =>
   rw [hfd]at hl;simp only [rS,bM,cP,gC]at hl;obtain⟨h1,i,hi,h2⟩:=hl;have hfd':A[f]? = some fd:=by simpa using hfd
   refine⟨.pointer (some ⟨b,o0+off,none⟩),?_,?_⟩
   ·simp [execOp,hop,h0,Instr.fieldAt,underlying,hA,hfd',Instr.sureAddr,fieldPlace,sizeOf,typeInfo,hi,h2,cE,h1]
   ·unfold pt;refine⟨b,o0+off,rfl,?_⟩;obtain⟨arr,T,fz,hb,hall⟩:=hc;refine⟨arr,T,fz,hb,?_⟩;have:=hall.drop off;rw [ho,n7,jP]at this;rw [←ho,cO,←jP,jP];rw [ho];exact this
theorem km {T:TypeId}{sz by_:Nat}{z:List SV}(hT:TY P T sz by_ z false){a:Addr}{w:World}{v:Value}(h:w.cell? a=some v):(loadVar T a).run P w = .ok v w:=by
 simp [loadVar,hT.run_agg,h]
theorem mu {T:TypeId}{sz by_:Nat}{z:List SV}(hT:TY P T sz by_ z true){a:Addr}{w:World}(cs:List Value) (hl:cs.length=sz)
  (h:∀j v,cs[j]? = some v→w.cell? (a.add j)=some v):(loadVar T a).run P w = .ok (.agg cs.toArray) w:=by
 have:=run_loadCells_list (P:=P) (w:=w) a cs h;rw [hl]at this;simp [loadVar,hT.run_agg,hT.run_size,this]
theorem eG {T T':TypeId}{by_:Nat}{z:List SV} [hT:TY P T 1 by_ z false]{x:Operand}{b o:Nat}{cs:List SV}{sv:SV}(hx:ev F x=lit (.pointer (some ⟨b,o,none⟩)))
  (hm:(b,T',cs)∈H) (hc:cs[o]? = some sv):OpV P (.load T x) ty F H sv :=
 OpV.pure fun m w o' a hop _ _ hH h=>by
  have h0:=h x (by simp [Op.operands]);rw [hx,ap]at h0;obtain⟨_,arr,hb,hall⟩:=hH.2 _ hm;obtain⟨v,hv,hp,_⟩:=hall.get hc;refine⟨v,?_,hp⟩;have:w.cell? ⟨b,o,none⟩=some v:=by rw [eB w b o arr _ _ hb];simpa using hv
  simp [execOp,hop,h0,Instr.loadAt,Instr.sureAddr,km hT this]
theorem jS {T T':TypeId}{sz by_:Nat}{z:List SV} [hT:TY P T sz by_ z true]{x:Operand}{b o:Nat}{cs cs':List SV}(hx:ev F x=lit (.pointer (some ⟨b,o,none⟩)))
  (hm:(b,T',cs)∈H) (hc:(cs.drop o).take sz=cs') (hl:Nat.beq cs'.length sz=true):OpV P (.load T x) ty F H (ag cs') :=
 OpV.pure fun m w o' a hop _ _ hH h=>by
  have h0:=h x (by simp [Op.operands]);rw [hx,ap]at h0;obtain⟨_,arr,hb,hall⟩:=hH.2 _ hm;have hall':=(hall.drop o).take sz;rw [hc]at hall';refine⟨.agg ((arr.toList.drop o).take sz).toArray,?_,by unfold ag;exact⟨_,rfl,by simpa using hall'⟩⟩
  have:=mu (P:=P) hT (a:=⟨b,o,none⟩) (w:=w) ((arr.toList.drop o).take sz) (by rw [hall'.length];exact bA hl) (fun j v hj=>by
   rw [cE,eB w b _ arr _ _ hb];rw [eE]at hj;split at hj
   ·rw [eD]at hj;simpa using hj
   ·cases hj)
  simp [execOp,hop,h0,Instr.loadAt,Instr.sureAddr,this]
theorem Lj {T:TypeId}{by_:Nat}{z:List SV} [hT:TY P T 1 by_ z false]{x:Operand}{c:SV}{cs:List SV}(hx:ev F x=pt (c::cs)):OpV P (.load T x) ty F H c :=
 OpV.pure fun m w o' a hop _ hm _ h=>by
  have h0:=h x (by simp [Op.operands]);rw [hx]at h0;unfold pt at h0;obtain⟨b,o,h0,arr,T',fz,hb,hall⟩:=h0;obtain⟨v,hv,hp,_⟩:=hall.get (i:=0) (s:=c) (by simp);refine⟨v,?_,hp⟩
  have:w.cell? ⟨b,o,none⟩=some v:=by
   rw [eB w b o arr _ _ (hm _ _ hb)];rw [eE]at hv;split at hv
   ·rw [eD]at hv;simpa using hv
   ·cases hv
  simp [execOp,hop,h0,Instr.loadAt,Instr.sureAddr,km hT this]
theorem IL {T:TypeId}{sz by_:Nat}{z:List SV} [hT:TY P T sz by_ z true]{x:Operand}{cs cs':List SV}(hx:ev F x=pt cs) (hc:cs.take sz=cs') (hl:Nat.beq cs'.length sz=true) :
  OpV P (.load T x) ty F H (ag cs') :=
 OpV.pure fun m w o' a hop _ hm _ h=>by
  have h0:=h x (by simp [Op.operands]);rw [hx]at h0;unfold pt at h0;obtain⟨b,o,h0,arr,T',fz,hb,hall⟩:=h0;have hall':=hall.take sz;rw [hc]at hall'
  have hle:sz≤cs.length:=by
   have:=bA hl;rw [←hc,aC]at this;omega
  rw [kV,dv hle]at hall';refine⟨.agg ((arr.toList.drop o).take sz).toArray,?_,by unfold ag;exact⟨_,rfl,by simpa using hall'⟩⟩
  have:=mu (P:=P) hT (a:=⟨b,o,none⟩) (w:=w) ((arr.toList.drop o).take sz) (by rw [hall'.length];exact bA hl) (fun j v hj=>by
   rw [cE,eB w b _ arr _ _ (hm _ _ hb)];rw [eE]at hj;split at hj
   ·rw [eD]at hj;simpa using hj
   ·cases hj)
  simp [execOp,hop,h0,Instr.loadAt,Instr.sureAddr,this]
end
inductive br (b:Nat) (T:TypeId) (cs cs':List SV):LH→LH→Prop
 |here (H:LH):br b T cs cs' ((b,T,cs)::H) ((b,T,cs')::H)
 |there (e:Nat×TypeId×List SV){H H':LH}:br b T cs cs' H H'→br b T cs cs' (e::H) (e::H')
theorem br.mem {b:Nat}{T:TypeId}{cs cs':List SV}{H H':LH}(h:br b T cs cs' H H'):(b,T,cs)∈H:=by
 induction h with
 |here=>exact Ms
 |there e _ ih=>exact Mc ih
theorem br.keys {b:Nat}{T:TypeId}{cs cs':List SV}{H H':LH}(h:br b T cs cs' H H'):H'.map (·.1)=H.map (·.1):=by
 induction h with
 |here=>rfl
 |there e _ ih=>simp [ih]
theorem br.mem' {b:Nat}{T:TypeId}{cs cs':List SV}{H H':LH}(h:br b T cs cs' H H') (hn:(H.map (·.1)).Nodup) :
  ∀e∈H',e=(b,T,cs')∨(e∈H∧e.1≠b):=by
 induction h with
 |here H =>
  intro e he;rcases ak.1 he with rfl|he
  ·exact .inl rfl
  ·refine .inr ⟨Mc he,fun hb=>?_⟩;simp only [aD,iI]at hn;exact hn.1 (hb▸aj.2 ⟨e,he,rfl⟩)
 |there x hx ih =>
  intro e he;simp only [aD,iI]at hn;rcases ak.1 he with rfl|he
  ·refine .inr ⟨Ms,fun hb=>hn.1 ?_⟩;rw [hb];exact aj.2 ⟨_,hx.mem,rfl⟩
  ·rcases ih hn.2 e he with h|⟨h,k⟩
   ·exact .inl h
   ·exact .inr ⟨Mc h,k⟩
inductive aq (b:Nat) (T:TypeId) (cs:List SV):LH→LH→Prop
 |here (H:LH):aq b T cs ((b,T,cs)::H) H
 |there (e:Nat×TypeId×List SV){H H':LH}:aq b T cs H H'→aq b T cs (e::H) (e::H')
theorem aq.mem {b:Nat}{T:TypeId}{cs:List SV}{H H':LH}(h:aq b T cs H H'):(b,T,cs)∈H:=by
 induction h with
 |here=>exact Ms
 |there e _ ih=>exact Mc ih
theorem aq.sub {b:Nat}{T:TypeId}{cs:List SV}{H H':LH}(h:aq b T cs H H'):∀e∈H',e∈H:=by
 induction h with
 |here=>exact fun e he=>Mc he
 |there x _ ih =>
  intro e he;rcases ak.1 he with rfl|he
  ·exact Ms
  ·exact Mc (ih e he)
theorem aq.keys {b:Nat}{T:TypeId}{cs:List SV}{H H':LH}(h:aq b T cs H H') (hn:(H.map (·.1)).Nodup):(H'.map (·.1)).Nodup∧∀e∈H',e.1≠b:=by
 induction h with
 |here H =>
  simp only [aD,iI]at hn;exact⟨hn.2,fun e he hb=>hn.1 (hb▸aj.2 ⟨e,he,rfl⟩)⟩
 |there x hx ih =>
  simp only [aD,iI]at hn⊢;obtain⟨h1,h2⟩:=ih hn.2;refine⟨⟨fun hm=>?_,h1⟩,fun e he=>?_⟩
  ·obtain⟨e,he,hk⟩:=aj.1 hm;exact hn.1 (aj.2 ⟨e,hx.sub e he,hk⟩)
  ·rcases ak.1 he with rfl|he
   ·exact fun hb=>hn.1 (hb▸aj.2 ⟨_,hx.mem,rfl⟩)
   ·exact h2 e he
def spl (cs:List SV):Nat→List SV→List SV
 |_,[]=>cs
 |o,c::r=>spl (cs.set o c) (o+1) r
theorem sM (w:World) (b:Nat) (arr:Array Value) (T:TypeId) (o:Nat) (v:Value) (hb:w.heap[b]? = some (.cells arr T (0,0))) :
  (w.setCell ⟨b,o,none⟩ v).heap[b]? = some (.cells (arr.setIfInBounds o v) T (0,0)):=by
 have hlt:=(dt.1 hb).1;simp only [World.setCell,vE,hb];rfl
theorem wF (w:World) (b k:Nat) (o:Nat) (v:Value) (h:k≠b):(w.setCell ⟨b,o,none⟩ v).heap[k]? = w.heap[k]?:=by
 simp only [World.setCell,vE];rw [if_neg (fun e=>h e.symm)]
section
variable {P:Program}{C:Ctx}{n:Nat}{F:Fr}{H:LH}{ops:Array Oper}{K:Fr→LH→Prop}{rest:List Oper}
 {ty:TypeId}{pos:String}{aft:Array Edge}
theorem EH {w:World}{b o:Nat}{arr:Array Value}{T:TypeId}{v:Value}(hb:w.heap[b]? = some (.cells arr T (0,0))) (ho:o<arr.size) (hv:v.oneCell'=true) :
  (store ⟨b,o,none⟩ v).run P w = .ok () (w.setCell ⟨b,o,none⟩ v):=by
 have h1:w.cell? ⟨b,o,none⟩=some arr[o]:=by rw [eB w b o arr _ _ hb];simp [ho]
 have h2:w.frozen? ⟨b,o,none⟩=false:=by simp [World.frozen?,hb]
 rw [run_store P w _ _ _ hv,h1];simp [h2]
theorem kN {b:Nat}{T:TypeId}{o:Nat}:∀(vs:List Value) (i:Nat) (w:World) (arr:Array Value),w.heap[b]? = some (.cells arr T (0,0))→o+i+vs.length≤arr.size→
  (∀v∈vs,v.oneCell'=true)→
  ∃w' arr',(storeCells ⟨b,o,none⟩ vs i).run P w = .ok () w'∧w'.heap[b]? = some (.cells arr' T (0,0))∧(∀k,k≠b→w'.heap[k]? = w.heap[k]?)∧
   w'.os=w.os∧w'.tape=w.tape∧(w'.output=w.output∧w'.drawn=w.drawn)∧w'.heap.size=w.heap.size∧
   ∀(m:Mem) (cs ds:List SV),bk m cs arr.toList→bk m ds vs→bk m (spl cs (o+i) ds) arr'.toList
 | [],i,w,arr,hb,_,_=>⟨w,arr,by simp [storeCells],hb,fun _ _=>rfl,rfl,rfl,⟨rfl,rfl⟩,rfl,fun m cs ds h k=>by
   cases ds with
   |nil=>exact h
   |cons _ _=>exact k.elim⟩
 |v::vs,i,w,arr,hb,hl,hf=>by
  simp only [aF]at hl;have hv:=hf v (by simp);have hs:=EH (P:=P) hb (by omega:o+i<arr.size) hv;obtain⟨w',arr',hr,h1,h2,h3,h4,h5,h6,h7⟩:=kN (o:=o) vs (i+1) (w.setCell ⟨b,o+i,none⟩ v) _ (sM w b arr T (o+i) v hb) (by simp;omega) (fun u hu=>hf u (by simp [hu]));refine⟨w',arr',?_,h1,fun k hk=>(h2 k hk).trans (wF w b k _ v hk),h3.trans rfl,h4.trans rfl,⟨h5.1.trans rfl,h5.2.trans rfl⟩,h6.trans (by simp),fun m cs ds h k=>?_⟩
  ·simp only [storeCells,Sem.run_bind,cE,hs,Result.andThen_ok,hr]
  ·cases ds with
   |nil=>exact k.elim
   |cons d ds =>
    have hset:bk m (cs.set (o+i) d) (arr.setIfInBounds (o+i) v).toList:=by
     simpa using h.set (o+i) k.1.1 hv
    exact h7 m (cs.set (o+i) d) ds hset k.2
theorem mf {m:Mem}{w w':World}{b:Nat}{T:TypeId}{cs cs':List SV}{H H':LH}{arr':Array Value}(hm:dD m w) (hH:HOk m w H) (hr:Rel C.ks C.m C.w m w)
  (h4:∀e∈H,e.1∈C.ks∨C.w.heap.size≤e.1) (hu:br b T cs cs' H H') (hb:w'.heap[b]? = some (.cells arr' T (0,0))) (hk:∀k,k≠b→w'.heap[k]? = w.heap[k]?)
  (h1:w'.os=w.os) (h2:w'.tape=w.tape) (h3:w'.output=w.output∧w'.drawn=w.drawn) (hs:w'.heap.size=w.heap.size) (hall:bk m cs' arr'.toList) :
  dD m w'∧HOk m w' H'∧Rel C.ks C.m C.w m w'∧∀e∈H',e.1∈C.ks∨C.w.heap.size≤e.1:=by
 have hmb:=(hH.2 _ hu.mem).1;refine⟨⟨fun k o hko=>?_,hm.base⟩,⟨hu.keys▸hH.1,fun e he=>?_⟩,⟨hr.le,hr.old,h1.trans hr.os,h2.trans hr.tape,⟨h3.1.trans hr.output.1,aU hr.output.2 (p9 h3.2.symm)⟩,hs▸hr.size,fun k hlt hn=>?_⟩,fun e he=>?_⟩
 ·rw [hk k (fun e=>by rw [e,hmb]at hko;cases hko)];exact hm k o hko
 ·rcases hu.mem' hH.1 e he with rfl|⟨he',hne⟩
  ·exact⟨hmb,arr',hb,hall⟩
  ·obtain⟨hm0,arr,ha,hall0⟩:=hH.2 e he';exact⟨hm0,arr,(hk _ hne).trans ha,hall0⟩
 ·rcases h4 _ hu.mem with h|h
  ·rw [hk k (fun e=>hn (e▸h))];exact hr.block k hlt hn
  ·rw [hk k (fun e=>by subst e;exact absurd hlt (iK.2 h))];exact hr.block k hlt hn
 ·have:e.1∈H'.map (·.1):=aj.2 ⟨e,he,rfl⟩;rw [hu.keys]at this;obtain⟨e',he',hk'⟩:=aj.1 this;exact hk'▸h4 e' he'
theorem WPL.store {T T':TypeId}{sz by_:Nat}{z:List SV}{g:Bool} [hT:TY P T sz by_ z g]{x v:Operand}{b o:Nat}{sv:SV}{cs cs' ds:List SV}{H':LH}
  (hx:ev F x=lit (.pointer (some ⟨b,o,none⟩))) (hv:ev F v=sv) [hco:CO sv ds] (hlen:Nat.beq ds.length sz=true)
  (hu:br b T' cs cs' H H') (hsp:spl cs o ds=cs') (hle:Nat.ble (o+sz) cs.length=true)
  (k:WPL P C n ops rest K F H'):WPL P C n ops (⟨none, .store T x v,ty,pos,aft,none⟩::rest) K F H:=by
 intro a w hs Q hq;obtain⟨m,hm,hp⟩:∃m,dD m w∧∀x,(ev F x).p m (a.eval x):=hs.evp;clear hp hm m;obtain⟨hdef,hn,m,h1,h2,h3,h4,h5⟩:=hs
 have hp:∀x,(ev F x).p m (a.eval x):=fun x=>by
  cases x with
  |tmp t=>exact h5 t
  |const v=>unfold ev lit;rfl
  |global g=>unfold ev lit;rfl
  |func f=>unfold ev lit;rfl
 have e0:=hp x;rw [hx,ap]at e0;have e1:=hp v;rw [hv]at e1;have hds:=hco.h m _ e1;obtain⟨_,arr,hb,hall⟩:=h2.2 _ hu.mem;have hsz:=bA hlen;have hlv:=hds.length;have hle':=gY hle;have hla:=hall.length;simp only [aN]at hlv hla;obtain⟨w',arr',hr,g1,g2,g3,g4,g5,g6,g7⟩:=kN (P:=P) (b:=b) (T:=T') (o:=o) (a.eval v).cells.toList 0 w arr hb (by simp only [aN];omega) hds.flat;refine wpList_plain rfl fun K' hK'=>?_
 unfold Oper.wp
 have hrun:(execOp a.eval (⟨none, .store T x v,ty,pos,aft,none⟩:Oper)).run P w = .ok .skip w':=by
  simp only [execOp,Instr.storeAt,e0,Instr.sureAddr,Sem.run_bind,Sem.run_pure,Result.andThen_ok,storeVar,hT.run_size,hlv,hsz];simp [hr]
 rw [hrun];refine hK' _ _ ?_;have hfin:=g7 m cs ds hall hds;rw [cj,hsp]at hfin;obtain⟨q1,q2,q3,q4⟩:=mf h1 h2 h3 h4 hu g1 g2 g3 g4 g5 g6 hfin;exact k _ _ ⟨hdef,hn,m,q1,q2,q3,q4,h5⟩ Q hq
theorem St.push {a:Act}{w:World}{d:Nat}{T:TypeId}{arr:Array Value}{cs:List SV}{v:Value}(hd:d<n) (hs:St C n F H a w)
  (hcs:∀m,(∀x,(ev F x).p m (a.eval x))→bk m cs arr.toList) :
  St C n (upd F d (lit v)) ((w.heap.size,T,cs)::H) (a.put (some d) v) (w.alloc (.cells arr T)):=by
 obtain⟨hdef,hn,m,h1,h2,h3,h4,h5⟩:=hs
 have hp:∀x,(ev F x).p m (a.eval x):=fun x=>by
  cases x with
  |tmp t=>exact h5 t
  |const v=>unfold ev lit;rfl
  |global g=>unfold ev lit;rfl
  |func f=>unfold ev lit;rfl
 have hnone:m w.heap.size=none:=by
  cases hmm:m w.heap.size with
  |none=>rfl
  |some o=>have:=h1 _ _ hmm;rw [n6 (au _)]at this;cases this
 have hsize:(w.alloc (.cells arr T)).heap.size=w.heap.size+1:=World.size_alloc ..;have rel:Rel [] m w m (w.alloc (.cells arr T)):=⟨Mem.le_refl m,fun _ _ _=>rfl,rfl,rfl,⟨rfl,au _⟩,om,fun b hb _=>@heap_alloc_old w _ b hb⟩
 refine⟨hdef,by simpa [Act.put] using hn,m,⟨fun b o hb=>?_,h1.base⟩,⟨?_,?_⟩,h3.trans rel (fun b hb h=>by cases h),?_,fun t=>?_⟩
 ·have:=h1 b o hb;rw [@heap_alloc_old w _ b (dt.1 this).1];exact this
 ·simp only [aD,iI];refine⟨fun hm=>?_,h2.1⟩;obtain⟨e,he,hk⟩:=aj.1 hm;have:=(h2.2 e he).2.lt;omega
 ·intro e he;rcases ak.1 he with rfl|he
  ·exact⟨hnone,arr,heap_alloc_new w _,hcs m hp⟩
  ·have hh:=h2.rel rel (fun _ _=>by simp);exact hh.2 e he
 ·intro e he;rcases ak.1 he with rfl|he
  ·exact .inr h3.size
  ·exact h4 e he
 ·rw [gT (cQ hd hn)];unfold upd;by_cases ht:t=d
  ·subst ht;rw [if_pos rfl,cY];exact ap.2 rfl
  ·rw [if_neg ht]
   have:Nat.beq t d=false:=by
    cases hb:Nat.beq t d with
    |false=>rfl
    |true=>exact absurd (bA hb) ht
   rw [this];exact h5 t
theorem WPL.alloc {T:TypeId}{sz by_:Nat}{z:List SV}{g:Bool} [hT:TY P T sz by_ z g]{d:Nat}(hd:Nat.blt d n=true)
  (k:∀b,WPL P C n ops rest K (upd F d (lit (.pointer (some ⟨b,0,none⟩)))) ((b,T,z)::H)):WPL P C n ops (⟨some d, .alloc T,ty,pos,aft,none⟩::rest) K F H:=by
 intro a w hs Q hq;obtain⟨v,hz,hall⟩:=hT.run_zero w;refine wpList_plain rfl fun K' hK'=>?_
 unfold Oper.wp
 have hrun:(execOp a.eval (⟨some d, .alloc T,ty,pos,aft,none⟩:Oper)).run P w = .ok (.value (.pointer (some ⟨w.heap.size,0,none⟩))) (w.alloc (.cells v.cells T)):=by
  simp [execOp,Instr.alloc,hz,newVar,newRow]
 rw [hrun];exact hK' _ _ (k _ _ _ (St.push (ay.mp hd) hs fun m _=>hall m) Q hq)
theorem WPL.box {T:TypeId}{x:Operand}{sv:SV}{cs:List SV}{d:Nat}(hx:ev F x=sv) [hco:CO sv cs] (hd:Nat.blt d n=true)
  (k:∀b,WPL P C n ops rest K (upd F d (lit (.pointer (some ⟨b,0,none⟩)))) ((b,T,cs)::H)):WPL P C n ops (⟨some d, .box T x,ty,pos,aft,none⟩::rest) K F H:=by
 intro a w hs Q hq;refine wpList_plain rfl fun K' hK'=>?_
 unfold Oper.wp
 have hrun:(execOp a.eval (⟨some d, .box T x,ty,pos,aft,none⟩:Oper)).run P w = .ok (.value (.pointer (some ⟨w.heap.size,0,none⟩))) (w.alloc (.cells (a.eval x).cells T)):=by
  simp [execOp,Instr.box,newVar,newRow]
 rw [hrun];exact hK' _ _ (k _ _ _ (St.push (ay.mp hd) hs fun m hp=>by have:=hp x;rw [hx]at this;exact hco.h m _ this) Q hq)
def kT (P:Program) (f:FuncId):Bool:=(P.funcs[f]?).any fun fn=>fn.name != "runtime.NumGoroutine" && fn.body.isSome
def Pu (P:Program) (f:FuncId) (args:List SV) (res:SV):Prop :=
 kT P f=true∧∀(m:Mem) (w:World) (vs:List Value),dD m w→dC m args vs→
  Calls P f vs.toArray w fun e w'=>∃v m',e = .returned v∧res.p m' v∧dD m' w'∧Rel [] m w m' w'
theorem i3 {f:FuncId}(h:kT P f=true) (args:Array Value) (w:World):(callFunc f args).run P w = .ok (.enter f args) w:=by
 unfold kT at h;cases hf:P.funcs[f]? with
 |none=>rw [hf]at h;simp at h
 |some fn =>
  rw [hf]at h;simp only [Option.any_some,bG,bne_iff_ne,ne_eq]at h;cases hb:fn.body with
  |none=>simp [hb]at h
  |some c=>simp [callFunc,hf,h.1,hb]
theorem qI {m:Mem}{a:Act}(l:List Operand) (h:∀x∈l,(ev F x).p m (a.eval x)):dC m (l.map (ev F)) (l.map a.eval):=by
 induction l with
 |nil=>exact trivial
 |cons x l ih=>exact⟨h x (by simp),ih fun y hy=>h y (by simp [hy])⟩
theorem qw {f:FuncId}{l:List Operand}{tys:Array TypeId}{svs:List SV}{res:SV}(hc:Pu P f svs res) (ha:l.map (ev F)=svs) :
  OpV P (.call ⟨.value (.func f),l.toArray,tys⟩) ty F H res:=by
 refine OpV.of0 ?_;intro m w o a ho hty h1 h2 h3 K Q hK;have hargs:=qI (m:=m) (a:=a) l fun x hx=>evA h3 (by simp [Op.operands,Call.operands,hx])
 rw [ha]at hargs;have hcall:=hc.2 m w _ h1 hargs;unfold Oper.wp
 have hrun:(execOp a.eval o).run P w = .ok (.enter f (l.map a.eval).toArray) w:=by
  simp [execOp,ho,resolve,Act.eval,Deferred.ofValue,invoke,i3 hc.1]
 rw [hrun];refine Calls.mono hcall ?_;rintro e w' ⟨v,m',rfl,hp,hm',hr⟩;exact hK v m' w' hp hm' hr
theorem F9 {x:Operand}{i:Nat}{cs:List SV}{s:SV}(hx:ev F x=tup cs) (hi:cs[i]? = some s):OpV P (.extract x i) ty F H s :=
 OpV.pure fun m w o a ho _ _ _ h=>by
  have h0:=h x (by simp [Op.operands]);rw [hx]at h0;unfold tup at h0;obtain⟨arr,h0,hall⟩:=h0;obtain⟨v,hv,hp⟩:=hall.get hi;have hv':arr[i]? = some v:=by simpa using hv
  exact⟨v,by simp [execOp,ho,h0,Instr.extract,hv'],hp⟩
end
def s9 (tmps:Array Value):ResultVar→Sem Value
 | .tmp t=>pure (tmps.getD t undef)
 | .cell a t=>do loadVar t (←asAddr (tmps.getD a undef))
def RV (P:Program) (F:Fr) (H:LH) (r:ResultVar) (s:SV):Prop :=
 ∀(m:Mem) (w:World) (tmps:Array Value),dD m w→HOk m w H→(∀t,(F t).p m (tmps.getD t undef))→∃v,(s9 tmps r).run P w = .ok v w∧s.p m v
def RVs (P:Program) (F:Fr) (H:LH):List ResultVar→List SV→Prop
 | [],[]=>True
 |r::rs,s::ss=>RV P F H r s∧RVs P F H rs ss
 |_,_=>False
def one:List SV→SV
 | [s]=>s
 |ss=>tup ss
def ou (P:Program) (rs:List ResultVar) (res:SV) (F:Fr) (H:LH):Prop:=∃ss:List SV,RVs P F H rs ss∧Le (one ss) res
def FP (P:Program) (rs:Array ResultVar) (res:SV):Exit→Fr→LH→Prop
 | .normal,F,H| .ret,F,H=>ou P rs.toList res F H
 |_,_,_=>False
section
variable {P:Program}{C:Ctx}{n:Nat}{F:Fr}{H:LH}{Q:Exit→Fr→LH→Prop}
theorem RV.tmp {t:Nat}{s:SV}(h:F t=s):RV P F H (.tmp t) s:=fun _ _ _ _ _ hp=>⟨_,rfl,h▸hp t⟩
theorem RV.cell1 {a:Nat}{T T':TypeId}{by_:Nat}{z cs:List SV} [hT:TY P T 1 by_ z false]{b o:Nat}{s:SV}(ha:F a=lit (.pointer (some ⟨b,o,none⟩)))
  (hm:(b,T',cs)∈H) (hc:cs[o]? = some s):RV P F H (.cell a T) s:=fun m w tmps _ hH hp=>by
 have h0:=hp a;rw [ha,ap]at h0;obtain⟨_,arr,hb,hall⟩:=hH.2 _ hm;obtain⟨v,hv,hpv,_⟩:=hall.get hc;have:w.cell? ⟨b,o,none⟩=some v:=by rw [eB w b o arr _ _ hb];simpa using hv
 exact⟨v,by simp only [s9,h0,asAddr,Sem.run_bind,Sem.run_pure,Result.andThen_ok];exact km hT this,hpv⟩
theorem RV.cellA {a:Nat}{T T':TypeId}{sz by_:Nat}{z cs cs':List SV} [hT:TY P T sz by_ z true]{b o:Nat}(ha:F a=lit (.pointer (some ⟨b,o,none⟩)))
  (hm:(b,T',cs)∈H) (hc:(cs.drop o).take sz=cs') (hl:Nat.beq cs'.length sz=true):RV P F H (.cell a T) (ag cs'):=fun m w tmps _ hH hp=>by
 have h0:=hp a;rw [ha,ap]at h0;obtain⟨_,arr,hb,hall⟩:=hH.2 _ hm;have hall':=(hall.drop o).take sz;rw [hc]at hall';refine⟨.agg ((arr.toList.drop o).take sz).toArray,?_,by unfold ag;exact⟨_,rfl,by simpa using hall'⟩⟩
 have:=mu (P:=P) hT (a:=⟨b,o,none⟩) (w:=w) ((arr.toList.drop o).take sz) (by rw [hall'.length];exact bA hl) (fun j v hj=>by
  rw [cE,eB w b _ arr _ _ hb];rw [eE]at hj;split at hj
  ·rw [eD]at hj;simpa using hj
  ·cases hj)
 simp only [s9,h0,asAddr,Sem.run_bind,Sem.run_pure,Result.andThen_ok,this]
theorem bJ {r:ResultVar}{s res:SV}(h:RV P F H r s) (hl:Le s res):ou P [r] res F H:=⟨[s],⟨h,trivial⟩,hl⟩
theorem eJ {r1 r2:ResultVar}{s1 s2 res:SV}(h1:RV P F H r1 s1) (h2:RV P F H r2 s2) (hl:Le (tup [s1,s2]) res):ou P [r1,r2] res F H:=⟨[s1,s2],⟨h1,h2,trivial⟩,hl⟩
theorem RS {r1 r2 r3:ResultVar}{s1 s2 s3 res:SV}(h1:RV P F H r1 s1) (h2:RV P F H r2 s2) (h3:RV P F H r3 s3) (hl:Le (tup [s1,s2,s3]) res):ou P [r1,r2,r3] res F H:=⟨[s1,s2,s3],⟨h1,h2,h3,trivial⟩,hl⟩
theorem rf {tmps:Array Value}{w:World}{m:Mem}(hm:dD m w) (hH:HOk m w H) (hp:∀t,(F t).p m (tmps.getD t undef)) :
  ∀(l:List ResultVar) (ss:List SV),RVs P F H l ss→∃vs:List Value,(l.mapM (s9 tmps)).run P w = .ok vs w∧dC m ss vs
 | [],[],_=>⟨[],by simp,trivial⟩
 |r::l,s::ss,h=>by
  obtain⟨v,hv,hpv⟩:=h.1 m w tmps hm hH hp;obtain⟨vs,hvs,hall⟩:=rf hm hH hp l ss h.2;exact⟨v::vs,by rw [List.mapM_cons,Sem.run_bind,hv];simp only [Result.andThen_ok,Sem.run_bind,hvs,Sem.run_pure],hpv,hall⟩
 | [],_::_,h=>h.elim
 |_::_,[],h=>h.elim
theorem yK {m:Mem}:∀{args:List SV}{vs us:List Value},dC m args vs→∀t,(ini args t).p m ((vs++us).toArray.getD t undef)
 | [],_,_,_,_=>by unfold ini top;trivial
 |s::args,v::vs,us,h,0=>by simpa [ini] using h.1
 |s::args,v::vs,us,h,t+1=>by
  have:=yK (us:=us) h.2 t;simpa [ini] using this
 |_::_,[],_,h,_=>h.elim
theorem dC.length {m:Mem}:∀{cs:List SV}{vs:List Value},dC m cs vs→vs.length=cs.length
 | [],[],_=>rfl
 |_::_,_::_,hh=>by simp [hh.2.length]
 | [],_::_,hh=>hh.elim
 |_::_,[],hh=>hh.elim
theorem Pu.intro {f:FuncId}{fn:Func}{c:Code}{args:List SV}{res:SV}(hf:P.funcs[f]? = some fn) (hb:fn.body=some c) (hbod:kT P f=true)
  (h:∀C:Ctx,WP P C fn.ntmps c (FP P fn.results res) (ini args) []):Pu P f args res:=by
 refine⟨hbod,fun m w vs hm ha=>?_⟩;refine calls_of_wp hf hb ?_
 have hfr:∀t,(ini args t).p m ((vs.toArray++Array.replicate (fn.ntmps-vs.toArray.size) undef).getD t undef):=fun t=>by
  have:=yK (us:=List.replicate (fn.ntmps-vs.toArray.size) undef) ha t;rw [show vs.toArray++Array.replicate (fn.ntmps-vs.toArray.size) undef=(vs++List.replicate (fn.ntmps-vs.toArray.size) undef).toArray from by simp];exact this
 have hst:St ⟨[],m,w,fun _ _=>False,[]⟩ fn.ntmps (ini args) [] ⟨vs.toArray++Array.replicate (fn.ntmps-vs.toArray.size) undef,[]⟩ w :=
  ⟨rfl,by simp only [rR,rQ];omega,m,hm,⟨by simp,fun e he=>by cases he⟩,Rel.refl _ _ _,(fun e he=>by cases he),hfr⟩
 refine wp_mono (h ⟨[],m,w,fun _ _=>False,[]⟩ _ w hst) ?_;rintro e a' w' (⟨F',H',⟨hdef,_,m',hm',hH',hr',_,hp'⟩,hq⟩|⟨_,_,_,_,_,_,_,_,_,_,_,_,_,hf⟩);case inr=>exact hf.elim
 have fin:ou P fn.results.toList res F' H'→
   a'.defers=[]∧∃v,(results fn a'.tmps).run P w' = .ok v w'∧∃v_1 m',Ending.returned v=Ending.returned v_1∧res.p m' v_1∧dD m' w'∧Rel [] m w m' w':=by
  rintro ⟨ss,hrv,hle⟩;refine⟨hdef,?_⟩;obtain⟨vs',hrun,hall⟩:=rf hm' hH' hp' _ ss hrv
  have hmap:(results fn a'.tmps).run P w' = .ok (if h:vs'.toArray.size=1 then vs'.toArray[0]else .tuple vs'.toArray) w':=by
   have e1:results fn a'.tmps=(do let vs←fn.results.mapM (s9 a'.tmps);pure (if h:vs.size=1 then vs[0]else .tuple vs)):=by
    unfold results;congr 1
   rw [e1,←rP (xs:=fn.results),vD];simp only [Sem.run_bind,Sem.run_map,hrun,Result.andThen_ok,Sem.run_pure]
  refine⟨_,hmap,_,m',rfl,hle _ _ ?_,hm',hr'⟩;cases ss with
  |nil =>
   cases vs' with
   |nil=>simp [one];unfold tup;exact⟨_,rfl,trivial⟩
   |cons _ _=>exact hall.elim
  |cons s ss =>
   cases vs' with
   |nil=>exact hall.elim
   |cons v vs' =>
    cases ss with
    |nil =>
     cases vs' with
     |nil=>simpa [one] using hall.1
     |cons _ _=>exact hall.2.elim
    |cons s2 ss =>
     cases vs' with
     |nil=>exact hall.2.elim
     |cons v2 vs' =>
      rw [dif_neg (by simp only [vC,aF];omega)];simp only [one];unfold tup;exact⟨_,rfl,hall⟩
 cases e with
 |normal=>exact fin hq
 |ret=>exact fin hq
 |exit id=>exact hq.elim
 |goto l=>exact hq.elim
 |panic ch=>exact hq.elim
 |outgrown=>exact hq.elim
end
def LeL:List SV→List SV→Prop
 | [],[]=>True
 |s::a,t::b=>Le s t∧LeL a b
 |_,_=>False
theorem dC.le {m:Mem}:∀{a b:List SV}{vs:List Value},LeL a b→dC m a vs→dC m b vs
 | [],[],[],_,_=>trivial
 |_::_,_::_,v::_,h,k=>⟨h.1 m v k.1,dC.le h.2 k.2⟩
 | [],_::_,_,h,_=>h.elim
 |_::_,[],_,h,_=>h.elim
 | [],[],_::_,_,k=>k.elim
 |_::_,_::_,[],_,k=>k.elim
theorem bk.le {m:Mem}:∀{a b:List SV}{vs:List Value},LeL a b→bk m a vs→bk m b vs
 | [],[],[],_,_=>trivial
 |_::_,_::_,v::_,h,k=>⟨⟨h.1 m v k.1.1,k.1.2⟩,bk.le h.2 k.2⟩
 | [],_::_,_,h,_=>h.elim
 |_::_,[],_,h,_=>h.elim
 | [],[],_::_,_,k=>k.elim
 |_::_,_::_,[],_,k=>k.elim
theorem LeL.refl:∀l:List SV,LeL l l
 | []=>trivial
 |_::l=>⟨Le.refl _,LeL.refl l⟩
theorem jt.le {m:Mem}{w:World}{b:Nat}{T:TypeId}{cs cs':List SV}(h:jt m w b T cs) (k:LeL cs cs'):jt m w b T cs':=by
 obtain⟨arr,h1,h2⟩:=h;exact⟨arr,h1,h2.le k⟩
def PuM (P:Program) (f:FuncId) (T:TypeId) (args:Nat→List SV) (cs:List SV){α:Type}(cs':α→List SV) (res:α→SV):Prop :=
 kT P f=true∧∀(b:Nat) (m:Mem) (w:World) (vs:List Value),dD m w→m b=none→jt m w b T cs→dC m (args b) vs→
  Calls P f vs.toArray w fun e w'=>∃x v m',e = .returned v∧(res x).p m' v∧dD m' w'∧m' b=none∧jt m' w' b T (cs' x)∧Rel [b] m w m' w'
def PuN (P:Program) (f:FuncId) (T:TypeId) (args:List SV) (cs:List SV):Prop :=
 kT P f=true∧∀(m:Mem) (w:World) (vs:List Value),dD m w→dC m args vs→
  Calls P f vs.toArray w fun e w'=>∃b m',e = .returned (.pointer (some ⟨b,0,none⟩))∧w.heap.size≤b∧dD m' w'∧m' b=none∧jt m' w' b T cs∧Rel [] m w m' w'
def SQ (P:Program) (rs:Array ResultVar){α:Type}(b:Nat) (T:TypeId) (cs':α→List SV) (res:α→SV):Exit→Fr→LH→Prop
 | .normal,F,H| .ret,F,H=>∃x,ou P rs.toList (res x) F H∧∃cs,(b,T,cs)∈H∧LeL cs (cs' x)
 |_,_,_=>False
def Qt (P:Program) (rs:Array ResultVar) (T:TypeId) (cs:List SV):Exit→Fr→LH→Prop
 | .normal,F,H| .ret,F,H=>∃b cs0,ou P rs.toList (lit (.pointer (some ⟨b,0,none⟩))) F H∧(b,T,cs0)∈H∧LeL cs0 cs
 |_,_,_=>False
section
variable {P:Program}{C:Ctx}{n:Nat}{F:Fr}{H:LH}{ops:Array Oper}{K:Fr→LH→Prop}{rest:List Oper}{ty:TypeId}{pos:String}{aft:Array Edge}
theorem ul {rs:List ResultVar}{res:SV}{fn:Func}{tmps:Array Value}{w:World}{m:Mem}(hrs:fn.results.toList=rs) (he:ou P rs res F H) (hm:dD m w) (hH:HOk m w H) (hp:∀t,(F t).p m (tmps.getD t undef)) :
  ∃v,(results fn tmps).run P w = .ok v w∧res.p m v:=by
 subst hrs;obtain⟨ss,hrv,hle⟩:=he;obtain⟨vs',hrun,hall⟩:=rf hm hH hp _ ss hrv
 have hmap:(results fn tmps).run P w = .ok (if h:vs'.toArray.size=1 then vs'.toArray[0]else .tuple vs'.toArray) w:=by
  have e1:results fn tmps=(do let vs←fn.results.mapM (s9 tmps);pure (if h:vs.size=1 then vs[0]else .tuple vs)):=by
   unfold results;congr 1
  rw [e1,←rP (xs:=fn.results),vD];simp only [Sem.run_bind,Sem.run_map,hrun,Result.andThen_ok,Sem.run_pure]
 refine⟨_,hmap,hle _ _ ?_⟩;cases ss with
 |nil =>
  cases vs' with
  |nil=>simp [one];unfold tup;exact⟨_,rfl,trivial⟩
  |cons _ _=>exact hall.elim
 |cons s ss =>
  cases vs' with
  |nil=>exact hall.elim
  |cons v vs' =>
   cases ss with
   |nil =>
    cases vs' with
    |nil=>simpa [one] using hall.1
    |cons _ _=>exact hall.2.elim
   |cons s2 ss =>
    cases vs' with
    |nil=>exact hall.2.elim
    |cons v2 vs' =>
     rw [dif_neg (by simp only [vC,aF];omega)];simp only [one];unfold tup;exact⟨_,rfl,hall⟩
theorem St.begin {args:List SV}{vs:List Value}{m:Mem}{w:World}{N:Nat}(ha:dC m args vs) (hm:dD m w){ks:List Nat}{H:LH}(hH:HOk m w H) (hk:∀e∈H,e.1∈ks) :
  St ⟨ks,m,w,fun _ _=>False,[]⟩ N (ini args) H ⟨vs.toArray++Array.replicate (N-vs.toArray.size) undef,[]⟩ w:=by
 refine⟨rfl,by simp only [rR,rQ];omega,m,hm,hH,Rel.refl _ _ _,fun e he => .inl (hk e he),fun t=>?_⟩;have:=yK (us:=List.replicate (N-vs.toArray.size) undef) ha t;rw [show vs.toArray++Array.replicate (N-vs.toArray.size) undef=(vs++List.replicate (N-vs.toArray.size) undef).toArray from by simp];exact this
theorem PuM.intro {f:FuncId}{fn:Func}{c:Code}{T:TypeId}{args:Nat→List SV}{cs:List SV}{α:Type}{cs':α→List SV}{res:α→SV}(hf:P.funcs[f]? = some fn) (hb:fn.body=some c) (hbod:kT P f=true)
  (h:∀(C:Ctx) (b:Nat),WP P C fn.ntmps c (SQ P fn.results b T cs' res) (ini (args b)) [(b,T,cs)]):PuM P f T args cs cs' res:=by
 refine⟨hbod,fun b m w vs hm hmb hc ha=>?_⟩;refine calls_of_wp hf hb ?_;have hst:=St.begin (N:=fn.ntmps) (ks:=[b]) (H:=[(b,T,cs)]) ha hm ⟨by simp,fun e he=>by rw [ar]at he;subst he;exact⟨hmb,hc⟩⟩ (fun e he=>by rw [ar]at he;subst he;simp);refine wp_mono (h ⟨[b],m,w,fun _ _=>False,[]⟩ b _ w hst) ?_;rintro e a' w' (⟨F',H',⟨hdef,_,m',hm',hH',hr',_,hp'⟩,hq⟩|⟨_,_,_,_,_,_,_,_,_,_,_,_,_,hf⟩);case inr=>exact hf.elim
 have fin:(∃x,ou P fn.results.toList (res x) F' H'∧∃cs,(b,T,cs)∈H'∧LeL cs (cs' x))→
   a'.defers=[]∧∃v,(results fn a'.tmps).run P w' = .ok v w'∧∃x v_1 m',Ending.returned v=Ending.returned v_1∧(res x).p m' v_1∧dD m' w'∧m' b=none∧jt m' w' b T (cs' x)∧Rel [b] m w m' w':=by
  rintro ⟨x,he,cs0,hm0,hl⟩;obtain⟨v,hv,hpv⟩:=ul rfl he hm' hH' hp';obtain⟨g1,g2⟩:=hH'.2 _ hm0;exact⟨hdef,v,hv,x,v,m',rfl,hpv,hm',g1,g2.le hl,hr'⟩
 cases e with
 |normal=>exact fin hq
 |ret=>exact fin hq
 |exit id=>exact hq.elim
 |goto l=>exact hq.elim
 |panic ch=>exact hq.elim
 |outgrown=>exact hq.elim
theorem PuN.intro {f:FuncId}{fn:Func}{c:Code}{T:TypeId}{args:List SV}{cs:List SV}(hf:P.funcs[f]? = some fn) (hb:fn.body=some c) (hbod:kT P f=true)
  (h:∀C:Ctx,WP P C fn.ntmps c (Qt P fn.results T cs) (ini args) []):PuN P f T args cs:=by
 refine⟨hbod,fun m w vs hm ha=>?_⟩;refine calls_of_wp hf hb ?_;have hst:=St.begin (N:=fn.ntmps) (ks:=[]) (H:=[]) ha hm ⟨by simp,fun e he=>by cases he⟩ (fun e he=>by cases he);refine wp_mono (h ⟨[],m,w,fun _ _=>False,[]⟩ _ w hst) ?_;rintro e a' w' (⟨F',H',⟨hdef,_,m',hm',hH',hr',h4',hp'⟩,hq⟩|⟨_,_,_,_,_,_,_,_,_,_,_,_,_,hf⟩);case inr=>exact hf.elim
 have fin:(∃b cs0,ou P fn.results.toList (lit (.pointer (some ⟨b,0,none⟩))) F' H'∧(b,T,cs0)∈H'∧LeL cs0 cs)→
   a'.defers=[]∧∃v,(results fn a'.tmps).run P w' = .ok v w'∧∃b m',Ending.returned v = .returned (.pointer (some ⟨b,0,none⟩))∧w.heap.size≤b∧dD m' w'∧m' b=none∧jt m' w' b T cs∧Rel [] m w m' w':=by
  rintro ⟨b,cs0,he,hm0,hl⟩;obtain⟨v,hv,hpv⟩:=ul rfl he hm' hH' hp';rw [ap]at hpv;obtain⟨g1,g2⟩:=hH'.2 _ hm0
  have hge:w.heap.size≤b:=by
   rcases h4' _ hm0 with h|h
   ·cases h
   ·exact h
  exact⟨hdef,v,hv,b,m',by rw [hpv],hge,hm',g1,g2.le hl,hr'⟩
 cases e with
 |normal=>exact fin hq
 |ret=>exact fin hq
 |exit id=>exact hq.elim
 |goto l=>exact hq.elim
 |panic ch=>exact hq.elim
 |outgrown=>exact hq.elim
theorem dS {f:FuncId}{l:List Operand}{T:TypeId}{b:Nat}{args:Nat→List SV}{tys:Array TypeId}{cs:List SV}{res:SV}(hc:PuM P f T args cs (fun _:Unit=>cs) (fun _=>res)) (ha:l.map (ev F)=args b) (hm:(b,T,cs)∈H) :
  OpV P (.call ⟨.value (.func f),l.toArray,tys⟩) ty F H res:=by
 intro m w o a ho hty h1 h2 h3 K Q hK;have hargs:=qI (m:=m) (a:=a) l fun x hx=>evA h3 (by simp [Op.operands,Call.operands,hx])
 rw [ha]at hargs;obtain⟨g1,g2⟩:=h2.2 _ hm;have hcall:=hc.2 b m w _ h1 g1 g2 hargs;unfold Oper.wp
 have hrun:(execOp a.eval o).run P w = .ok (.enter f (l.map a.eval).toArray) w:=by
  simp [execOp,ho,resolve,Act.eval,Deferred.ofValue,invoke,i3 hc.1]
 rw [hrun];refine Calls.mono hcall ?_;rintro e w' ⟨_,v,m',rfl,hv,hm',hb',hc',hr⟩;refine hK v m' w' hv hm' ⟨h2.1,fun e he=>?_⟩ (hr.mono fun x hx=>by rw [ar]at hx;subst hx;exact yx hm);by_cases heb:e.1=b
 ·have hee:e=(b,T,cs):=by
   have hnd:=h2.1;clear h2 h3 hK hcall hargs hrun;induction H with
   |nil=>cases he
   |cons x H ih =>
    simp only [aD,iI]at hnd;rcases ak.1 he with he1|he2
    ·rcases ak.1 hm with h|hm2
     ·exact he1.trans h.symm
     ·exact(hnd.1 (show x.1∈H.map (·.1)from aj.2 ⟨_,hm2,by rw [←he1];exact heb.symm⟩)).elim
    ·rcases ak.1 hm with hm1|hm2
     ·exact(hnd.1 (show x.1∈H.map (·.1)from aj.2 ⟨e,he2,by rw [←hm1];exact heb⟩)).elim
     ·exact ih hm2 he2 hnd.2
  subst hee;exact⟨hb',hc'⟩
 ·obtain⟨q1,arr,q2,q3⟩:=h2.2 e he;have hlt:=(h2.2 e he).2.lt;have hn:e.1∉[b]:=by simpa using heb
  exact⟨(hr.old _ hlt hn).trans q1,arr,(hr.block _ hlt hn).trans q2,q3.mono hr.le⟩
theorem WPL.callN {d:Nat}{f:FuncId}{l:List Operand}{tys:Array TypeId}{T:TypeId}{args:List SV}{cs:List SV}(hc:PuN P f T args cs) (ha:l.map (ev F)=args) (hd:Nat.blt d n=true)
  (k:∀b,WPL P C n ops rest K (upd F d (lit (.pointer (some ⟨b,0,none⟩)))) ((b,T,cs)::H)):WPL P C n ops (⟨some d, .call ⟨.value (.func f),l.toArray,tys⟩,ty,pos,aft,none⟩::rest) K F H:=by
 intro a w hs Q hq;obtain⟨hdef,hn,m,h1,h2,h3,h4,h5⟩:=hs
 have hp:∀x,(ev F x).p m (a.eval x):=fun x=>by
  cases x with
  |tmp t=>exact h5 t
  |const v=>unfold ev lit;rfl
  |global g=>unfold ev lit;rfl
  |func f=>unfold ev lit;rfl
 have hargs:=qI (m:=m) (a:=a) l fun x _=>hp x
 rw [ha]at hargs;have hcall:=hc.2 m w _ h1 hargs;refine wpList_plain rfl fun K' hK'=>?_
 unfold Oper.wp
 have hrun:(execOp a.eval (⟨some d, .call ⟨.value (.func f),l.toArray,tys⟩,ty,pos,aft,none⟩:Oper)).run P w = .ok (.enter f (l.map a.eval).toArray) w:=by
  simp [execOp,resolve,Act.eval,Deferred.ofValue,invoke,i3 hc.1]
 rw [hrun];refine Calls.mono hcall ?_;rintro e w' ⟨b,m',he,hge,hm',hb',hc',hr⟩;cases he;refine hK' _ _ (k b _ _ ?_ Q hq);have h2':=h2.rel hr (fun _ _=>by simp);refine⟨hdef,by simpa [Act.put] using hn,m',hm',⟨?_,fun e he=>?_⟩,h3.trans hr (fun _ _ h=>by cases h),fun e he=>?_,fun t=>?_⟩
 ·simp only [aD,iI];refine⟨fun hm=>?_,h2.1⟩;obtain⟨e,he,hk⟩:=aj.1 hm;have:=(h2.2 e he).2.lt;omega
 ·rcases ak.1 he with rfl|he
  ·exact⟨hb',hc'⟩
  ·exact h2'.2 e he
 ·rcases ak.1 he with rfl|he
  ·exact .inr (aU h3.size hge)
  ·exact h4 e he
 ·rw [gT (cQ (ay.mp hd) hn)];unfold Ab.upd;by_cases ht:t=d
  ·subst ht;rw [if_pos rfl,cY];exact ap.2 rfl
  ·rw [if_neg ht]
   have:Nat.beq t d=false:=by
    cases hb:Nat.beq t d with
    |false=>rfl
    |true=>exact absurd (bA hb) ht
   rw [this];exact(F t).mono hr.le (h5 t)
end
@[irreducible] def nsl (k:IntKind) (zs:List Int):SV:=sl (zs.map fun z=>lit (.int k z)) zs.length
section
variable {P:Program}{C:Ctx}{n:Nat}{F:Fr}{H:LH}{ops:Array Oper}{K:Fr→LH→Prop}{rest:List Oper}
 {ty:TypeId}{pos:String}{aft:Array Edge}
theorem NS {T e:TypeId}(hT:P.underlying T=some (.slice e)) (a:Option Addr) (k c:Nat) (w:World):(Builtin.len_ #[T] ty #[.slice a k c]).run P w = .ok (.int .i64 k) w:=by
 simp [Builtin.len_,underlying,hT,goInt]
theorem E0 {o:Oper}{a:Act}{x:Operand}{T e:TypeId}(hT:P.underlying T=some (.slice e)) (ho:o.op = .call ⟨.builtin .len,#[x],#[T]⟩){ad:Option Addr}{k c:Nat}
  (hx:a.eval x = .slice ad k c) (w:World):(execOp a.eval o).run P w = .ok (.value (.int .i64 k)) w:=by
 have:=NS (ty:=o.type) hT ad k c w;simp [execOp,ho,resolve,invoke,builtin,hx,this]
theorem BH {x:Operand}{T e:TypeId} [hT:TSl P T e]{ad:Option Addr}{k c:Nat}(hx:ev F x=lit (.slice ad k c)):OpV P (.call ⟨.builtin .len,#[x],#[T]⟩) ty F H (lit (.int .i64 k)) :=
 OpV.pure fun m w o a ho _ _ _ h=>by
  have h0:=h x (by simp [Op.operands,Call.operands]);rw [hx,ap]at h0;exact⟨_,E0 hT.h ho h0 w,ap.2 rfl⟩
theorem GP {x:Operand}{T e:TypeId} [hT:TSl P T e]{cs:List SV}{k:Nat}(hx:ev F x=sl cs k):OpV P (.call ⟨.builtin .len,#[x],#[T]⟩) ty F H (lit (.int .i64 k)) :=
 OpV.pure fun m w o a ho _ _ _ h=>by
  have h0:=h x (by simp [Op.operands,Call.operands]);rw [hx]at h0;unfold sl at h0;obtain⟨ad,c,h0,_⟩:=h0;exact⟨_,E0 hT.h ho h0 w,ap.2 rfl⟩
theorem GQ {x:Operand}{T e:TypeId} [hT:TSl P T e]{k:IntKind}{zs:List Int}(hx:ev F x=nsl k zs):OpV P (.call ⟨.builtin .len,#[x],#[T]⟩) ty F H (lit (.int .i64 zs.length)) :=
 GP (cs:=zs.map fun z=>lit (.int k z)) (by rw [hx];unfold nsl;rfl)
theorem ft {cs:List SV}{k:Nat}{m:Mem}{v:Value}(h:(sl cs k).p m v):∃a cap,v = .slice a k cap∧k≤cap∧cap≤maxLen∧(cs=[]∨∃b off,a=some ⟨b,off,none⟩∧ie m b off cs):=by
 unfold sl at h;exact h
theorem jq {cs:List SV}{k:Nat}{m:Mem}{a:Option Addr}{cap:Nat}(h1:k≤cap) (h2:cap≤maxLen) (h:cs=[]∨∃b off,a=some ⟨b,off,none⟩∧ie m b off cs):(sl cs k).p m (.slice a k cap):=by
 unfold sl;exact⟨a,cap,rfl,h1,h2,h⟩
theorem ie.drop {m:Mem}{b off:Nat}{cs:List SV}(h:ie m b off cs) (k:Nat):ie m b (off+k) (cs.drop k):=by
 obtain⟨arr,T,fz,hb,hall⟩:=h;refine⟨arr,T,fz,hb,?_⟩;have:=hall.drop k;rw [n7,jP]at this;rw [cO];exact this
theorem ie.take {m:Mem}{b off:Nat}{cs:List SV}(h:ie m b off cs) (k:Nat):ie m b off (cs.take k):=by
 obtain⟨arr,T,fz,hb,hall⟩:=h;refine⟨arr,T,fz,hb,?_⟩;have:=hall.take k;rw [kV]at this;rw [aC];exact this
theorem ae {x ix:Operand}{T e:TypeId}{sz by_:Nat}{z:List SV}{g:Bool} [hT:TSl P T e] [hE:TY P e sz by_ z g]{ki:IntKind}{cs cs':List SV}{k:Nat}{i:Int}
  (hx:ev F x=sl cs k) (hi:ev F ix=lit (.int ki i)) (h0:0≤i) (h1:i<k) (hc:(cs.drop (i.toNat*sz)).take sz=cs') (hne:cs≠[]):OpV P (.indexAddr T x ix) ty F H (pt cs') :=
 OpV.pure fun m w o a ho _ _ _ h=>by
  have e0:=h x (by simp [Op.operands]);rw [hx]at e0;have e1:=h ix (by simp [Op.operands]);rw [hi,ap]at e1;obtain⟨ad,cap,e0,_,_,hca⟩:=ft e0;obtain⟨b,off,rfl,hcb⟩:=hca.resolve_left hne;refine⟨.pointer (some ⟨b,off+i.toNat*sz,none⟩),?_,?_⟩
  ·simp [execOp,ho,e0,e1,Instr.indexAt,asIntOf,underlying,hT.h,h0,h1,hE.run_size,cE]
  ·unfold pt;exact⟨b,off+i.toNat*sz,rfl,hc▸(hcb.drop _).take _⟩
theorem GU {x ix:Operand}{T e:TypeId}{by_:Nat}{z:List SV}{g:Bool} [hT:TSl P T e] [hE:TY P e 1 by_ z g]{k ki:IntKind}{zs:List Int}{i:Nat}
  (hx:ev F x=nsl k zs) (hi:ev F ix=lit (.int ki i)) (h1:i<zs.length):OpV P (.indexAddr T x ix) ty F H (pt [lit (.int k (zs.getD i 0))]):=by
 refine ae (cs:=zs.map fun z=>lit (.int k z)) (k:=zs.length) (by rw [hx];unfold nsl;rfl) hi om om ?_ ?_
 ·rw [dN,cB,jO (by simpa using h1)];simp [List.getD,h1]
 ·intro h;have:=congrArg List.length h;simp at this;subst this;simp at h1
theorem BI {x ix:Operand}{T e:TypeId}{sz by_:Nat}{z:List SV}{g:Bool} [hT:TSl P T e] [hE:TY P e sz by_ z g]{ki:IntKind}{b off k c i o':Nat}
  (hx:ev F x=lit (.slice (some ⟨b,off,none⟩) k c)) (hi:ev F ix=lit (.int ki i)) (h1:i<k) (ho:off+i*sz=o'):OpV P (.indexAddr T x ix) ty F H (lit (.pointer (some ⟨b,o',none⟩))) :=
 OpV.pure fun m w o a hop _ _ _ h=>by
  have e0:=h x (by simp [Op.operands]);rw [hx,ap]at e0;have e1:=h ix (by simp [Op.operands]);rw [hi,ap]at e1;have h1':¬k≤i:=by omega
  refine⟨.pointer (some ⟨b,o',none⟩),?_,ap.2 rfl⟩;simp [execOp,hop,e0,e1,Instr.indexAt,asIntOf,underlying,hT.h,h1',hE.run_size,cE,ho]
theorem vV {x:Operand}{lo hi:Option Operand}{T e:TypeId}{by_:Nat}{z:List SV}{g:Bool} [hT:TSl P T e] [hE:TY P e 1 by_ z g]{k:IntKind}{zs zs':List Int}{i j:Nat}
  (hx:ev F x=nsl k zs) (hlo:∀y,lo=some y→∃ki v,ev F y=lit (.int ki v)∧v=(i:Int)) (hlo':lo=none→i=0) (hhi:∀y,hi=some y→∃ki v,ev F y=lit (.int ki v)∧v=(j:Int)) (hhi':hi=none→j=zs.length)
  (hij:i≤j) (hj:j≤zs.length) (hz:(zs.take j).drop i=zs'):OpV P (.slice T x lo hi none) ty F H (nsl k zs') :=
 OpV.pure fun m w o a ho _ _ _ h=>by
  have e0:=h x (by cases lo <;> cases hi <;> simp [Op.operands]);rw [hx]at e0;unfold nsl at e0;obtain⟨ad,cap,e0,hc1,hc2,hca⟩:=ft e0
  have bl:∀(y:Operand) (l u:Nat) (ki:IntKind) (code:BoundsCode),a.eval y = .int ki l→l≤u→(Instr.sliceBound (a.eval y) u code).run P w = .ok l w:=by
   intro y l u ki code hy hle;have h1:(l:Int)≤(u:Int):=by omega
   simp [Instr.sliceBound,hy,asIntOf,h1]
  have hb:(Instr.sliceBounds true zs.length cap (lo.map a.eval) (hi.map a.eval) none).run P w = .ok (i,j,cap) w:=by
   have vl:∀y,lo=some y→∃ki,a.eval y = .int ki i:=fun y hy=>by
    obtain⟨ki,v,hk,rfl⟩:=hlo y hy;have:=h y (by subst hy;cases hi <;> simp [Op.operands]);rw [hk,ap]at this;exact⟨ki,this⟩
   have vh:∀y,hi=some y→∃ki,a.eval y = .int ki j:=fun y hy=>by
    obtain⟨ki,v,hk,rfl⟩:=hhi y hy;have:=h y (by subst hy;cases lo <;> simp [Op.operands]);rw [hk,ap]at this;exact⟨ki,this⟩
   cases lo with
   |none =>
    have hi0:=hlo' rfl;subst hi0;cases hi with
    |none=>have:=hhi' rfl;subst this;simp [Instr.sliceBounds]
    |some y=>obtain⟨ki,hy⟩:=vh y rfl;simp [Instr.sliceBounds,bl y j cap ki _ hy om]
   |some x' =>
    obtain⟨kl,hxl⟩:=vl x' rfl;cases hi with
    |none=>have:=hhi' rfl;subst this;simp [Instr.sliceBounds,bl x' i _ kl _ hxl hij]
    |some y=>obtain⟨ki,hy⟩:=vh y rfl;simp [Instr.sliceBounds,bl y j cap ki _ hy om,bl x' i j kl _ hxl hij]
  have hrun:∃a',(execOp a.eval o).run P w = .ok (.value (.slice a' (j-i) (cap-i))) w∧(zs'=[]∨∃b off,ad=some ⟨b,off,none⟩∧a'=some ⟨b,off+i,none⟩∧ie m b off (zs.map fun z=>lit (.int k z))):=by
   refine⟨if cap=i then ad else ad.map (·.add (i*1)),?_,?_⟩
   ·simp [execOp,ho,Instr.sliceAt,Instr.slice,underlying,hT.h,e0,hb,hE.run_size]
   ·rcases hca with hnil|⟨b,off,rfl,hca⟩
    ·left;have:zs=[]:=by simpa using hnil
     subst this;rw [←hz];simp
    ·by_cases hci:cap=i
     ·left;rw [←hz];apply fR;rw [aC];omega
     ·right;refine⟨b,off,rfl,?_,hca⟩;rw [if_neg hci];simp [cE]
  obtain⟨a',hr,hcs⟩:=hrun;have hlen:zs'.length=j-i:=by rw [←hz,cO,aC,dv hj]
  refine⟨_,hr,?_⟩;unfold nsl;rw [hlen];refine jq om om ?_;rcases hcs with hnil|⟨b,off,_,rfl,hca⟩
  ·left;rw [hnil];rfl
  ·right;refine⟨b,off+i,rfl,?_⟩;have:=(hca.take j).drop i;rw [←hz,p8,mW];exact this
end
def lm (fs:List (Nat×Nat)):List SV→List (Nat×List SV)→Option (List SV)
 |cs,[]=>some cs
 |cs,(i,ds)::r =>
  match fs[i]? with
  |none=>none
  |some (off,sz)=>bif Nat.beq ds.length sz&&Nat.ble (off+sz) cs.length then lm fs (spl cs off ds) r else none
theorem DY {m:Mem}:∀(ds:List SV) (vs:List Value) (cs:List SV) (arr:Array Value) (o k:Nat),bk m cs arr.toList→bk m ds vs→
  bk m (spl cs (o+k) ds) ((vs.zipIdx k).foldl (fun cs (c,j)=>cs.setIfInBounds (o+j) c) arr).toList
 | [],[],_,_,_,_,h,_=>h
 |d::ds,v::vs,cs,arr,o,k,h,hd=>by
  simp only [vB,gX,spl];have h':bk m (cs.set (o+k) d) (arr.setIfInBounds (o+k) v).toList:=by simpa using h.set (o+k) hd.1.1 hd.1.2
  have:=DY ds vs (cs.set (o+k) d) (arr.setIfInBounds (o+k) v) o (k+1) h' hd.2;rw [←jN]at this;exact this
 | [],_::_,_,_,_,_,_,h=>h.elim
 |_::_,[],_,_,_,_,_,h=>h.elim
inductive dO (F:Fr):List (Nat×Operand)→List (Nat×List SV)→Prop
 |nil:dO F [] []
 |cons {i:Nat}{x:Operand}{sv:SV}{ds:List SV}{l:List (Nat×Operand)}{r:List (Nat×List SV)}(hx:ev F x=sv) (hc:CO sv ds) (h:dO F l r):dO F ((i,x)::l) ((i,ds)::r)
theorem sk {m:Mem}{F:Fr}{fs:List (Nat×Nat)}{ρ:Operand→Value}(place:Nat→Option (Nat×Nat)) (hp:∀i p,fs[i]? = some p→place i=some p) :
  ∀{l:List (Nat×Operand)}{r:List (Nat×List SV)},dO F l r→(∀p∈l,(ev F p.2).p m (ρ p.2))→∀(cs:List SV) (arr:Array Value) (cs':List SV),bk m cs arr.toList→lm fs cs r=some cs'→
   ∃arr',Instr.fill place arr (l.map fun p=>(p.1,ρ p.2))=some arr'∧bk m cs' arr'.toList:=by
 intro l r h;induction h with
 |nil=>intro _ cs arr cs' hall hf;simp only [lm,bM]at hf;subst hf;exact⟨arr,rfl,hall⟩
 | @cons i x sv ds l r hx hc _ ih =>
  intro hv cs arr cs' hall hf;have hxv:=hv (i,x) (by simp);simp only at hxv;rw [hx]at hxv;have hds:=hc.h m _ hxv;simp only [lm]at hf;cases hfi:fs[i]? with
  |none=>rw [hfi]at hf;cases hf
  |some p =>
   obtain⟨off,sz⟩:=p;rw [hfi]at hf;simp only at hf;cases hb:(Nat.beq ds.length sz&&Nat.ble (off+sz) cs.length)with
   |false=>rw [hb]at hf;cases hf
   |true =>
    rw [hb]at hf;simp only [bG]at hb;have h1:=bA hb.1;have h2:=gY hb.2;have hl:=hds.length;have hla:=hall.length;simp only [aN]at hl hla;have hstep:=DY ds (ρ x).cells.toList cs arr off 0 hall hds;obtain⟨arr',hr,hall'⟩:=ih (fun p hp'=>hv p (Mc hp')) _ _ cs' hstep hf;refine⟨arr',?_,hall'⟩;simp only [aD,Instr.fill,hp i _ hfi];rw [if_neg (by simp;omega)];rw [←hr];congr 1
    rw [←Array.foldl_toList,Array.toList_zipIdx]
section
variable {P:Program}{C:Ctx}{n:Nat}{F:Fr}{H:LH}{ops:Array Oper}{K:Fr→LH→Prop}{rest:List Oper}
 {ty:TypeId}{pos:String}{aft:Array Edge}
theorem F6 {fields:List Field}{fs:List (Nat×Nat)}(h:fields.map (fun f=>(some f.offset,(P.info? f.type).map (·.size)))=fs.map fun p=>(some p.1,some p.2)) (w:World) :
  (fields.mapM (fun f=>do pure (f.offset,←sizeOf f.type):Field→Sem (Nat×Nat))).run P w = .ok fs w:=by
 induction fields generalizing fs with
 |nil=>cases fs with
  |nil=>simp
  |cons _ _=>simp at h
 |cons f fields ih =>
  cases fs with
  |nil=>simp at h
  |cons p fs =>
   simp only [aD,dV,cP,bM,gC]at h;obtain⟨⟨h1,i,hi,h2⟩,h3⟩:=h;rw [List.mapM_cons,Sem.run_bind]
   have:(do pure (f.offset,←sizeOf f.type):Sem (Nat×Nat)).run P w = .ok p w:=by
    simp [sizeOf,typeInfo,hi,h1,h2]
   rw [this];simp only [Result.andThen_ok,Sem.run_bind,ih h3,Sem.run_pure]
theorem Lt {T:TypeId}{fs:List (Nat×Nat)}{sz by_:Nat}{z:List SV}{g:Bool} [hS:TSt P T fs] [hT:TY P T sz by_ z g]{l:List (Nat×Operand)}{r:List (Nat×List SV)}{cs:List SV}
  (hp:dO F l r) (hf:lm fs z r=some cs):OpV P (.build T l.toArray) ty F H (ag cs) :=
 OpV.pure fun m w o a ho _ _ _ h=>by
  obtain⟨fields,hA,hfs⟩:=hS.h;obtain⟨v,hz,hall⟩:=hT.run_zero w;have hv:∀p∈l,(ev F p.2).p m (a.eval p.2):=fun p hp'=>h p.2 (by simp only [Op.operands,vA,aj];exact⟨p,hp',rfl⟩)
  obtain⟨arr',hfill,hall'⟩:=sk (m:=m) (ρ:=a.eval) (fun i=>fs.toArray[i]?) (fun i p h=>by simpa using h) hp hv z v.cells cs (hall m) hf;refine⟨.agg arr',?_,by unfold ag;exact⟨arr',rfl,hall'⟩⟩;have hpl:=F6 hfs w;simp only [execOp,ho,Instr.build,Sem.run_bind,hz,Result.andThen_ok,underlying,run_program,hA,Sem.run_pure];rw [←rP (xs:=fields),vD,Sem.run_map,hpl];simp only [Result.andThen_ok,iH,du];rw [hfill];rfl
@[irreducible] def dg (ds:List Nat):SV:=nsl .u32 (ds.map fun d:Nat=>(d:Int))
theorem wg (ds:List Nat):dg ds=nsl .u32 (ds.map fun d:Nat=>(d:Int)):=by unfold dg;rfl
theorem wK (ds:List Nat):dg ds=sl (ds.map fun d:Nat=>lit (.int .u32 (d:Int))) ds.length:=by
 rw [wg];unfold nsl;rw [p7,cK];rfl
instance (k:IntKind) (zs:List Int):CO (nsl k zs) [nsl k zs]:=by unfold nsl;infer_instance
instance (ds:List Nat):CO (dg ds) [dg ds]:=by unfold dg;infer_instance
theorem GS {x:Operand}{T e:TypeId} [TSl P T e]{ds:List Nat}(hx:ev F x=dg ds):OpV P (.call ⟨.builtin .len,#[x],#[T]⟩) ty F H (lit (.int .i64 ds.length)):=by
 have:=GQ (P:=P) (H:=H) (ty:=ty) (T:=T) (hx.trans (wg ds));rwa [cK]at this
theorem sh {x ix:Operand}{T e:TypeId}{by_:Nat}{z:List SV}{g:Bool} [TSl P T e] [TY P e 1 by_ z g]{ki:IntKind}{ds:List Nat}{i:Nat}
  (hx:ev F x=dg ds) (hi:ev F ix=lit (.int ki i)) (h1:i<ds.length):OpV P (.indexAddr T x ix) ty F H (pt [lit (.int .u32 (ds.getD i 0:Nat))]):=by
 have:=GU (P:=P) (H:=H) (ty:=ty) (T:=T) (hx.trans (wg ds)) hi (by simpa using h1);rw [show(ds.map fun d:Nat=>(d:Int)).getD i 0=((ds.getD i 0:Nat):Int)from by simp [List.getD,h1]]at this;exact this
theorem Ls {x ix:Operand}{T e:TypeId}{by_:Nat}{z:List SV}{g:Bool} [TSl P T e] [TY P e 1 by_ z g]{ki:IntKind}{ds:List Nat}{i:Int}
  (hx:ev F x=dg ds) (hi:ev F ix=lit (.int ki i)) (h0:0≤i) (h1:i<ds.length):OpV P (.indexAddr T x ix) ty F H (pt [lit (.int .u32 (ds.getD i.toNat 0:Nat))]):=by
 obtain⟨j,rfl⟩:=Int.eq_ofNat_of_zero_le h0;rw [dN];exact sh hx hi om
theorem Ap {x:Operand}{lo hi:Option Operand}{T e:TypeId}{by_:Nat}{z:List SV}{g:Bool} [TSl P T e] [TY P e 1 by_ z g]{ds ds':List Nat}{i j:Nat}
  (hx:ev F x=dg ds) (hlo:∀y,lo=some y→∃ki v,ev F y=lit (.int ki v)∧v=(i:Int)) (hlo':lo=none→i=0) (hhi:∀y,hi=some y→∃ki v,ev F y=lit (.int ki v)∧v=(j:Int)) (hhi':hi=none→j=ds.length)
  (hij:i≤j) (hj:j≤ds.length) (hz:(ds.take j).drop i=ds'):OpV P (.slice T x lo hi none) ty F H (dg ds'):=by
 rw [wg];exact vV (hx.trans (wg ds)) hlo hlo' hhi (fun h=>by rw [hhi' h,cK]) hij (by simpa using hj) (by rw [←hz,p8,mW])
theorem BB {x y:Operand}{T e:TypeId}{by_:Nat}{z:List SV}{g:Bool} [TSl P T e] [TY P e 1 by_ z g]{ds:List Nat}{ki:IntKind}{v:Int}(j:Nat)
  (hx:ev F x=dg ds) (hy:ev F y=lit (.int ki v)) (hv:v=(j:Int)) (hj:j≤ds.length):OpV P (.slice T x none (some y) none) ty F H (dg (ds.take j)) :=
 Ap (i:=0) (j:=j) hx (fun _ h=>by cases h) (fun _=>rfl) (fun y' h=>⟨ki,v,by cases h;exact hy,hv⟩) (fun h=>by cases h) (an _) hj rfl
theorem wX {T e:TypeId} [hT:TPt P T e] (a:Option Addr) (w:World):(Op.equal T (.pointer a) (.pointer none)).run P w = .ok (a.isNone) w:=by
 unfold Op.equal Op.maxDepth;rw [show(10000:Nat)=9999+1 from rfl,Op.equalIn];cases a <;> simp [underlying,hT.h]
theorem Df {T T' e:TypeId} [hT:TPt P T e]{x:Operand}{a:Option Addr}(hx:ev F x=lit (.pointer a)) :
  OpV P (.binOp .eql T x (.const (.pointer none)) T') ty F H (lit (.bool (a.isNone))) :=
 eH hx rfl (fun w=>by simp [Go.binOp,wX]) (fun w=>by simp [Go.eqGuard])
theorem Dc {T T' e:TypeId} [hT:TPt P T e]{x:Operand}{cs:List SV}(hx:ev F x=pt cs) :
  OpV P (.binOp .eql T x (.const (.pointer none)) T') ty F H (lit (.bool false)) :=
 OpV.pure fun m w o a ho _ _ _ h=>by
  have h0:=h x (by simp [Op.operands]);rw [hx]at h0;unfold pt at h0;obtain⟨b,off,h0,_⟩:=h0;have hc:a.eval (.const (.pointer none)) = .pointer none:=rfl;exact⟨.bool false,by simp [execOp,ho,h0,hc,Go.binOp,Go.eqGuard,wX],ap.2 rfl⟩
theorem De {T T' e:TypeId} [hT:TPt P T e]{x:Operand}{a:Option Addr}(hx:ev F x=lit (.pointer a)) :
  OpV P (.binOp .neq T x (.const (.pointer none)) T') ty F H (lit (.bool (!a.isNone))) :=
 eH hx rfl (fun w=>by simp [Go.binOp,wX]) (fun w=>by simp [Go.eqGuard])
theorem Db {T T' e:TypeId} [hT:TPt P T e]{x:Operand}{cs:List SV}(hx:ev F x=pt cs) :
  OpV P (.binOp .neq T x (.const (.pointer none)) T') ty F H (lit (.bool true)) :=
 OpV.pure fun m w o a ho _ _ _ h=>by
  have h0:=h x (by simp [Op.operands]);rw [hx]at h0;unfold pt at h0;obtain⟨b,off,h0,_⟩:=h0;have hc:a.eval (.const (.pointer none)) = .pointer none:=rfl;exact⟨.bool true,by simp [execOp,ho,h0,hc,Go.binOp,Go.eqGuard,wX],ap.2 rfl⟩
end
def bC (ds:List Nat):List SV:=ds.map fun d:Nat=>lit (.int .u32 (d:Int))
theorem md (ds:List Nat):(bC ds).length=ds.length:=by simp [bC]
theorem zg (k:Nat):List.replicate k (lit (.int .u32 0))=bC (List.replicate k 0):=by simp [bC]
theorem FR (ds:List Nat) (i x:Nat):(bC ds).set i (lit (.int .u32 (x:Int)))=bC (ds.set i x):=by simp [bC]
theorem FS (ds:List Nat) (i:Nat) (h:i<ds.length):(bC ds)[i]? = some (lit (.int .u32 ((ds.getD i 0:Nat):Int))):=by simp [bC,List.getD,h]
theorem zmo (i:Nat):0+i*1=i:=by omega
section
variable {P:Program}{C:Ctx}{n:Nat}{F:Fr}{H:LH}{ops:Array Oper}{K:Fr→LH→Prop}{rest:List Oper}
 {ty:TypeId}{pos:String}{aft:Array Edge}{Q:Exit→Fr→LH→Prop}
theorem WPL.make {T e:TypeId}{by_:Nat}{z0:SV}{g:Bool} [hS:TSl P T e] [hT:TY P e 1 by_ [z0] g]{d:Nat}{x y:Operand}{k:Nat}
  (hx:ev F x=lit (.int .i64 k)) (hy:ev F y=lit (.int .i64 k)) (hk:k*by_≤140737488355328) (hk':k≤9223372036854775807) (hd:Nat.blt d n=true)
  (h:∀b,WPL P C n ops rest K (upd F d (lit (.slice (some ⟨b,0,none⟩) k k))) ((b,e,List.replicate k z0)::H)):WPL P C n ops (⟨some d, .makeSlice T x y,ty,pos,aft,none⟩::rest) K F H:=by
 intro a w hs Q hq;obtain⟨v,hz,hall⟩:=hT.run_zero w;obtain⟨i,v',hi,hsz,hby,hz',_,hfl,hvs⟩:=hT.run_bytes;have hvv:v=v':=by simp [zeroValue,typeInfo,hi,hz']at hz;exact hz.symm
 subst hvv;obtain⟨m0,_,hp0⟩:=hs.evp;have e0:=hp0 x;rw [hx,ap]at e0;have e1:=hp0 y;rw [hy,ap]at e1;refine wpList_plain rfl fun K' hK'=>?_
 unfold Oper.wp
 have hw:IntKind.i64.wrap (k:Int)=k:=by
  simp only [IntKind.wrap,IntKind.bits,IntKind.signed,aX];have h1:¬(9223372036854775808:Int)≤(k:Int)%18446744073709551616:=by omega
  simp [h1];omega
 obtain⟨c0,hc0⟩:∃c0,v.cells = #[c0]:=by
  have:v.cells.size=1:=hvs;rcases hvc:v.cells with⟨l⟩
  rw [hvc]at this;match l,this with
  | [c0],_=>exact⟨c0,rfl⟩
 have hrun:(execOp a.eval (⟨some d, .makeSlice T x y,ty,pos,aft,none⟩:Oper)).run P w = .ok (.value (.slice (some ⟨w.heap.size,0,none⟩) k k)) (w.alloc (.cells (List.replicate k c0).toArray e)):=by
  have hb:¬((by_:Int)*(k:Int)>281474976710656):=by
   have:(by_*k:Nat)≤281474976710656:=by rw [aE];omega
   have h2:((by_*k:Nat):Int)≤281474976710656:=by omega
   rw [cX]at h2;omega
  have hk0:¬((k:Int)<0):=by omega
  have harr:(Array.range k).map (fun j=>v.cells[j%v.cells.size]!)=(List.replicate k c0).toArray:=by
   rw [hc0];apply Array.ext
   ·simp
   ·intro j h1 h2;simp [p6]
  have hkk:(if k=0 then(pure #[]:Sem (Array Value))else do pure (←zeroValue e).cells).run P w = .ok (if k=0 then #[]else v.cells) w:=by
   by_cases hk:k=0
   ·simp [hk]
   ·simp [hk,hz]
  simp only [execOp,Instr.makeSlice,e0,e1,Sem.run_bind,underlying,run_program,hS.h,Result.andThen_ok,Sem.run_pure,asInt,asIntOf,typeInfo,hi,hw,hby]
  have hcond:((decide ((k:Int)<0)||decide ((by_:Int)*(k:Int)>2^48))||decide ((k:Int)<0)||decide ((k:Int)>(k:Int)))=false:=by
   simp only [cg,vz];refine⟨⟨⟨hk0,?_⟩,hk0⟩,om⟩;have:(2:Int)^48=281474976710656:=by decide
   rw [this];exact hb
  simp only [hcond,bE,aO,dN,Sem.run_bind,run_askRoom,Result.andThen_ok,hT.run_size,cB,newRow];by_cases hk:k=0
  ·subst hk;simp [show(Array.range 0) = #[]from rfl]
  ·simp only [hk,aO,Sem.run_bind,hz,Result.andThen_ok,Sem.run_pure,harr,run_newObj,World.alloc_eq]
 rw [hrun];refine hK' _ _ (h _ _ _ (St.push (ay.mp hd) hs fun m _=>?_) Q hq);have:=hall m;rw [hc0]at this;exact bk.replicate this.1.1 this.1.2 k
theorem St.pub {b:Nat}{T:TypeId}{cs:List SV}{H':LH}{a:Act}{w:World}{d:Nat}{v:Value}{s':SV}(hs:St C n F H a w) (hdel:aq b T cs H H') (hv:F d=lit v)
  (hsv:∀(m:Mem) (arr:Array Value),m b=some (.cells arr T (0,0))→bk m cs arr.toList→s'.p m v):St C n (upd F d s') H' a w:=by
 obtain⟨hdef,hn,m,h1,h2,h3,h4,h5⟩:=hs;obtain⟨hmb,arr,hb,hall⟩:=h2.2 _ hdel.mem
 have hle:m.le (fun x=>if x=b then w.heap[b]? else m x):=fun x o hx=>by
  show(if x=b then w.heap[b]? else m x)=some o
  rw [if_neg (fun e=>by rw [e]at hx;rw [hmb]at hx;cases hx)];exact hx
 have hfr:=h5 d;rw [hv,ap]at hfr;have hk:=hdel.keys h2.1
 refine⟨hdef,hn,(fun x=>if x=b then w.heap[b]? else m x),⟨fun x o hx=>?_,Mem.le_trans h1.base hle⟩,⟨hk.1,fun e he=>?_⟩,⟨Mem.le_trans h3.le hle,fun x hx hnx=>?_,h3.os,h3.tape,h3.output,h3.size,h3.block⟩,
  fun e he=>h4 e (hdel.sub e he),fun t=>?_⟩
 ·by_cases hxb:x=b
  ·subst hxb;simp only [aV]at hx;exact hx
  ·simp only [if_neg hxb]at hx;exact h1 x o hx
 ·obtain⟨q1,arr',q2,q3⟩:=h2.2 e (hdel.sub e he);exact⟨by show(if e.1=b then w.heap[b]? else m e.1)=none;rw [if_neg (hk.2 e he)];exact q1,arr',q2,q3.mono hle⟩
 ·have hxb:x≠b:=fun e=>by
   subst e;rcases h4 _ hdel.mem with h|h
   ·exact hnx h
   ·exact absurd hx (iK.2 h)
  show(if x=b then w.heap[b]? else m x)=_
  rw [if_neg hxb];exact h3.old x hx hnx
 ·unfold upd;cases hbq:Nat.beq t d with
  |true =>
   have:=bA hbq;subst this;rw [hfr];exact hsv _ arr (by show(if b=b then w.heap[b]? else m b)=_;rw [if_pos rfl];exact hb) (hall.mono hle)
  |false=>exact(F t).mono hle (h5 t)
theorem WPL.pub {l:List Oper}{b:Nat}{T:TypeId}{cs:List SV}{H':LH}{d:Nat}{v:Value}{s':SV}(hdel:aq b T cs H H') (hv:F d=lit v)
  (hsv:∀(m:Mem) (arr:Array Value),m b=some (.cells arr T (0,0))→bk m cs arr.toList→s'.p m v) (k:WPL P C n ops l K (upd F d s') H'):WPL P C n ops l K F H :=
 fun a w hs=>k a w (hs.pub hdel hv hsv)
theorem WP.pub {c:Code}{b:Nat}{T:TypeId}{cs:List SV}{H':LH}{d:Nat}{v:Value}{s':SV}(hdel:aq b T cs H H') (hv:F d=lit v)
  (hsv:∀(m:Mem) (arr:Array Value),m b=some (.cells arr T (0,0))→bk m cs arr.toList→s'.p m v) (k:WP P C n c Q (upd F d s') H'):WP P C n c Q F H :=
 fun a w hs=>k a w (hs.pub hdel hv hsv)
theorem St.exd {α:Type}{d:Nat}{f:α→SV}{a:Act}{w:World}(hs:St C n F H a w) (hf:F d=ex f):∃x,St C n (upd F d (f x)) H a w:=by
 obtain⟨hdef,hn,m,h1,h2,h3,h4,h5⟩:=hs;have hx:=h5 d;rw [hf]at hx;unfold ex at hx;obtain⟨x,hx⟩:=hx;refine⟨x,hdef,hn,m,h1,h2,h3,h4,fun t=>?_⟩;unfold upd;cases hb:Nat.beq t d with
 |true=>rw [bA hb];exact hx
 |false=>exact h5 t
theorem WP.exd {α:Type}{c:Code}{d:Nat}{f:α→SV}(hf:F d=ex f) (h:∀x,WP P C n c Q (upd F d (f x)) H):WP P C n c Q F H:=fun a w hs=>by
 obtain⟨x,hx⟩:=hs.exd hf;exact h x a w hx
theorem St.drop {b:Nat}{T:TypeId}{cs:List SV}{H':LH}{a:Act}{w:World}(hs:St C n F H a w) (hdel:aq b T cs H H'):St C n F H' a w:=by
 obtain⟨hdef,hn,m,h1,h2,h3,h4,h5⟩:=hs;exact⟨hdef,hn,m,h1,⟨(hdel.keys h2.1).1,fun e he=>h2.2 e (hdel.sub e he)⟩,h3,fun e he=>h4 e (hdel.sub e he),h5⟩
theorem WP.drop {c:Code}{b:Nat}{T:TypeId}{cs:List SV}{H':LH}(hdel:aq b T cs H H') (k:WP P C n c Q F H'):WP P C n c Q F H:=fun a w hs=>k a w (hs.drop hdel)
theorem KU {b:Nat}{T:TypeId}{cs:List SV}{k c:Nat}(h1:k≤c) (h2:c≤9223372036854775807) (m:Mem) (arr:Array Value) (hm:m b=some (.cells arr T (0,0))) (ha:bk m cs arr.toList) :
  (sl cs k).p m (.slice (some ⟨b,0,none⟩) k c) :=
 jq h1 (by simp only [maxLen];omega) (.inr ⟨b,0,rfl,arr,T,(0,0),hm,by rw [bD,←ha.length,aP];exact ha⟩)
theorem F4 {b:Nat}{T:TypeId}{ds:List Nat}{c:Nat}(h1:ds.length≤c) (h2:c≤9223372036854775807) (m:Mem) (arr:Array Value) (hm:m b=some (.cells arr T (0,0))) (ha:bk m (bC ds) arr.toList) :
  (dg ds).p m (.slice (some ⟨b,0,none⟩) ds.length c):=by
 rw [wK];exact KU h1 h2 m arr hm ha
theorem F3 {b:Nat}{T:TypeId}{cs:List SV}(m:Mem) (arr:Array Value) (hm:m b=some (.cells arr T (0,0))) (ha:bk m cs arr.toList):(pt cs).p m (.pointer (some ⟨b,0,none⟩)):=by
 unfold pt;exact⟨b,0,rfl,arr,T,(0,0),hm,by rw [bD,←ha.length,aP];exact ha⟩
end
attribute [irreducible] WP WPL OpV Pu j8 rG scQ FP
end Go.Ab
