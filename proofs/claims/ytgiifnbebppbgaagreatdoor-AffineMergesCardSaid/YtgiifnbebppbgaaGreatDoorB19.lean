/- Texts laid one behind the other: TapeR, GwA, Elt. -/
import Derived.Test.YtgiifnbebppbgaaGreatDoorB18
import Derived.Test.YtgiifnbebppbgaaGreatDoorB16
import Derived.Test.YtgiifnbebppbgaaGreatDoorB15
import Derived.Test.YtgiifnbebppbgaaGreatDoorB17
set_option linter.unusedSectionVars false
set_option linter.unusedVariables false
set_option linter.unusedSimpArgs false
namespace Go.Ab
open Go.Proofs
variable [Base]
abbrev iq (x y:Int):Pq:=((x:Rat),(y:Rat))
def Iq (p:Pq):Prop:=∃a b:Int,p=iq a b∧a.natAbs≤1000∧b.natAbs≤1000
theorem Iq.ht {p:Pq}(h:Iq p):Ab.ht p.1≤1∧Ab.ht p.2≤1:=by obtain⟨a,b,rfl,ha,hb⟩:=h;exact⟨ht_i a ha,ht_i b hb⟩
def rgOk (l:List Pq):Prop:=l.length≤6∧(∀p∈l,Iq p)∧3≤(srt l).length∧∀(i:Nat) (a b:Pq),l[i]? = some a→l[(i+1)%l.length]? = some b→a≠b
abbrev ringR:SV:=ex fun l:{l:List Pq // rgOk l}=>rps l.1
theorem three {l:List Pq}{p q r:Pq}(hp:p∈l) (hq:q∈l) (hr:r∈l) (h1:p≠q) (h2:p≠r) (h3:q≠r):3≤(srt l).length:=by
 have hn:[p,q,r].Nodup:=by simp [h1,h2,h3]
 exact nodup_len hn fun x hx=>(srt_mem l x).2 (by
  simp only [List.mem_cons,List.not_mem_nil,or_false]at hx
  rcases hx with rfl|rfl|rfl <;> assumption)
theorem iq_inj {a b c d:Int}:iq a b=iq c d↔a=c∧b=d:=by
 unfold iq
 rw [Prod.mk.injEq]
 constructor
 ·rintro ⟨h1,h2⟩;exact⟨by exact_mod_cast h1,by exact_mod_cast h2⟩
 ·rintro ⟨rfl,rfl⟩;exact⟨rfl,rfl⟩
theorem rg3 {a b c d e f:Int}(ha:a.natAbs≤1000) (hb:b.natAbs≤1000) (hc:c.natAbs≤1000) (hd:d.natAbs≤1000) (he:e.natAbs≤1000) (hf:f.natAbs≤1000) (h1:a≠c∨b≠d) (h2:a≠e∨b≠f) (h3:c≠e∨d≠f):rgOk [iq a b,iq c d,iq e f]:=by
 have n1:iq a b≠iq c d:=fun h=>by rw [iq_inj]at h;omega
 have n2:iq a b≠iq e f:=fun h=>by rw [iq_inj]at h;omega
 have n3:iq c d≠iq e f:=fun h=>by rw [iq_inj]at h;omega
 refine⟨by simp,fun p hp=>?_,three (p:=iq a b) (q:=iq c d) (r:=iq e f) (by simp) (by simp) (by simp) n1 n2 n3,fun i x y hx hy=>?_⟩
 ·simp only [List.mem_cons,List.not_mem_nil,or_false]at hp
  rcases hp with rfl|rfl|rfl
  ·exact⟨_,_,rfl,ha,hb⟩
  ·exact⟨_,_,rfl,hc,hd⟩
  ·exact⟨_,_,rfl,he,hf⟩
 ·match i,hx,hy with
  |0,hx,hy=>simp only [List.length_cons,List.length_nil,Nat.reduceAdd,Nat.reduceMod,List.getElem?_cons_zero,List.getElem?_cons_succ,Option.some.injEq]at hx hy;rw [←hx,←hy];exact n1
  |1,hx,hy=>simp only [List.length_cons,List.length_nil,Nat.reduceAdd,Nat.reduceMod,List.getElem?_cons_zero,List.getElem?_cons_succ,Option.some.injEq]at hx hy;rw [←hx,←hy];exact n3
  |2,hx,hy=>simp only [List.length_cons,List.length_nil,Nat.reduceAdd,Nat.reduceMod,List.getElem?_cons_zero,List.getElem?_cons_succ,Option.some.injEq]at hx hy;rw [←hx,←hy];exact n2.symm
theorem rg4 {a b c d:Int}(ha:a.natAbs≤1000) (hb:b.natAbs≤1000) (hc:c.natAbs≤1000) (hd:d.natAbs≤1000) (h1:a≠c) (h2:b≠d):rgOk [iq a b,iq c b,iq c d,iq a d]:=by
 have n1:iq a b≠iq c b:=fun h=>by rw [iq_inj]at h;omega
 have n2:iq a b≠iq c d:=fun h=>by rw [iq_inj]at h;omega
 have n3:iq c b≠iq c d:=fun h=>by rw [iq_inj]at h;omega
 have n4:iq c d≠iq a d:=fun h=>by rw [iq_inj]at h;omega
 have n5:iq a d≠iq a b:=fun h=>by rw [iq_inj]at h;omega
 refine⟨by simp,fun p hp=>?_,three (p:=iq a b) (q:=iq c b) (r:=iq c d) (by simp) (by simp) (by simp) n1 n2 n3,fun i x y hx hy=>?_⟩
 ·simp only [List.mem_cons,List.not_mem_nil,or_false]at hp
  rcases hp with rfl|rfl|rfl|rfl
  ·exact⟨_,_,rfl,ha,hb⟩
  ·exact⟨_,_,rfl,hc,hb⟩
  ·exact⟨_,_,rfl,hc,hd⟩
  ·exact⟨_,_,rfl,ha,hd⟩
 ·match i,hx,hy with
  |0,hx,hy=>simp only [List.length_cons,List.length_nil,Nat.reduceAdd,Nat.reduceMod,List.getElem?_cons_zero,List.getElem?_cons_succ,Option.some.injEq]at hx hy;rw [←hx,←hy];exact n1
  |1,hx,hy=>simp only [List.length_cons,List.length_nil,Nat.reduceAdd,Nat.reduceMod,List.getElem?_cons_zero,List.getElem?_cons_succ,Option.some.injEq]at hx hy;rw [←hx,←hy];exact n3
  |2,hx,hy=>simp only [List.length_cons,List.length_nil,Nat.reduceAdd,Nat.reduceMod,List.getElem?_cons_zero,List.getElem?_cons_succ,Option.some.injEq]at hx hy;rw [←hx,←hy];exact n4
  |3,hx,hy=>simp only [List.length_cons,List.length_nil,Nat.reduceAdd,Nat.reduceMod,List.getElem?_cons_zero,List.getElem?_cons_succ,Option.some.injEq]at hx hy;rw [←hx,←hy];exact n5
def chn (l:List Pq):Prop:=∀(i:Nat) (a b:Pq),l[i]? = some a→l[i+1]? = some b→a≠b
theorem chn_snoc {l:List Pq}{p:Pq}(h:chn l) (hp:∀o,l[l.length-1]? = some o→o≠p):chn (l++[p]):=by
 intro i a b ha hb
 have hi:i+1<(l++[p]).length:=(List.getElem?_eq_some_iff.1 hb).1
 rw [List.length_append,List.length_singleton]at hi
 by_cases he:i+1<l.length
 ·rw [List.getElem?_append_left (by omega)]at ha
  rw [List.getElem?_append_left he]at hb
  exact h i a b ha hb
 ·have hl:l.length=i+1:=by omega
  rw [List.getElem?_append_left (by omega)]at ha
  rw [List.getElem?_append_right (by omega),hl,Nat.sub_self]at hb
  simp only [List.getElem?_cons_zero,Option.some.injEq]at hb
  rw [←hb]
  exact hp a (by rw [hl];exact ha)
theorem chn_take {l:List Pq}{k:Nat}(h:chn l):chn (l.take k):=by
 intro i a b ha hb
 rw [List.getElem?_take]at ha hb
 split at ha
 ·split at hb
  ·exact h i a b ha hb
  ·cases hb
 ·cases ha
def shq (l:List Pq):Prop:=l.length≤6∧∀p∈l,Iq p
theorem rg_close {l:List Pq}(hs:shq l) (hc:chn l) (h3:3≤(srt l).length) (hl:∀a b,l[0]? = some a→l[l.length-1]? = some b→a≠b):rgOk l:=by
 refine⟨hs.1,hs.2,h3,fun i a b ha hb=>?_⟩
 have hi:i<l.length:=(List.getElem?_eq_some_iff.1 ha).1
 by_cases he:i+1<l.length
 ·rw [Nat.mod_eq_of_lt he]at hb
  exact hc i a b ha hb
 ·have hl':l.length=i+1:=by omega
  rw [hl',Nat.mod_self]at hb
  exact(hl b a hb (by rw [hl'];exact ha)).symm
theorem nab {a b:Int}(ha:a.natAbs≤4) (hb:b.natAbs≤4):(a+b).natAbs≤1000:=by omega
theorem ne_add {a b c d:Int}(h:b≠0∨d≠0):a≠a+b∨c≠c+d:=by omega
theorem ne_add2 {p q u v u' v':Int}(h:u≠v∨u'≠v'):p+u≠p+v∨q+u'≠q+v':=by omega
theorem ht4 {x:Int}(h:x.natAbs≤4):ht (x:Rat)≤1:=ht_i x (Nat.le_trans h (by decide))
theorem addI_pu {a b u v:Int}(ha:a.natAbs≤4) (hb:b.natAbs≤4) (hu:u.natAbs≤4) (hv:v.natAbs≤4):Pu Tryz.prog 74 [rp a b,rq 1,rp u v] (rp ((a+u:Int):Rat) ((b+v:Int):Rat)):=by
 have h:=fun {x:Int}(h:x.natAbs≤4)=>Nat.le_trans (ht4 h) (show 1≤1000000 by decide)
 have a1:=gadd_pu a b 1 u v (h ha) (h hb) (by rw [ht_one];decide) (h hu) (h hv)
 rwa [show(a:Rat)+1*(u:Rat)=((a+u:Int):Rat) by push_cast;grind,show(b:Rat)+1*(v:Rat)=((b+v:Int):Rat) by push_cast;grind]at a1
theorem crossI_pu {a b u v:Int}(ha:a.natAbs≤4) (hb:b.natAbs≤4) (hu:u.natAbs≤4) (hv:v.natAbs≤4):Pu Tryz.prog 172 [rp a b,rp u v] (rq ((a*v-b*u:Int):Rat))∧Pu Tryz.prog 9 [rq ((a*v-b*u:Int):Rat)] (lit (.int .i64 (a*v-b*u).sign)):=by
 have h:=fun {x:Int}(h:x.natAbs≤4)=>Nat.le_trans (ht4 h) (show 1≤100000 by decide)
 have cc:=rcross_pu a b u v (h ha) (h hb) (h hu) (h hv)
 have m1:=mul_le4 ha hv
 have m2:=mul_le4 hb hu
 rw [show(a:Rat)*(v:Rat)-(b:Rat)*(u:Rat)=((a*v-b*u:Int):Rat) by push_cast;rfl]at cc
 refine⟨cc,?_⟩
 clear cc h ha hb hu hv
 generalize a*v=x at *
 generalize b*u=y at *
 have cs:=rs_pu ((x-y:Int):Rat) (by have:=ht_i (x-y) (by omega);omega)
 rwa [Rat.num_intCast]at cs
theorem cross_ne {a b u v:Int}(h0:a*v-b*u≠0):a≠u∨b≠v:=by
 rcases Int.decEq a u with h|h
 ·exact .inl h
 ·rcases Int.decEq b v with h'|h'
  ·exact .inr h'
  ·exfalso;apply h0;rw [h,h',Int.mul_comm];omega
structure RgSt where
 i:Nat
 l:List Pq
 s:SV
 Hs:LH
theorem iq_ok {x y:Int}(hx:x.natAbs≤4) (hy:y.natAbs≤4):Iq (iq x y):=⟨x,y,rfl,by omega,by omega⟩
theorem iq_ht {x y:Int}(hx:x.natAbs≤4) (hy:y.natAbs≤4):ht (iq x y).1≤1∧ht (iq x y).2≤1:=⟨ht_i x (by omega),ht_i y (by omega)⟩
set_option maxHeartbeats 4000000 in
theorem tring_pu (zs:List Int) (hz:zs.length≤400):PuT 107 zs [] ringR:=by
 refine PuM.intro Tryz.func107 rfl (by kernel_rfl) fun C b=>?_
 repeat(refine A1 ⟨?_⟩;intros)
 refine Wtx (next_pu zs hz 4 (by omega) (by omega)) mmA fun k=>?_
 obtain⟨k,hk⟩:=k
 simp only []
 refine WPL.nil ?_
 refine thenN ?_
 refine WP.block ?_
 refine WP.viaB (fun F H=>LeF F (fm [(0,lit (.pointer (some ⟨b,0,none⟩)))])∧[(b,85,tapeC zs)].Sublist H) ?_ ?_
 ·by_cases k0:k=0
  ·subst k0
   clear hk
   repeat(refine A1 ⟨?_⟩;intros)
   refine Wtx (next_pu zs hz 5 (by omega) (by omega)) mmA fun a=>?_
   obtain⟨a,ha⟩:=a
   simp only []
   repeat(refine A1 ⟨?_⟩;intros)
   refine Wtx (next_pu zs hz 5 (by omega) (by omega)) mmA fun a2=>?_
   obtain⟨b',hb'⟩:=a2
   simp only []
   repeat(refine A1 ⟨?_⟩;intros)
   refine Wtx (next_pu zs hz 4 (by omega) (by omega)) mmA fun a3=>?_
   obtain⟨c,hc⟩:=a3
   simp only []
   repeat(refine A1 ⟨?_⟩;intros)
   refine Wtx (next_pu zs hz 4 (by omega) (by omega)) mmA fun a4=>?_
   obtain⟨d,hd⟩:=a4
   simp only []
   have hR:=rg4 (a:=(a:Int)-4) (b:=(b':Int)-4) (c:=(a:Int)-4+1+c) (d:=(b':Int)-4+1+d) (by omega) (by omega) (by omega) (by omega) (by omega) (by omega)
   have c1:=xy_pu ((a:Int)-4) ((b':Int)-4) (by omega) (by omega) (by omega) (by omega)
   have c2:=xy_pu ((a:Int)-4+1+c) ((b':Int)-4) (by omega) (by omega) (by omega) (by omega)
   have c3:=xy_pu ((a:Int)-4+1+c) ((b':Int)-4+1+d) (by omega) (by omega) (by omega) (by omega)
   have c4:=xy_pu ((a:Int)-4) ((b':Int)-4+1+d) (by omega) (by omega) (by omega) (by omega)
   repeat(refine A1 ⟨?_⟩;intros)
   refine Wcx c1 ?_
   repeat(refine A1 ⟨?_⟩;intros)
   refine Wcx c2 ?_
   repeat(refine A1 ⟨?_⟩;intros)
   refine Wcx c3 ?_
   repeat(refine A1 ⟨?_⟩;intros)
   refine Wcx c4 ?_
   refine Wo (ov_bsL rpx_len [iq ((a:Int)-4) ((b':Int)-4),iq ((a:Int)-4+1+c) ((b':Int)-4),iq ((a:Int)-4+1+c) ((b':Int)-4+1+d),iq ((a:Int)-4) ((b':Int)-4+1+d)] (r:=[(0,rpx (iq ((a:Int)-4) ((b':Int)-4))),(1,rpx (iq ((a:Int)-4+1+c) ((b':Int)-4))),(2,rpx (iq ((a:Int)-4+1+c) ((b':Int)-4+1+d))),(3,rpx (iq ((a:Int)-4) ((b':Int)-4+1+d)))]) (.pt rfl (.pt rfl (.pt rfl (.pt rfl .nil))))) ?_
   repeat(refine A1 ⟨?_⟩;intros)
   exact endMR () _ (end1 (RV.tmp rfl) (Le.ex ⟨_,hR⟩ (Le.refl _))) mmA (LeL.refl _)
  ·by_cases k1:k=1
   ·subst k1
    clear hk
    repeat(refine A1 ⟨?_⟩;intros)
    refine Wtx (tp_pu zs hz) mmA fun p=>?_
    obtain⟨⟨px,py⟩,hpx,hpy⟩:=p
    simp only at hpx hpy
    simp only []
    repeat(refine A1 ⟨?_⟩;intros)
    refine Wtx (tv_pu zs hz) mmA fun u=>?_
    obtain⟨⟨ux,uy⟩,⟨hux,huy⟩,hu0⟩:=u
    simp only at hux huy hu0
    simp only []
    repeat(refine A1 ⟨?_⟩;intros)
    refine Wtx (tv_pu zs hz) mmA fun v=>?_
    obtain⟨⟨vx,vy⟩,⟨hvx,hvy⟩,hv0⟩:=v
    simp only at hvx hvy hv0
    simp only []
    obtain⟨cc,cs⟩:=crossI_pu hux huy hvx hvy
    by_cases h0:ux*vy-uy*vx=0
    ·rw [h0]at cc cs
     clear hu0 hv0 hpx hpy hux huy hvx hvy h0
     repeat(first|(refine A1 ⟨?_⟩;intros)|refine W4 cc ⟨?_⟩|refine W4 cs ⟨?_⟩)
     exact⟨lfA,by repeat(first|exact List.Sublist.refl _|refine List.Sublist.cons _ ?_)⟩
    ·have hs0:(ux*vy-uy*vx).sign≠0:=fun e=>h0 (Int.sign_eq_zero_iff_zero.1 e)
     have a1:=addI_pu hpx hpy hux huy
     have a2:=addI_pu hpx hpy hvx hvy
     have hR:=rg3 (a:=px) (b:=py) (c:=px+ux) (d:=py+uy) (e:=px+vx) (f:=py+vy) (Nat.le_trans hpx (by decide)) (Nat.le_trans hpy (by decide)) (nab hpx hux) (nab hpy huy) (nab hpx hvx) (nab hpy hvy) (ne_add hu0) (ne_add hv0) (ne_add2 (cross_ne h0))
     generalize(ux*vy-uy*vx).sign=s at *
     generalize ux*vy-uy*vx=z at *
     clear h0 hu0 hv0 hpx hpy hux huy hvx hvy
     repeat(first|(refine A1 ⟨?_⟩;intros)|refine W4 cc ⟨?_⟩|refine W4 cs ⟨?_⟩)
     repeat(first|(refine Wdcx rof1 ?_)|(refine Wdcx a1 ?_)|(refine Wdcx a2 ?_)|(refine Wdo (ov_bsL rpx_len [iq px py,iq (px+ux) (py+uy),iq (px+vx) (py+vy)] (r:=[(0,rpx (iq px py)),(1,rpx (iq (px+ux) (py+uy))),(2,rpx (iq (px+vx) (py+vy)))]) (.pt rfl (.pt rfl (.pt rfl .nil)))) ?_)|(refine A1 ⟨?_⟩;intros))
     exact endMR () _ (end1 (RV.tmp rfl) (Le.ex ⟨_,hR⟩ (Le.refl _))) mmA (LeL.refl _)
   ·repeat(refine A1 ⟨?_⟩;intros)
    exact⟨lfA,by repeat(first|exact List.Sublist.refl _|refine List.Sublist.cons _ ?_)⟩
 ·rintro F' H' ⟨hF,hH⟩
  refine WP.sub hH (WP.le hF ?_)
  clear hF hH
  repeat(refine A1 ⟨?_⟩;intros)
  refine Wtx (next_pu zs hz 4 (by omega) (by omega)) mmA fun n0=>?_
  obtain⟨n0,hn0⟩:=n0
  simp only []
  repeat(refine A1 ⟨?_⟩;intros)
  refine WP.loopS (ι:=RgSt) (fun y=>y.l.length+y.i≤6∧chn y.l∧(∀p∈y.l,Iq p)∧Own 63 6 y.l.length (y.l.map rpx).flatten y.s y.Hs) (fun y=>y.i)
   (fun y=>fm [(0,lit (.pointer (some ⟨b,0,none⟩))),(10,y.s),(11,lit (.int .i64 (y.i:Nat)))]) (fun y=>(b,85,tapeC zs)::y.Hs) ⟨3+n0,[],lit (.slice none 0 0),[]⟩
   ⟨by simp only [List.length_nil];omega,fun i a b h=>by simp at h,fun p h=>(by cases h),Own.nil _ _⟩ lfA (List.Sublist.refl _) ?_
  rintro ⟨i,l,s,Hs⟩ ⟨hli,hch,hsh,hown⟩ K hK
  simp only at hli hch hsh hown⊢
  by_cases hi:0<i
  ·have hgo:∀l' s' Hs',l'.length≤l.length+1→chn l'→(∀p∈l',Iq p)→Own 63 6 l'.length (l'.map rpx).flatten s' Hs'→∀F' H',LeF F' (fm [(0,lit (.pointer (some ⟨b,0,none⟩))),(10,s'),(11,lit (.int .i64 ((i-1:Nat):Int)))])→((b,85,tapeC zs)::Hs').Sublist H'→K F' H' :=
    fun l' s' Hs' h1 h2 h3 h4 F' H' h5 h6=>hK F' H' ⟨i-1,l',s',Hs'⟩ ⟨by simp only;omega,h2,h3,h4⟩ (by simp only;omega) h5 h6
   clear hK
   have hco:=hown.co
   by_cases hl0:l.length=0
   ·obtain rfl:=List.eq_nil_of_length_eq_zero hl0
    repeat(refine A1 ⟨?_⟩;intros)
    refine Wtx (tp_pu zs hz) mmA fun p=>?_
    obtain⟨⟨x,y⟩,hx,hy⟩:=p
    simp only at hx hy
    simp only []
    repeat(refine A1 ⟨?_⟩;intros)
    refine Wdo (ov_lenOwn hown rfl) ?_
    repeat(refine A1 ⟨?_⟩;intros)
    refine Wown hown (by decide) (fun s2 H2 hown'=>?_)
    have hown2:Own 63 6 [iq x y].length ([iq x y].map rpx).flatten s2 H2:=hown'
    have hco2:=hown2.co
    have hgo2:=hgo [iq x y] s2 H2 (by simp) (fun i a b h h'=>by cases i <;> simp at h') (fun p hp=>by rw [List.mem_singleton]at hp;subst hp;exact iq_ok hx hy) hown2
    clear hgo hown hown' hown2
    simp only [List.cons_append,List.nil_append]
    repeat(refine A1 ⟨?_⟩;intros)
    exact hgo2 _ _ lfA (by repeat(first|exact List.Sublist.refl _|refine List.Sublist.cons _ ?_))
   ·obtain⟨b2,c2,hnc,hcm,rfl,rfl⟩:=hown.blk (by omega)
    have hget:=List.getElem?_eq_getElem (show l.length-1<l.length by omega)
    generalize l[l.length-1]'(by omega)=o at hget
    have ho:=(hsh o (List.mem_of_getElem? hget)).ht
    have hrow:=row_at rpx_len (List.replicate (c2*6-l.length*6) top) hget
    have eidx:((l.length:Int)-1).toNat*6=(l.length-1)*6:=by omega
    rw [←eidx]at hrow
    clear eidx
    repeat(refine A1 ⟨?_⟩;intros)
    refine Wtx (tp_pu zs hz) mmA fun p=>?_
    obtain⟨⟨x,y⟩,hx,hy⟩:=p
    simp only at hx hy
    simp only []
    have hp:=iq_ht hx hy
    have c:=rsame_pu o.1 o.2 (iq x y).1 (iq x y).2 (by omega) (by omega) (by omega) (by omega)
    by_cases hop:o=iq x y
    ·rw [decide_eq_true (show o.1=(iq x y).1∧o.2=(iq x y).2 by rw [hop];exact⟨rfl,rfl⟩)]at c
     have hgo2:=hgo l _ _ (by omega) hch hsh hown
     clear hgo hown hch hsh hget ho hp hop
     repeat(refine A1 ⟨?_⟩;intros)
     refine Wdog (ov_loadLA rfl mmA hrow (by exact rfl)) ?_
     repeat(first|(refine A1 ⟨?_⟩;intros)|refine W4 c ⟨?_⟩)
     exact hgo2 _ _ lfA (by repeat(first|exact List.Sublist.refl _|refine List.Sublist.cons _ ?_))
    ·rw [decide_eq_false (show¬(o.1=(iq x y).1∧o.2=(iq x y).2)from fun e=>hop (Prod.ext e.1 e.2))]at c
     have hch2:=chn_snoc (p:=iq x y) hch (fun a ha=>by rw [hget]at ha;cases ha;exact hop)
     have hgo2:=fun s' Hs'=>hgo (l++[iq x y]) s' Hs' (by simp) hch2 (fun p hp'=>by
      rcases List.mem_append.1 hp' with h|h
      ·exact hsh p h
      ·rw [List.mem_singleton]at h;subst h;exact iq_ok hx hy)
     clear hgo hch hsh hget ho hp hop hch2
     repeat(refine A1 ⟨?_⟩;intros)
     refine Wdog (ov_loadLA rfl mmA hrow (by exact rfl)) ?_
     repeat(first|(refine A1 ⟨?_⟩;intros)|refine W4 c ⟨?_⟩)
     refine Wown hown (by omega) (fun s2 H2 hown'=>?_)
     have hown2:Own 63 6 (l++[iq x y]).length ((l++[iq x y]).map rpx).flatten s2 H2:=by
      rw [List.length_append,List.length_singleton,List.map_append,List.flatten_append]
      exact hown'
     have hco2:=hown2.co
     replace hgo2:=hgo2 s2 H2 hown2
     clear hown hown' hown2
     simp only [List.cons_append,List.nil_append]
     repeat(refine A1 ⟨?_⟩;intros)
     exact hgo2 _ _ lfA (by repeat(first|exact List.Sublist.refl _|refine List.Sublist.cons _ ?_))
  ·have hi0:i=0:=by omega
   subst hi0
   have hl6:l.length≤6:=by omega
   clear hK hli hi
   refine WP.rowS 10 hown rfl (show([(b,85,tapeC zs)]++Hs).Perm _ from List.perm_append_comm) ?_
   clear hown
   have t0:=xy_pu 0 0 (by decide) (by decide) (by decide) (by decide)
   have t1:=xy_pu 2 0 (by decide) (by decide) (by decide) (by decide)
   have t2:=xy_pu 0 2 (by decide) (by decide) (by decide) (by decide)
   have hT:=rg3 (a:=0) (b:=0) (c:=2) (d:=0) (e:=0) (f:=2) (by decide) (by decide) (by decide) (by decide) (by decide) (by decide) (by decide) (by decide) (by decide)
   repeat(refine A1 ⟨?_⟩;intros)
   refine WP.loopS (ι:=List Pq) (fun y=>chn y∧y.length≤6∧∀p∈y,Iq p) (fun y=>y.length) (fun y=>fm [(0,lit (.pointer (some ⟨b,0,none⟩))),(10,rps y)]) (fun y=>[(b,85,tapeC zs)]) l
    ⟨hch,hl6,hsh⟩ lfA (List.Sublist.refl _) ?_
   clear hch hl6 hsh
   rintro l ⟨hch,hl6,hsh⟩ K hK
   have hfl:=flat_len rpx_len l
   have cs:=sorted_pu l (by omega) (fun p hp=>by have:=(hsh p hp).ht;omega)
   have hsl:=srt_len l
   by_cases h1:1<l.length
   ·have hget:=List.getElem?_eq_getElem (show l.length-1<l.length by omega)
    generalize l[l.length-1]'(by omega)=o at hget
    have ho:=(hsh o (List.mem_of_getElem? hget)).ht
    have hat:=flat_at (f:=rpx) (n:=6) rpx_len hget
    have hget0:=List.getElem?_eq_getElem (show 0<l.length by omega)
    generalize l[0]'(by omega)=a at hget0
    have ha:=(hsh a (List.mem_of_getElem? hget0)).ht
    have hat0:=flat_at (f:=rpx) (n:=6) rpx_len hget0
    have hne:(l.map rpx).flatten≠[]:=flat_ne rpx_len (by omega) (fun e=>by rw [e]at h1;simp at h1)
    have eidx:((l.length:Int)-1).toNat*6=(l.length-1)*6:=by omega
    rw [←eidx]at hat
    clear eidx
    have c:=rsame_pu a.1 a.2 o.1 o.2 (by omega) (by omega) (by omega) (by omega)
    by_cases hao:a=o
    ·rw [decide_eq_true (show a.1=o.1∧a.2=o.2 by rw [hao];exact⟨rfl,rfl⟩)]at c
     have hgo:=fun F' H'=>hK F' H' (l.take (l.length-1)) ⟨chn_take hch,by rw [List.length_take];omega,fun p hp=>hsh p (List.mem_of_mem_take hp)⟩ (by rw [List.length_take];omega)
     have hft:=flat_take rpx_len l (l.length-1)
     have hrp:rps (l.take (l.length-1))=sl ((l.take (l.length-1)).map rpx).flatten (l.length-1):=congrArg (fun n:Nat=>sl ((l.take (l.length-1)).map rpx).flatten n) (show(l.take (l.length-1)).length=l.length-1 by rw [List.length_take];omega)
     clear hK hch hsh hget hget0 ho ha hao cs hsl t0 t1 t2
     repeat(refine A1 ⟨?_⟩;intros)
     refine Wdog (ov_idxS (cs':=rpx a) rfl rfl (by omega) (by omega) hat0 hne) ?_
     repeat(refine A1 ⟨?_⟩;intros)
     refine Wdog (ov_idxS (cs':=rpx o) rfl rfl (by omega) (by omega) hat hne) ?_
     repeat(first|(refine A1 ⟨?_⟩;intros)|refine W4 c ⟨?_⟩)
     refine Wo (ov_slT (l.length-1) rfl rfl (by omega) (by omega)) ?_
     rw [hft,←hrp]
     repeat(refine A1 ⟨?_⟩;intros)
     exact hgo _ _ lfA (List.Sublist.refl _)
    ·rw [decide_eq_false (show¬(a.1=o.1∧a.2=o.2)from fun e=>hao (Prod.ext e.1 e.2))]at c
     by_cases h3:(srt l).length<3
     ·clear hK hch hsh hget hget0 ho ha hao hfl
      repeat(refine A1 ⟨?_⟩;intros)
      refine Wdog (ov_idxS (cs':=rpx a) rfl rfl (by omega) (by omega) hat0 hne) ?_
      repeat(refine A1 ⟨?_⟩;intros)
      refine Wdog (ov_idxS (cs':=rpx o) rfl rfl (by omega) (by omega) hat hne) ?_
      repeat(first|(refine A1 ⟨?_⟩;intros)|refine W4 c ⟨?_⟩|refine W4 cs ⟨?_⟩|refine W4 t0 ⟨?_⟩|refine W4 t1 ⟨?_⟩)
      refine Wcx t2 ?_
      refine Wo (ov_bsL rpx_len [iq 0 0,iq 2 0,iq 0 2] (r:=[(0,rpx (iq 0 0)),(1,rpx (iq 2 0)),(2,rpx (iq 0 2))]) (.pt rfl (.pt rfl (.pt rfl .nil)))) ?_
      repeat(refine A1 ⟨?_⟩;intros)
      exact endMR () _ (end1 (RV.tmp rfl) (Le.ex ⟨_,hT⟩ (Le.refl _))) mmA (LeL.refl _)
     ·have hR:=rg_close ⟨hl6,hsh⟩ hch (by omega) (fun x y hx hy=>by rw [hget0]at hx;rw [hget]at hy;cases hx;cases hy;exact hao)
      clear hK hch hsh hget hget0 ho ha hao hfl t0 t1 t2
      repeat(refine A1 ⟨?_⟩;intros)
      refine Wdog (ov_idxS (cs':=rpx a) rfl rfl (by omega) (by omega) hat0 hne) ?_
      repeat(refine A1 ⟨?_⟩;intros)
      refine Wdog (ov_idxS (cs':=rpx o) rfl rfl (by omega) (by omega) hat hne) ?_
      repeat(first|(refine A1 ⟨?_⟩;intros)|refine W4 c ⟨?_⟩|refine W4 cs ⟨?_⟩)
      exact endMR () _ (end1 (RV.tmp rfl) (Le.ex ⟨l,hR⟩ (Le.refl _))) mmA (LeL.refl _)
   ·have h3:(srt l).length<3:=by omega
    clear hK hch hsh hfl
    repeat(first|(refine A1 ⟨?_⟩;intros)|refine W4 cs ⟨?_⟩|refine W4 t0 ⟨?_⟩|refine W4 t1 ⟨?_⟩)
    refine Wcx t2 ?_
    refine Wo (ov_bsL rpx_len [iq 0 0,iq 2 0,iq 0 2] (r:=[(0,rpx (iq 0 0)),(1,rpx (iq 2 0)),(2,rpx (iq 0 2))]) (.pt rfl (.pt rfl (.pt rfl .nil)))) ?_
    repeat(refine A1 ⟨?_⟩;intros)
    exact endMR () _ (end1 (RV.tmp rfl) (Le.ex ⟨_,hT⟩ (Le.refl _))) mmA (LeL.refl _)
theorem rgOk.ht {l:List Pq}(h:rgOk l):∀p∈l,Ab.ht p.1≤1∧Ab.ht p.2≤1:=fun p hp=>(h.2.1 p hp).ht
abbrev lqx (l:Li):List SV:=[lit (.bool (decide (l.a<0))),nat l.a.natAbs,lit (.bool (decide (l.b<0))),nat l.b.natAbs,lit (.bool (decide (l.c<0))),nat l.c.natAbs]
theorem lqx_len (l:Li):(lqx l).length=6:=rfl
abbrev lqs (l:List Li):SV:=sl (l.map lqx).flatten l.length
abbrev zrpx:List SV:=[lit (.bool false),lit (.slice none 0 0),lit (.slice none 0 0),lit (.bool false),lit (.slice none 0 0),lit (.slice none 0 0)]
theorem zrp_le:LeL zrpx (rpx (0,0)):=⟨Le.refl _,leN0,leD0,Le.refl _,leN0,leD0,trivial⟩
theorem Li.sm.ile {l:Li}(h:l.sm):l.le 1000000:=h.2.gr (by omega)
theorem rvalue_pu {l:Li}{p:Pq}(h:l.sm) (k:hp p 100000):Pu Tryz.prog 271 [lq l,ag (rpx p)] (rq (valL l p)):=by
 obtain⟨h1,h2,h3⟩:=h.ht
 obtain⟨k1,k2⟩:=k
 have:=ht_mul (l.a:Rat) p.1
 have:=ht_mul (l.b:Rat) p.2
 have:=ht_add ((l.a:Rat)*p.1) ((l.b:Rat)*p.2)
 have c1:=rgq_pu l.a
 have c2:=rgq_pu l.b
 have c3:=rgq_pu l.c
 have c4:=rtimes_pu (l.a:Rat) p.1 (by omega) (by omega)
 have c5:=rtimes_pu (l.b:Rat) p.2 (by omega) (by omega)
 have c6:=rplus_pu ((l.a:Rat)*p.1) ((l.b:Rat)*p.2) (by omega) (by omega)
 have c7:=rplus_pu ((l.a:Rat)*p.1+(l.b:Rat)*p.2) (l.c:Rat) (by omega) (by omega)
 unfold valL
 refine Pu.intro Tryz.func271 rfl (by kernel_rfl) fun C=>?_
 repeat(first|(refine A1 ⟨?_⟩;intros)|refine W4 c1 ⟨?_⟩|refine W4 c2 ⟨?_⟩|refine W4 c3 ⟨?_⟩|refine W4 c4 ⟨?_⟩|refine W4 c5 ⟨?_⟩|refine W4 c6 ⟨?_⟩|refine W4 c7 ⟨?_⟩)
 ((first|refine endR ?_|refine endN ?_);refine end1 RVa (Le.refl _))
theorem rside_pu {l:Li}{p:Pq}(h:l.sm) (k:hp p 100000):Pu Tryz.prog 258 [lq l,ag (rpx p)] (lit (.int .i64 (sideL l p))):=by
 have:=valL_ht h k
 have c1:=rvalue_pu h k
 have c2:=rs_pu (valL l p) (by omega)
 unfold sideL
 refine Pu.intro Tryz.func258 rfl (by kernel_rfl) fun C=>?_
 repeat(first|(refine A1 ⟨?_⟩;intros)|refine W4 c1 ⟨?_⟩|refine W4 c2 ⟨?_⟩)
 exact E1
theorem rat_pu {l:Li}{t:Rat}(h:l.sm) (k:ht t≤100000):Pu Tryz.prog 62 [lq l,rq t] (ag (rpx (atL l t))):=by
 obtain⟨b1,b2⟩:=baseL_ht h
 obtain⟨d1,d2⟩:=dirL_ht h
 have c1:=rbase_pu h.1 h.2
 have c2:=rdir_pu l h.ile
 have c3:=gadd_pu (baseL l).1 (baseL l).2 t (dirL l).1 (dirL l).2 (by omega) (by omega) (by omega) (by omega) (by omega)
 refine Pu.intro Tryz.func62 rfl (by kernel_rfl) fun C=>?_
 repeat(first|(refine A1 ⟨?_⟩;intros)|refine W4 c1 ⟨?_⟩|refine W4 c2 ⟨?_⟩|refine W4 c3 ⟨?_⟩)
 ((first|refine endR ?_|refine endN ?_);refine end1 RVa (Le.refl _))
theorem dirL_dot {l:Li}(h:l.ok):dotP (dirL l) (dirL l)≠0:=fun e=>by
 have hn:=Li.n_pos h
 unfold dotP dirL at e
 rw [show(l.b:Rat)*l.b + -(l.a:Rat) * -(l.a:Rat)=0 from e]at hn
 exact absurd hn (by decide)
theorem rparam_pu {l:Li}{p:Pq}(h:l.sm) (k:hp p 100000):Pu Tryz.prog 253 [lq l,ag (rpx p)] (rq (parL l p)):=by
 have h1:=dotP_ht k (dirL_ht h)
 have h2:=dotP_ht (dirL_ht h) (dirL_ht h)
 obtain⟨d1,d2⟩:=dirL_ht h
 obtain⟨k1,k2⟩:=k
 have m1:=ht_mul p.1 (dirL l).1
 have m2:=ht_mul p.2 (dirL l).2
 have m3:=ht_mul (dirL l).1 (dirL l).1
 have m4:=ht_mul (dirL l).2 (dirL l).2
 have hne:(dotP (dirL l) (dirL l)).num≠0:=fun e=>dirL_dot h.1 (Rat.num_eq_zero.1 e)
 have c1:=rdir_pu l h.ile
 have c2:=rdot_pu p.1 p.2 (dirL l).1 (dirL l).2 (by omega) (by omega) (by omega) (by omega) (by omega) (by omega)
 have c3:=rdot_pu (dirL l).1 (dirL l).2 (dirL l).1 (dirL l).2 (by omega) (by omega) (by omega) (by omega) (by omega) (by omega)
 have c4:=rover_pu (dotP p (dirL l)) (dotP (dirL l) (dirL l)) (by omega) (by omega) hne
 refine Pu.intro Tryz.func253 rfl (by kernel_rfl) fun C=>?_
 repeat(first|(refine A1 ⟨?_⟩;intros)|refine W4 c1 ⟨?_⟩|refine W4 c2 ⟨?_⟩|refine W4 c3 ⟨?_⟩|refine W4 c4 ⟨?_⟩)
 ((first|refine endR ?_|refine endN ?_);refine end1 RVa (Le.refl _))
theorem rcompareI_pu (a b:Int) (ha:il a≤1000000) (hb:il b≤1000000):Pu Tryz.prog 204 [int a,int b] (lit (.int .i64 (a + -b).sign)):=by
 have h1:=il_neg b
 have h2:=il_add a (-b)
 unfold il at *
 have c1:=rminus_int b (by omega)
 have c2:=radd_int a (-b) (by omega) (by omega)
 have c3:=rsign_int (a + -b) (by omega)
 refine Pu.intro Tryz.func204 rfl (by kernel_rfl) fun C=>?_
 repeat(first|(refine A1 ⟨?_⟩;intros)|refine W4 c1 ⟨?_⟩|refine W4 c2 ⟨?_⟩|refine W4 c3 ⟨?_⟩)
 exact E1
theorem rcmpL_pu {l m:Li}(h:l.le 1000000) (k:m.le 1000000):Pu Tryz.prog 149 [lq l,lq m] (lit (.int .i64 (cmpL l m))):=by
 have c1:=rcompareI_pu l.a m.a h.a k.a
 have c2:=rcompareI_pu l.b m.b h.b k.b
 have c3:=rcompareI_pu l.c m.c h.c k.c
 unfold cmpL
 clear h k
 generalize(l.a + -m.a).sign=s1 at *
 generalize(l.b + -m.b).sign=s2 at *
 generalize(l.c + -m.c).sign=s3 at *
 by_cases h1:s1=0
 ·rw [if_neg (fun k=>k h1)]
  by_cases h2:s2=0
  ·rw [if_neg (fun k=>k h2)]
   refine Pu.intro Tryz.func149 rfl (by kernel_rfl) fun C=>?_
   repeat(first|(refine A1 ⟨?_⟩;intros)|refine W4 c1 ⟨?_⟩|refine W4 c2 ⟨?_⟩|refine W4 c3 ⟨?_⟩)
   exact E1
  ·rw [if_pos h2]
   refine Pu.intro Tryz.func149 rfl (by kernel_rfl) fun C=>?_
   repeat(first|(refine A1 ⟨?_⟩;intros)|refine W4 c1 ⟨?_⟩|refine W4 c2 ⟨?_⟩|refine W4 c3 ⟨?_⟩)
   exact E1
 ·rw [if_pos h1]
  refine Pu.intro Tryz.func149 rfl (by kernel_rfl) fun C=>?_
  repeat(first|(refine A1 ⟨?_⟩;intros)|refine W4 c1 ⟨?_⟩|refine W4 c2 ⟨?_⟩|refine W4 c3 ⟨?_⟩)
  exact E1
theorem rcanon_pu {l:Li}(h:l.le 1000000):Pu Tryz.prog 183 [lq l] (Ab.tup [lq (canonL l),lit (.bool (canL l))]):=by
 have c1:=rrev_pu l h
 have c2:=rsign_int l.a (by have:=h.a;unfold il at this;omega)
 have c3:=rsign_int l.b (by have:=h.b;unfold il at this;omega)
 unfold canonL canL
 clear h
 rcases Int.lt_trichotomy l.a 0 with h1|h1|h1
 ·rw [decide_eq_true (.inl h1),if_pos rfl]
  have:=Int.sign_eq_neg_one_of_neg h1
  rw [this]at c2
  refine Pu.intro Tryz.func183 rfl (by kernel_rfl) fun C=>?_
  repeat(first|(refine A1 ⟨?_⟩;intros)|refine W4 c2 ⟨?_⟩|refine W4 c1 ⟨?_⟩)
  ((first|refine endR ?_|refine endN ?_);exact end2 RVa (RV.tmp rfl) (Le.refl _))
 ·rw [show l.a.sign=0 from Int.sign_eq_zero_iff_zero.2 h1]at c2
  by_cases h2:l.b<0
  ·rw [decide_eq_true (.inr ⟨h1,h2⟩),if_pos rfl]
   rw [Int.sign_eq_neg_one_of_neg h2]at c3
   refine Pu.intro Tryz.func183 rfl (by kernel_rfl) fun C=>?_
   repeat(first|(refine A1 ⟨?_⟩;intros)|refine W4 c2 ⟨?_⟩|refine W4 c3 ⟨?_⟩|refine W4 c1 ⟨?_⟩)
   ((first|refine endR ?_|refine endN ?_);exact end2 RVa (RV.tmp rfl) (Le.refl _))
  ·rw [decide_eq_false (by omega)]
   have hs:¬l.b.sign<0:=fun k=>h2 (Int.sign_neg_iff.1 k)
   generalize l.b.sign=s at *
   clear h2
   refine Pu.intro Tryz.func183 rfl (by kernel_rfl) fun C=>?_
   repeat(first|(refine A1 ⟨?_⟩;intros)|refine W4 c2 ⟨?_⟩|refine W4 c3 ⟨?_⟩|refine W4 c1 ⟨?_⟩)
   ((first|refine endR ?_|refine endN ?_);exact end2 RVa (RV.tmp rfl) (Le.refl _))
 ·rw [decide_eq_false (by omega)]
  rw [Int.sign_eq_one_of_pos h1]at c2
  refine Pu.intro Tryz.func183 rfl (by kernel_rfl) fun C=>?_
  repeat(first|(refine A1 ⟨?_⟩;intros)|refine W4 c2 ⟨?_⟩|refine W4 c1 ⟨?_⟩)
  ((first|refine endR ?_|refine endN ?_);exact end2 RVa (RV.tmp rfl) (Le.refl _))
set_option maxHeartbeats 1000000 in
theorem rmeet_pu {l m:Li}(h:l.sm) (k:m.sm):Pu Tryz.prog 61 [lq l,lq m] (Ab.tup [ag (rpx ((meetL l m).getD (0,0))),lit (.bool (meetL l m).isSome)]):=by
 have hd:=detL_ht h k
 obtain⟨h1,h2,h3⟩:=h.ht
 obtain⟨k1,k2,k3⟩:=k.ht
 have m1:=ht_mul (l.a:Rat) m.b
 have m2:=ht_mul (m.a:Rat) l.b
 have m3:=ht_mul (l.b:Rat) m.c
 have m4:=ht_mul (m.b:Rat) l.c
 have m5:=ht_mul (m.a:Rat) l.c
 have m6:=ht_mul (l.a:Rat) m.c
 have s1:=ht_sub ((l.b:Rat)*m.c) (m.b*l.c)
 have s2:=ht_sub ((m.a:Rat)*l.c) (l.a*m.c)
 have q1:=rgq_pu l.a
 have q2:=rgq_pu l.b
 have q3:=rgq_pu l.c
 have q4:=rgq_pu m.a
 have q5:=rgq_pu m.b
 have q6:=rgq_pu m.c
 have t1:=rtimes_pu (l.a:Rat) m.b (by omega) (by omega)
 have t2:=rtimes_pu (m.a:Rat) l.b (by omega) (by omega)
 have u1:=rqsub_pu ((l.a:Rat)*m.b) ((m.a:Rat)*l.b) (by omega) (by omega)
 rw [show(l.a:Rat)*m.b-(m.a:Rat)*l.b=detL l m from rfl]at u1
 have s:=rs_pu (detL l m) (by omega)
 unfold meetL
 by_cases hz:detL l m=0
 ·rw [if_pos hz]
  rw [rsign_zero.2 hz]at s
  clear h h1 h2 h3 k k1 k2 k3 m1 m2 m3 m4 m5 m6 s1 s2 hd hz
  refine Pu.intro Tryz.func61 rfl (by kernel_rfl) fun C=>?_
  repeat(first|(refine A1 ⟨?_⟩;intros)|refine W4 q1 ⟨?_⟩|refine W4 q2 ⟨?_⟩|refine W4 q3 ⟨?_⟩|refine W4 q4 ⟨?_⟩|refine W4 q5 ⟨?_⟩|refine W4 q6 ⟨?_⟩|refine W4 t1 ⟨?_⟩|refine W4 t2 ⟨?_⟩|refine W4 u1 ⟨?_⟩|refine W4 s ⟨?_⟩)
  ((first|refine endR ?_|refine endN ?_);exact end2 (s1:=ag zrpx) RVa (RV.tmp rfl) (Le.tup2 (Le.ag zrp_le) (Le.refl _)))
 ·rw [if_neg hz]
  have hs:¬(detL l m).num.sign=0:=fun e=>hz (rsign_zero.1 e)
  have hn:(detL l m).num≠0:=fun e=>hz (Rat.num_eq_zero.1 e)
  have t3:=rtimes_pu (l.b:Rat) m.c (by omega) (by omega)
  have t4:=rtimes_pu (m.b:Rat) l.c (by omega) (by omega)
  have t5:=rtimes_pu (m.a:Rat) l.c (by omega) (by omega)
  have t6:=rtimes_pu (l.a:Rat) m.c (by omega) (by omega)
  have u2:=rqsub_pu ((l.b:Rat)*m.c) ((m.b:Rat)*l.c) (by omega) (by omega)
  have u3:=rqsub_pu ((m.a:Rat)*l.c) ((l.a:Rat)*m.c) (by omega) (by omega)
  have o1:=rover_pu ((l.b:Rat)*m.c-(m.b:Rat)*l.c) (detL l m) (by omega) (by omega) hn
  have o2:=rover_pu ((m.a:Rat)*l.c-(l.a:Rat)*m.c) (detL l m) (by omega) (by omega) hn
  clear h h1 h2 h3 k k1 k2 k3 m1 m2 m3 m4 m5 m6 s1 s2 hd hz hn
  generalize(detL l m).num.sign=z at *
  simp only [Option.getD_some,Option.isSome_some]
  unfold meetP
  refine Pu.intro Tryz.func61 rfl (by kernel_rfl) fun C=>?_
  repeat(first|(refine A1 ⟨?_⟩;intros)|refine W4 q1 ⟨?_⟩|refine W4 q2 ⟨?_⟩|refine W4 q3 ⟨?_⟩|refine W4 q4 ⟨?_⟩|refine W4 q5 ⟨?_⟩|refine W4 q6 ⟨?_⟩|refine W4 t1 ⟨?_⟩|refine W4 t2 ⟨?_⟩|refine W4 u1 ⟨?_⟩|refine W4 s ⟨?_⟩|refine W4 t3 ⟨?_⟩|refine W4 t4 ⟨?_⟩|refine W4 t5 ⟨?_⟩|refine W4 t6 ⟨?_⟩|refine W4 u2 ⟨?_⟩|refine W4 u3 ⟨?_⟩|refine W4 o1 ⟨?_⟩|refine W4 o2 ⟨?_⟩)
  ((first|refine endR ?_|refine endN ?_);exact end2 RVa (RV.tmp rfl) (Le.refl _))
theorem rhalf_pu (v:Pq) (h:hp v 1000000):Pu Tryz.prog 273 [ag (rpx v)] (lit (.int .i64 (halfP v))):=by
 obtain⟨h1,h2⟩:=h
 have c1:=rs_pu v.1 (by omega)
 have c2:=rs_pu v.2 (by omega)
 have e:=halfP_sgn v
 rw [e]
 generalize v.1.num.sign=x at *
 generalize v.2.num.sign=y at *
 clear e h1 h2
 by_cases a1:x=0
 ·by_cases a2:y=0
  ·rw [if_pos ⟨a1,a2⟩]
   refine Pu.intro Tryz.func273 rfl (by kernel_rfl) fun C=>?_
   repeat(first|(refine A1 ⟨?_⟩;intros)|refine W4 c1 ⟨?_⟩|refine W4 c2 ⟨?_⟩)
   exact E1
  ·rw [if_neg (by omega)]
   by_cases a3:0<y
   ·rw [if_pos (.inl a3)]
    refine Pu.intro Tryz.func273 rfl (by kernel_rfl) fun C=>?_
    repeat(first|(refine A1 ⟨?_⟩;intros)|refine W4 c1 ⟨?_⟩|refine W4 c2 ⟨?_⟩)
    exact E1
   ·rw [if_neg (by omega)]
    refine Pu.intro Tryz.func273 rfl (by kernel_rfl) fun C=>?_
    repeat(first|(refine A1 ⟨?_⟩;intros)|refine W4 c1 ⟨?_⟩|refine W4 c2 ⟨?_⟩)
    exact E1
 ·rw [if_neg (by omega)]
  by_cases a3:0<y
  ·rw [if_pos (.inl a3)]
   refine Pu.intro Tryz.func273 rfl (by kernel_rfl) fun C=>?_
   repeat(first|(refine A1 ⟨?_⟩;intros)|refine W4 c1 ⟨?_⟩|refine W4 c2 ⟨?_⟩)
   exact E1
  ·by_cases a4:y=0
   ·by_cases a5:0<x
    ·rw [if_pos (.inr ⟨a4,a5⟩)]
     refine Pu.intro Tryz.func273 rfl (by kernel_rfl) fun C=>?_
     repeat(first|(refine A1 ⟨?_⟩;intros)|refine W4 c1 ⟨?_⟩|refine W4 c2 ⟨?_⟩)
     exact E1
    ·rw [if_neg (by omega)]
     refine Pu.intro Tryz.func273 rfl (by kernel_rfl) fun C=>?_
     repeat(first|(refine A1 ⟨?_⟩;intros)|refine W4 c1 ⟨?_⟩|refine W4 c2 ⟨?_⟩)
     exact E1
   ·rw [if_neg (by omega)]
    refine Pu.intro Tryz.func273 rfl (by kernel_rfl) fun C=>?_
    repeat(first|(refine A1 ⟨?_⟩;intros)|refine W4 c1 ⟨?_⟩|refine W4 c2 ⟨?_⟩)
    exact E1
theorem rangle_pu (u v:Pq) (h:hp u 40000) (k:hp v 40000):Pu Tryz.prog 231 [ag (rpx u),ag (rpx v)] (lit (.int .i64 (angP u v))):=by
 have hx:=crossP_ht h k
 obtain⟨h1,h2⟩:=h
 obtain⟨k1,k2⟩:=k
 have c1:=rhalf_pu u ⟨by omega,by omega⟩
 have c2:=rhalf_pu v ⟨by omega,by omega⟩
 have c3:=rcross_pu u.1 u.2 v.1 v.2 (by omega) (by omega) (by omega) (by omega)
 have c4:=rs_pu (crossP u v) (by omega)
 have hs : -1≤(crossP u v).num.sign∧(crossP u v).num.sign≤1:=by have:=Int.sign_trichotomy (crossP u v).num;omega
 unfold angP
 rw [show u.1*v.2-u.2*v.1=crossP u v from rfl]at c3
 generalize halfP u=a at *
 generalize halfP v=b at *
 clear h1 h2 k1 k2
 by_cases e:a=b
 ·rw [if_neg (fun k=>k e)]
  clear hx
  generalize(crossP u v).num.sign=z at *
  refine Pu.intro Tryz.func231 rfl (by kernel_rfl) fun C=>?_
  repeat(first|(refine A1 ⟨?_⟩;intros)|refine W4 c1 ⟨?_⟩|refine W4 c2 ⟨?_⟩|refine W4 c3 ⟨?_⟩|refine W4 c4 ⟨?_⟩)
  exact E1
 ·rw [if_pos e]
  by_cases f:a<b
  ·rw [if_pos f]
   clear hx hs
   refine Pu.intro Tryz.func231 rfl (by kernel_rfl) fun C=>?_
   repeat(first|(refine A1 ⟨?_⟩;intros)|refine W4 c1 ⟨?_⟩|refine W4 c2 ⟨?_⟩)
   exact E1
  ·rw [if_neg f]
   clear hx hs
   refine Pu.intro Tryz.func231 rfl (by kernel_rfl) fun C=>?_
   repeat(first|(refine A1 ⟨?_⟩;intros)|refine W4 c1 ⟨?_⟩|refine W4 c2 ⟨?_⟩)
   exact E1
theorem rorient_pu (a b c:Pq) (h:hp a 1000) (k:hp b 1000) (j:hp c 1000):Pu Tryz.prog 295 [ag (rpx a),ag (rpx b),ag (rpx c)] (lit (.int .i64 (orientP a b c))):=by
 obtain⟨h1,h2⟩:=h
 obtain⟨k1,k2⟩:=k
 obtain⟨j1,j2⟩:=j
 have m1:=ht_sub b.1 a.1
 have m2:=ht_sub b.2 a.2
 have m3:=ht_sub c.1 a.1
 have m4:=ht_sub c.2 a.2
 have c1:=rsub_pt b.1 b.2 a.1 a.2 (by omega) (by omega) (by omega) (by omega)
 have c2:=rsub_pt c.1 c.2 a.1 a.2 (by omega) (by omega) (by omega) (by omega)
 have c3:=rcross_pu (b.1-a.1) (b.2-a.2) (c.1-a.1) (c.2-a.2) (by omega) (by omega) (by omega) (by omega)
 have hx:=crossP_ht (p:=(b.1-a.1,b.2-a.2)) (q:=(c.1-a.1,c.2-a.2)) (n:=2001) (m:=2001) ⟨by simp only;omega,by simp only;omega⟩ ⟨by simp only;omega,by simp only;omega⟩
 have c4:=rs_pu (crossP (b.1-a.1,b.2-a.2) (c.1-a.1,c.2-a.2)) (by omega)
 unfold orientP
 refine Pu.intro Tryz.func295 rfl (by kernel_rfl) fun C=>?_
 repeat(first|(refine A1 ⟨?_⟩;intros)|refine W4 c1 ⟨?_⟩|refine W4 c2 ⟨?_⟩|refine W4 c3 ⟨?_⟩|refine W4 c4 ⟨?_⟩)
 exact E1
theorem elt {α:Type}{f:α→List SV}{n:Nat}(hf:∀a,(f a).length=n) (hn:0<n){l:List α}{k:Nat}(hk:k<l.length):∃a,l[k]? = some a∧a∈l∧(((l.map f).flatten).drop (k*n)).take n=f a∧(l.map f).flatten≠[] :=
 have h:=List.getElem?_eq_getElem hk
 ⟨l[k],h,List.mem_of_getElem? h,flat_at hf h,flat_ne hf (by omega) (fun e=>by rw [e]at hk;simp at hk)⟩
theorem insF {α:Type}{f:α→List SV}{n:Nat}(hf:∀a,(f a).length=n) (out:List α) (x:α) (j:Nat) (hj:j≤out.length):((out.map f).flatten).length=out.length*n∧(((out.map f).flatten).drop (j*n)).length=(out.length-j)*n∧(((out.map f).flatten).take (j*n)).length=j*n∧
  (f x++((out.map f).flatten).drop (j*n)).length=(1+(out.length-j))*n∧((out.map f).flatten).take (j*n)++(f x++((out.map f).flatten).drop (j*n))=((out.take j++x::out.drop j).map f).flatten∧j+(1+(out.length-j))=(out.take j++x::out.drop j).length:=by
 have hfl:=flat_len hf out
 have hdl:(((out.map f).flatten).drop (j*n)).length=(out.length-j)*n:=by rw [List.length_drop,hfl,Nat.sub_mul]
 refine⟨hfl,hdl,?_,?_,ins_cells hf out x j,?_⟩
 ·have:=Nat.mul_le_mul_right n hj
  rw [List.length_take,hfl];omega
 ·rw [List.length_append,hdl,hf,Nat.add_mul,Nat.one_mul]
 ·rw [List.length_append,List.length_cons,List.length_take,List.length_drop];omega
section
variable {α:Type}{lt:α→α→Bool}{out:List α}{x o:α}{j:Nat}
theorem insA_at (hj:j=posI lt out x):insA lt out x=out.take j++x::out.drop j:=by unfold insA;rw [←hj]
theorem insB_eq [DecidableEq α] (hj:j=posI lt out x) (ho:out[j]? = some o) (e:o=x):insB lt out x=out:=by unfold insB;rw [←hj,if_pos (by rw [ho,e])]
theorem insB_at [DecidableEq α] (hj:j=posI lt out x) (ho:out[j]? = some o) (e:¬o=x):insB lt out x=out.take j++x::out.drop j:=by
 unfold insB
 rw [←hj,if_neg (by rw [ho];exact fun h=>e (Option.some.inj h))]
 exact insA_at hj
theorem insB_end [DecidableEq α] (hj:j=out.length) (h:j≤posI lt out x):insB lt out x=out.take j++x::out.drop j:=by
 have hp:=posI_le lt out x
 have he:j=posI lt out x:=by omega
 unfold insB
 rw [←he,if_neg (by rw [List.getElem?_eq_none (by omega)];intro h;cases h)]
 exact insA_at he
end
theorem drop_at {α:Type}{l:List α}{k:Nat}{a:α}(h:l[k]? = some a):l.drop k=a::l.drop (k+1):=by
 obtain⟨h1,h2⟩:=List.getElem?_eq_some_iff.1 h
 rw [List.drop_eq_getElem_cons h1,h2]
end Go.Ab
