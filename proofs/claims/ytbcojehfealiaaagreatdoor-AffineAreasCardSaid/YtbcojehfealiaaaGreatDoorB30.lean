/- Texts laid one behind the other: TapeR, GwA. -/
import Derived.Test.YtbcojehfealiaaaGreatDoorB28
set_option linter.all false
set_option maxHeartbeats 16000000
namespace Go.Ab
open Go.Proofs
variable [Base]
abbrev iq (x y:Int):Pq:=((x:Rat),(y:Rat))
def Iq (p:Pq):Prop:=∃a b:Int,p=iq a b∧a.natAbs≤1000∧b.natAbs≤1000
theorem Iq.ht {p:Pq}(h:Iq p):Ab.ht p.1≤1∧Ab.ht p.2≤1:=by obtain⟨a,b,rfl,ha,hb⟩:=h;exact⟨xE a ha,xE b hb⟩
def iu (l:List Pq):Prop:=l.length≤6∧(∀p∈l,Iq p)∧3≤(srt l).length∧∀(i:Nat) (a b:Pq),l[i]? = some a→l[(i+1)%l.length]? = some b→a≠b
abbrev ringR:SV:=ex fun l:{l:List Pq // iu l}=>rps l.1
theorem J8 {l:List Pq}{p q r:Pq}(hp:p∈l) (hq:q∈l) (hr:r∈l) (h1:p≠q) (h2:p≠r) (h3:q≠r):3≤(srt l).length:=by
 have hn:[p,q,r].Nodup:=by simp [h1,h2,h3]
 exact tF hn fun x hx=>(Aa l x).2 (by
  simp only [List.mem_cons,List.not_mem_nil,or_false]at hx;rcases hx with rfl|rfl|rfl <;> assumption)
theorem kg {a b c d:Int}:iq a b=iq c d↔a=c∧b=d:=by
 unfold iq;rw [Prod.mk.injEq];constructor
 ·rintro ⟨h1,h2⟩;exact⟨by exact_mod_cast h1,by exact_mod_cast h2⟩
 ·rintro ⟨rfl,rfl⟩;exact⟨rfl,rfl⟩
theorem rg3 {a b c d e f:Int}(ha:a.natAbs≤1000) (hb:b.natAbs≤1000) (hc:c.natAbs≤1000) (hd:d.natAbs≤1000) (he:e.natAbs≤1000) (hf:f.natAbs≤1000) (h1:a≠c∨b≠d) (h2:a≠e∨b≠f) (h3:c≠e∨d≠f):iu [iq a b,iq c d,iq e f]:=by
 have n1:iq a b≠iq c d:=fun h=>by rw [kg]at h;omega
 have n2:iq a b≠iq e f:=fun h=>by rw [kg]at h;omega
 have n3:iq c d≠iq e f:=fun h=>by rw [kg]at h;omega
 refine⟨by simp,fun p hp=>?_,J8 (p:=iq a b) (q:=iq c d) (r:=iq e f) (by simp) (by simp) (by simp) n1 n2 n3,fun i x y hx hy=>?_⟩
 ·simp only [List.mem_cons,List.not_mem_nil,or_false]at hp;rcases hp with rfl|rfl|rfl
  ·exact⟨_,_,rfl,ha,hb⟩
  ·exact⟨_,_,rfl,hc,hd⟩
  ·exact⟨_,_,rfl,he,hf⟩
 ·match i,hx,hy with
  |0,hx,hy=>simp only [List.length_cons,List.length_nil,Nat.reduceAdd,Nat.reduceMod,List.getElem?_cons_zero,List.getElem?_cons_succ,Option.some.injEq]at hx hy;rw [←hx,←hy];exact n1
  |1,hx,hy=>simp only [List.length_cons,List.length_nil,Nat.reduceAdd,Nat.reduceMod,List.getElem?_cons_zero,List.getElem?_cons_succ,Option.some.injEq]at hx hy;rw [←hx,←hy];exact n3
  |2,hx,hy=>simp only [List.length_cons,List.length_nil,Nat.reduceAdd,Nat.reduceMod,List.getElem?_cons_zero,List.getElem?_cons_succ,Option.some.injEq]at hx hy;rw [←hx,←hy];exact n2.symm
theorem rg4 {a b c d:Int}(ha:a.natAbs≤1000) (hb:b.natAbs≤1000) (hc:c.natAbs≤1000) (hd:d.natAbs≤1000) (h1:a≠c) (h2:b≠d):iu [iq a b,iq c b,iq c d,iq a d]:=by
 have n1:iq a b≠iq c b:=fun h=>by rw [kg]at h;omega
 have n2:iq a b≠iq c d:=fun h=>by rw [kg]at h;omega
 have n3:iq c b≠iq c d:=fun h=>by rw [kg]at h;omega
 have n4:iq c d≠iq a d:=fun h=>by rw [kg]at h;omega
 have n5:iq a d≠iq a b:=fun h=>by rw [kg]at h;omega
 refine⟨by simp,fun p hp=>?_,J8 (p:=iq a b) (q:=iq c b) (r:=iq c d) (by simp) (by simp) (by simp) n1 n2 n3,fun i x y hx hy=>?_⟩
 ·simp only [List.mem_cons,List.not_mem_nil,or_false]at hp;rcases hp with rfl|rfl|rfl|rfl
  ·exact⟨_,_,rfl,ha,hb⟩
  ·exact⟨_,_,rfl,hc,hb⟩
  ·exact⟨_,_,rfl,hc,hd⟩
  ·exact⟨_,_,rfl,ha,hd⟩
 ·match i,hx,hy with
  |0,hx,hy=>simp only [List.length_cons,List.length_nil,Nat.reduceAdd,Nat.reduceMod,List.getElem?_cons_zero,List.getElem?_cons_succ,Option.some.injEq]at hx hy;rw [←hx,←hy];exact n1
  |1,hx,hy=>simp only [List.length_cons,List.length_nil,Nat.reduceAdd,Nat.reduceMod,List.getElem?_cons_zero,List.getElem?_cons_succ,Option.some.injEq]at hx hy;rw [←hx,←hy];exact n3
  |2,hx,hy=>simp only [List.length_cons,List.length_nil,Nat.reduceAdd,Nat.reduceMod,List.getElem?_cons_zero,List.getElem?_cons_succ,Option.some.injEq]at hx hy;rw [←hx,←hy];exact n4
  |3,hx,hy=>simp only [List.length_cons,List.length_nil,Nat.reduceAdd,Nat.reduceMod,List.getElem?_cons_zero,List.getElem?_cons_succ,Option.some.injEq]at hx hy;rw [←hx,←hy];exact n5
def chn (l:List Pq):Prop:=∀(i:Nat) (a b:Pq),l[i]? = some a→l[i+1]? = some b→a≠b
theorem G5 {l:List Pq}{p:Pq}(h:chn l) (hp:∀o,l[l.length-1]? = some o→o≠p):chn (l++[p]):=by
 intro i a b ha hb;have hi:i+1<(l++[p]).length:=(List.getElem?_eq_some_iff.1 hb).1;rw [List.length_append,List.length_singleton]at hi;by_cases he:i+1<l.length
 ·rw [List.getElem?_append_left om]at ha;rw [List.getElem?_append_left he]at hb;exact h i a b ha hb
 ·have hl:l.length=i+1:=by omega
  rw [List.getElem?_append_left om]at ha;rw [List.getElem?_append_right om,hl,Nat.sub_self]at hb;simp only [List.getElem?_cons_zero,Option.some.injEq]at hb;rw [←hb];exact hp a (by rw [hl];exact ha)
theorem G4 {l:List Pq}{k:Nat}(h:chn l):chn (l.take k):=by
 intro i a b ha hb;rw [List.getElem?_take]at ha hb;split at ha
 ·split at hb
  ·exact h i a b ha hb
  ·cases hb
 ·cases ha
def shq (l:List Pq):Prop:=l.length≤6∧∀p∈l,Iq p
theorem E4 {l:List Pq}(hs:shq l) (hc:chn l) (h3:3≤(srt l).length) (hl:∀a b,l[0]? = some a→l[l.length-1]? = some b→a≠b):iu l:=by
 refine⟨hs.1,hs.2,h3,fun i a b ha hb=>?_⟩;have hi:i<l.length:=(List.getElem?_eq_some_iff.1 ha).1;by_cases he:i+1<l.length
 ·rw [Nat.mod_eq_of_lt he]at hb;exact hc i a b ha hb
 ·have hl':l.length=i+1:=by omega
  rw [hl',Nat.mod_self]at hb;exact(hl b a hb (by rw [hl'];exact ha)).symm
theorem nab {a b:Int}(ha:a.natAbs≤4) (hb:b.natAbs≤4):(a+b).natAbs≤1000:=by omega
theorem EX {a b c d:Int}(h:b≠0∨d≠0):a≠a+b∨c≠c+d:=by omega
theorem I9 {p q u v u' v':Int}(h:u≠v∨u'≠v'):p+u≠p+v∨q+u'≠q+v':=by omega
theorem ht4 {x:Int}(h:x.natAbs≤4):ht (x:Rat)≤1:=xE x (Nat.le_trans h (by decide))
theorem Bw {a b u v:Int}(ha:a.natAbs≤4) (hb:b.natAbs≤4) (hu:u.natAbs≤4) (hv:v.natAbs≤4):Pu Tryz.prog 119 [rp a b,rq 1,rp u v] (rp ((a+u:Int):Rat) ((b+v:Int):Rat)):=by
 have h:=fun {x:Int}(h:x.natAbs≤4)=>Nat.le_trans (ht4 h) (show 1≤1000000 by decide)
 have a1:=ot a b 1 u v (h ha) (h hb) (by rw [fD];decide) (h hu) (h hv);rwa [show(a:Rat)+1*(u:Rat)=((a+u:Int):Rat) by push_cast;grind,show(b:Rat)+1*(v:Rat)=((b+v:Int):Rat) by push_cast;grind]at a1
theorem D2 {a b u v:Int}(ha:a.natAbs≤4) (hb:b.natAbs≤4) (hu:u.natAbs≤4) (hv:v.natAbs≤4):Pu Tryz.prog 137 [rp a b,rp u v] (rq ((a*v-b*u:Int):Rat))∧Pu Tryz.prog 7 [rq ((a*v-b*u:Int):Rat)] (lit (.int .i64 (a*v-b*u).sign)):=by
 have h:=fun {x:Int}(h:x.natAbs≤4)=>Nat.le_trans (ht4 h) (show 1≤100000 by decide)
 have cc:=lx a b u v (h ha) (h hb) (h hu) (h hv);have m1:=AN ha hv;have m2:=AN hb hu;rw [show(a:Rat)*(v:Rat)-(b:Rat)*(u:Rat)=((a*v-b*u:Int):Rat) by push_cast;rfl]at cc;refine⟨cc,?_⟩;clear cc h ha hb hu hv;generalize a*v=x at *;generalize b*u=y at *;have cs:=kD ((x-y:Int):Rat) (by have:=xE (x-y) om;omega);rwa [Rat.num_intCast]at cs
theorem FY {a b u v:Int}(h0:a*v-b*u≠0):a≠u∨b≠v:=by
 rcases Int.decEq a u with h|h
 ·exact .inl h
 ·rcases Int.decEq b v with h'|h'
  ·exact .inr h'
  ·exfalso;apply h0;rw [h,h',Int.mul_comm];omega
structure LY where
 i:Nat
 l:List Pq
 s:SV
 Hs:LH
theorem Jk {x y:Int}(hx:x.natAbs≤4) (hy:y.natAbs≤4):Iq (iq x y):=⟨x,y,rfl,om,om⟩
theorem L8 {x y:Int}(hx:x.natAbs≤4) (hy:y.natAbs≤4):ht (iq x y).1≤1∧ht (iq x y).2≤1:=⟨xE x om,xE y om⟩
theorem wn (zs:List Int) (hz:zs.length≤400):PuT 84 zs [] ringR:=by
 refine PuM.intro Tryz.func84 rfl kr fun C b=>?_
 repeat(refine A1 ⟨?_⟩;intros)
 refine Wtx (eF zs hz 4 om om) mmA fun k=>?_
 obtain⟨k,hk⟩:=k;simp only [];refine WPL.nil ?_;refine t8 ?_;refine WP.block ?_;refine WP.viaB (fun F H=>LeF F (fm [(0,lit (.pointer (some ⟨b,0,none⟩)))])∧[(b,75,nJ zs)].Sublist H) ?_ ?_
 ·by_cases k0:k=0
  ·subst k0;clear hk;repeat(refine A1 ⟨?_⟩;intros)
   refine Wtx (eF zs hz 5 om om) mmA fun a=>?_
   obtain⟨a,ha⟩:=a;simp only [];repeat(refine A1 ⟨?_⟩;intros)
   refine Wtx (eF zs hz 5 om om) mmA fun a2=>?_
   obtain⟨b',hb'⟩:=a2;simp only [];repeat(refine A1 ⟨?_⟩;intros)
   refine Wtx (eF zs hz 4 om om) mmA fun a3=>?_
   obtain⟨c,hc⟩:=a3;simp only [];repeat(refine A1 ⟨?_⟩;intros)
   refine Wtx (eF zs hz 4 om om) mmA fun a4=>?_
   obtain⟨d,hd⟩:=a4;simp only [];have hR:=rg4 (a:=(a:Int)-4) (b:=(b':Int)-4) (c:=(a:Int)-4+1+c) (d:=(b':Int)-4+1+d) om om om om om om;have c1:=kC ((a:Int)-4) ((b':Int)-4) om om om om;have c2:=kC ((a:Int)-4+1+c) ((b':Int)-4) om om om om;have c3:=kC ((a:Int)-4+1+c) ((b':Int)-4+1+d) om om om om;have c4:=kC ((a:Int)-4) ((b':Int)-4+1+d) om om om om;repeat(refine A1 ⟨?_⟩;intros)
   refine Wcx c1 ?_;repeat(refine A1 ⟨?_⟩;intros)
   refine Wcx c2 ?_;repeat(refine A1 ⟨?_⟩;intros)
   refine Wcx c3 ?_;repeat(refine A1 ⟨?_⟩;intros)
   refine Wcx c4 ?_;refine Wo (ve ct [iq ((a:Int)-4) ((b':Int)-4),iq ((a:Int)-4+1+c) ((b':Int)-4),iq ((a:Int)-4+1+c) ((b':Int)-4+1+d),iq ((a:Int)-4) ((b':Int)-4+1+d)] (r:=[(0,rpx (iq ((a:Int)-4) ((b':Int)-4))),(1,rpx (iq ((a:Int)-4+1+c) ((b':Int)-4))),(2,rpx (iq ((a:Int)-4+1+c) ((b':Int)-4+1+d))),(3,rpx (iq ((a:Int)-4) ((b':Int)-4+1+d)))]) (.pt rfl (.pt rfl (.pt rfl (.pt rfl .nil))))) ?_;repeat(refine A1 ⟨?_⟩;intros)
   exact fh () _ (aJ (RV.tmp rfl) (Le.ex ⟨_,hR⟩ Lr)) mmA (LeL.refl _)
  ·by_cases k1:k=1
   ·subst k1;clear hk;repeat(refine A1 ⟨?_⟩;intros)
    refine Wtx (A7 zs hz) mmA fun p=>?_
    obtain⟨⟨px,py⟩,hpx,hpy⟩:=p;simp only at hpx hpy;simp only [];repeat(refine A1 ⟨?_⟩;intros)
    refine Wtx (J7 zs hz) mmA fun u=>?_
    obtain⟨⟨ux,uy⟩,⟨hux,huy⟩,hu0⟩:=u;simp only at hux huy hu0;simp only [];repeat(refine A1 ⟨?_⟩;intros)
    refine Wtx (J7 zs hz) mmA fun v=>?_
    obtain⟨⟨vx,vy⟩,⟨hvx,hvy⟩,hv0⟩:=v;simp only at hvx hvy hv0;simp only [];obtain⟨cc,cs⟩:=D2 hux huy hvx hvy;by_cases h0:ux*vy-uy*vx=0
    ·rw [h0]at cc cs;clear hu0 hv0 hpx hpy hux huy hvx hvy h0;repeat(first|(refine A1 ⟨?_⟩;intros)|refine W4 cc ⟨?_⟩|refine W4 cs ⟨?_⟩)
     exact⟨lfA,by repeat(first|exact Sr|refine Sc ?_)⟩
    ·have hs0:(ux*vy-uy*vx).sign≠0:=fun e=>h0 (Int.sign_eq_zero_iff_zero.1 e)
     have a1:=Bw hpx hpy hux huy;have a2:=Bw hpx hpy hvx hvy;have hR:=rg3 (a:=px) (b:=py) (c:=px+ux) (d:=py+uy) (e:=px+vx) (f:=py+vy) (Nat.le_trans hpx (by decide)) (Nat.le_trans hpy (by decide)) (nab hpx hux) (nab hpy huy) (nab hpx hvx) (nab hpy hvy) (EX hu0) (EX hv0) (I9 (FY h0));generalize(ux*vy-uy*vx).sign=s at *;generalize ux*vy-uy*vx=z at *;clear h0 hu0 hv0 hpx hpy hux huy hvx hvy;repeat(first|(refine A1 ⟨?_⟩;intros)|refine W4 cc ⟨?_⟩|refine W4 cs ⟨?_⟩)
     repeat(first|(refine gQ mn ?_)|(refine gQ a1 ?_)|(refine gQ a2 ?_)|(refine Wdo (ve ct [iq px py,iq (px+ux) (py+uy),iq (px+vx) (py+vy)] (r:=[(0,rpx (iq px py)),(1,rpx (iq (px+ux) (py+uy))),(2,rpx (iq (px+vx) (py+vy)))]) (.pt rfl (.pt rfl (.pt rfl .nil)))) ?_)|(refine A1 ⟨?_⟩;intros))
     exact fh () _ (aJ (RV.tmp rfl) (Le.ex ⟨_,hR⟩ Lr)) mmA (LeL.refl _)
   ·repeat(refine A1 ⟨?_⟩;intros)
    exact⟨lfA,by repeat(first|exact Sr|refine Sc ?_)⟩
 ·rintro F' H' ⟨hF,hH⟩;refine WP.sub hH (WP.le hF ?_);clear hF hH;repeat(refine A1 ⟨?_⟩;intros)
  refine Wtx (eF zs hz 4 om om) mmA fun n0=>?_
  obtain⟨n0,hn0⟩:=n0;simp only [];repeat(refine A1 ⟨?_⟩;intros)
  refine WP.loopS (ι:=LY) (fun y=>y.l.length+y.i≤6∧chn y.l∧(∀p∈y.l,Iq p)∧Own 70 6 y.l.length (y.l.map rpx).flatten y.s y.Hs) (fun y=>y.i)
   (fun y=>fm [(0,lit (.pointer (some ⟨b,0,none⟩))),(10,y.s),(11,lit (.int .i64 (y.i:Nat)))]) (fun y=>(b,75,nJ zs)::y.Hs) ⟨3+n0,[],lit (.slice none 0 0),[]⟩
   ⟨by simp only [List.length_nil];omega,fun i a b h=>by simp at h,fun p h=>(by cases h),Own.nil _ _⟩ lfA Sr ?_
  rintro ⟨i,l,s,Hs⟩ ⟨hli,hch,hsh,hown⟩ K hK;simp only at hli hch hsh hown⊢;by_cases hi:0<i
  ·have hgo:∀l' s' Hs',l'.length≤l.length+1→chn l'→(∀p∈l',Iq p)→Own 70 6 l'.length (l'.map rpx).flatten s' Hs'→∀F' H',LeF F' (fm [(0,lit (.pointer (some ⟨b,0,none⟩))),(10,s'),(11,lit (.int .i64 ((i-1:Nat):Int)))])→((b,75,nJ zs)::Hs').Sublist H'→K F' H' :=
    fun l' s' Hs' h1 h2 h3 h4 F' H' h5 h6=>hK F' H' ⟨i-1,l',s',Hs'⟩ ⟨by simp only;omega,h2,h3,h4⟩ (by simp only;omega) h5 h6
   clear hK;have hco:=hown.co;by_cases hl0:l.length=0
   ·obtain rfl:=List.eq_nil_of_length_eq_zero hl0;repeat(refine A1 ⟨?_⟩;intros)
    refine Wtx (A7 zs hz) mmA fun p=>?_
    obtain⟨⟨x,y⟩,hx,hy⟩:=p;simp only at hx hy;simp only [];repeat(refine A1 ⟨?_⟩;intros)
    refine Wdo (aE hown rfl) ?_;repeat(refine A1 ⟨?_⟩;intros)
    refine Dj hown (by decide) (fun s2 H2 hown'=>?_);have hown2:Own 70 6 [iq x y].length ([iq x y].map rpx).flatten s2 H2:=hown';have hco2:=hown2.co;have hgo2:=hgo [iq x y] s2 H2 (by simp) (fun i a b h h'=>by cases i <;> simp at h') (fun p hp=>by rw [List.mem_singleton]at hp;subst hp;exact Jk hx hy) hown2;clear hgo hown hown' hown2;simp only [List.cons_append,List.nil_append];repeat(refine A1 ⟨?_⟩;intros)
    exact hgo2 _ _ lfA (by repeat(first|exact Sr|refine Sc ?_))
   ·obtain⟨b2,c2,hnc,hcm,rfl,rfl⟩:=hown.blk om;have hget:=List.getElem?_eq_getElem (show l.length-1<l.length by omega);generalize l[l.length-1]' om=o at hget;have ho:=(hsh o (List.mem_of_getElem? hget)).ht;have hrow:=DW ct (List.replicate (c2*6-l.length*6) top) hget;have eidx:((l.length:Int)-1).toNat*6=(l.length-1)*6:=by omega
    rw [←eidx]at hrow;clear eidx;repeat(refine A1 ⟨?_⟩;intros)
    refine Wtx (A7 zs hz) mmA fun p=>?_
    obtain⟨⟨x,y⟩,hx,hy⟩:=p;simp only at hx hy;simp only [];have hp:=L8 hx hy;have c:=qY o.1 o.2 (iq x y).1 (iq x y).2 om om om om;by_cases hop:o=iq x y
    ·rw [decide_eq_true (show o.1=(iq x y).1∧o.2=(iq x y).2 by rw [hop];exact⟨rfl,rfl⟩)]at c;have hgo2:=hgo l _ _ om hch hsh hown;clear hgo hown hch hsh hget ho hp hop;repeat(refine A1 ⟨?_⟩;intros)
     refine cT (eS rfl mmA hrow (by exact rfl)) ?_;repeat(first|(refine A1 ⟨?_⟩;intros)|refine W4 c ⟨?_⟩)
     exact hgo2 _ _ lfA (by repeat(first|exact Sr|refine Sc ?_))
    ·rw [decide_eq_false (show¬(o.1=(iq x y).1∧o.2=(iq x y).2)from fun e=>hop (Prod.ext e.1 e.2))]at c;have hch2:=G5 (p:=iq x y) hch (fun a ha=>by rw [hget]at ha;cases ha;exact hop)
     have hgo2:=fun s' Hs'=>hgo (l++[iq x y]) s' Hs' (by simp) hch2 (fun p hp'=>by
      rcases List.mem_append.1 hp' with h|h
      ·exact hsh p h
      ·rw [List.mem_singleton]at h;subst h;exact Jk hx hy)
     clear hgo hch hsh hget ho hp hop hch2;repeat(refine A1 ⟨?_⟩;intros)
     refine cT (eS rfl mmA hrow (by exact rfl)) ?_;repeat(first|(refine A1 ⟨?_⟩;intros)|refine W4 c ⟨?_⟩)
     refine Dj hown om (fun s2 H2 hown'=>?_)
     have hown2:Own 70 6 (l++[iq x y]).length ((l++[iq x y]).map rpx).flatten s2 H2:=by
      rw [List.length_append,List.length_singleton,List.map_append,List.flatten_append];exact hown'
     have hco2:=hown2.co;replace hgo2:=hgo2 s2 H2 hown2;clear hown hown' hown2;simp only [List.cons_append,List.nil_append];repeat(refine A1 ⟨?_⟩;intros)
     exact hgo2 _ _ lfA (by repeat(first|exact Sr|refine Sc ?_))
  ·have hi0:i=0:=by omega
   subst hi0;have hl6:l.length≤6:=by omega
   clear hK hli hi;refine WP.rowS 10 hown rfl (show([(b,75,nJ zs)]++Hs).Perm _ from List.perm_append_comm) ?_;clear hown;have t0:=kC 0 0 (by decide) (by decide) (by decide) (by decide);have t1:=kC 2 0 (by decide) (by decide) (by decide) (by decide);have t2:=kC 0 2 (by decide) (by decide) (by decide) (by decide);have hT:=rg3 (a:=0) (b:=0) (c:=2) (d:=0) (e:=0) (f:=2) (by decide) (by decide) (by decide) (by decide) (by decide) (by decide) (by decide) (by decide) (by decide);repeat(refine A1 ⟨?_⟩;intros)
   refine WP.loopS (ι:=List Pq) (fun y=>chn y∧y.length≤6∧∀p∈y,Iq p) (fun y=>y.length) (fun y=>fm [(0,lit (.pointer (some ⟨b,0,none⟩))),(10,rps y)]) (fun y=>[(b,75,nJ zs)]) l
    ⟨hch,hl6,hsh⟩ lfA Sr ?_
   clear hch hl6 hsh;rintro l ⟨hch,hl6,hsh⟩ K hK;have hfl:=cJ ct l;have cs:=BK l om (fun p hp=>by have:=(hsh p hp).ht;omega);have hsl:=Ac l;by_cases h1:1<l.length
   ·have hget:=List.getElem?_eq_getElem (show l.length-1<l.length by omega);generalize l[l.length-1]' om=o at hget;have ho:=(hsh o (List.mem_of_getElem? hget)).ht;have hat:=dJ (f:=rpx) (n:=6) ct hget;have hget0:=List.getElem?_eq_getElem (show 0<l.length by omega);generalize l[0]' om=a at hget0;have ha:=(hsh a (List.mem_of_getElem? hget0)).ht;have hat0:=dJ (f:=rpx) (n:=6) ct hget0;have hne:(l.map rpx).flatten≠[]:=eI ct om (fun e=>by rw [e]at h1;simp at h1);have eidx:((l.length:Int)-1).toNat*6=(l.length-1)*6:=by omega
    rw [←eidx]at hat;clear eidx;have c:=qY a.1 a.2 o.1 o.2 om om om om;by_cases hao:a=o
    ·rw [decide_eq_true (show a.1=o.1∧a.2=o.2 by rw [hao];exact⟨rfl,rfl⟩)]at c;have hgo:=fun F' H'=>hK F' H' (l.take (l.length-1)) ⟨G4 hch,by rw [List.length_take];omega,fun p hp=>hsh p (List.mem_of_mem_take hp)⟩ (by rw [List.length_take];omega)
     have hft:=ua ct l (l.length-1);have hrp:rps (l.take (l.length-1))=sl ((l.take (l.length-1)).map rpx).flatten (l.length-1):=congrArg (fun n:Nat=>sl ((l.take (l.length-1)).map rpx).flatten n) (show(l.take (l.length-1)).length=l.length-1 by rw [List.length_take];omega);clear hK hch hsh hget hget0 ho ha hao cs hsl t0 t1 t2;repeat(refine A1 ⟨?_⟩;intros)
     refine cT (aa (cs':=rpx a) rfl rfl om om hat0 hne) ?_;repeat(refine A1 ⟨?_⟩;intros)
     refine cT (aa (cs':=rpx o) rfl rfl om om hat hne) ?_;repeat(first|(refine A1 ⟨?_⟩;intros)|refine W4 c ⟨?_⟩)
     refine Wo (JW (l.length-1) rfl rfl om om) ?_;rw [hft,←hrp];repeat(refine A1 ⟨?_⟩;intros)
     exact hgo _ _ lfA Sr
    ·rw [decide_eq_false (show¬(a.1=o.1∧a.2=o.2)from fun e=>hao (Prod.ext e.1 e.2))]at c;by_cases h3:(srt l).length<3
     ·clear hK hch hsh hget hget0 ho ha hao hfl;repeat(refine A1 ⟨?_⟩;intros)
      refine cT (aa (cs':=rpx a) rfl rfl om om hat0 hne) ?_;repeat(refine A1 ⟨?_⟩;intros)
      refine cT (aa (cs':=rpx o) rfl rfl om om hat hne) ?_;repeat(first|(refine A1 ⟨?_⟩;intros)|refine W4 c ⟨?_⟩|refine W4 cs ⟨?_⟩|refine W4 t0 ⟨?_⟩|refine W4 t1 ⟨?_⟩)
      refine Wcx t2 ?_;refine Wo (ve ct [iq 0 0,iq 2 0,iq 0 2] (r:=[(0,rpx (iq 0 0)),(1,rpx (iq 2 0)),(2,rpx (iq 0 2))]) (.pt rfl (.pt rfl (.pt rfl .nil)))) ?_;repeat(refine A1 ⟨?_⟩;intros)
      exact fh () _ (aJ (RV.tmp rfl) (Le.ex ⟨_,hT⟩ Lr)) mmA (LeL.refl _)
     ·have hR:=E4 ⟨hl6,hsh⟩ hch om (fun x y hx hy=>by rw [hget0]at hx;rw [hget]at hy;cases hx;cases hy;exact hao);clear hK hch hsh hget hget0 ho ha hao hfl t0 t1 t2;repeat(refine A1 ⟨?_⟩;intros)
      refine cT (aa (cs':=rpx a) rfl rfl om om hat0 hne) ?_;repeat(refine A1 ⟨?_⟩;intros)
      refine cT (aa (cs':=rpx o) rfl rfl om om hat hne) ?_;repeat(first|(refine A1 ⟨?_⟩;intros)|refine W4 c ⟨?_⟩|refine W4 cs ⟨?_⟩)
      exact fh () _ (aJ (RV.tmp rfl) (Le.ex ⟨l,hR⟩ Lr)) mmA (LeL.refl _)
   ·have h3:(srt l).length<3:=by omega
    clear hK hch hsh hfl;repeat(first|(refine A1 ⟨?_⟩;intros)|refine W4 cs ⟨?_⟩|refine W4 t0 ⟨?_⟩|refine W4 t1 ⟨?_⟩)
    refine Wcx t2 ?_;refine Wo (ve ct [iq 0 0,iq 2 0,iq 0 2] (r:=[(0,rpx (iq 0 0)),(1,rpx (iq 2 0)),(2,rpx (iq 0 2))]) (.pt rfl (.pt rfl (.pt rfl .nil)))) ?_;repeat(refine A1 ⟨?_⟩;intros)
    exact fh () _ (aJ (RV.tmp rfl) (Le.ex ⟨_,hT⟩ Lr)) mmA (LeL.refl _)
theorem iu.ht {l:List Pq}(h:iu l):∀p∈l,Ab.ht p.1≤1∧Ab.ht p.2≤1:=fun p hp=>(h.2.1 p hp).ht
abbrev lqx (l:Li):List SV:=[lit (.bool (decide (l.a<0))),nat l.a.natAbs,lit (.bool (decide (l.b<0))),nat l.b.natAbs,lit (.bool (decide (l.c<0))),nat l.c.natAbs]
theorem fq (l:Li):(lqx l).length=6:=rfl
abbrev lqs (l:List Li):SV:=sl (l.map lqx).flatten l.length
abbrev yj:List SV:=[lit (.bool false),lit (.slice none 0 0),lit (.slice none 0 0),lit (.bool false),lit (.slice none 0 0),lit (.slice none 0 0)]
theorem yk:LeL yj (rpx (0,0)):=⟨Le.refl _,mu,mv,Le.refl _,mu,mv,trivial⟩
theorem Li.sm.ile {l:Li}(h:l.sm):l.le 1000000:=h.2.gr om
theorem oU {l:Li}{p:Pq}(h:l.sm) (k:hp p 100000):Pu Tryz.prog 233 [lq l,ag (rpx p)] (rq (a8 l p)):=by
 obtain⟨h1,h2,h3⟩:=h.ht;obtain⟨k1,k2⟩:=k;have:=ae (l.a:Rat) p.1;have:=ae (l.b:Rat) p.2;have:=aI ((l.a:Rat)*p.1) ((l.b:Rat)*p.2);have c1:=fL l.a;have c2:=fL l.b;have c3:=fL l.c;have c4:=aX (l.a:Rat) p.1 om om;have c5:=aX (l.b:Rat) p.2 om om;have c6:=eK ((l.a:Rat)*p.1) ((l.b:Rat)*p.2) om om;have c7:=eK ((l.a:Rat)*p.1+(l.b:Rat)*p.2) (l.c:Rat) om om;unfold a8;refine Pi Tryz.func233 fun C=>?_
 repeat(first|(refine A1 ⟨?_⟩;intros)|refine W4 c1 ⟨?_⟩|refine W4 c2 ⟨?_⟩|refine W4 c3 ⟨?_⟩|refine W4 c4 ⟨?_⟩|refine W4 c5 ⟨?_⟩|refine W4 c6 ⟨?_⟩|refine W4 c7 ⟨?_⟩)
 exact G1
theorem nO {l:Li}{p:Pq}(h:l.sm) (k:hp p 100000):Pu Tryz.prog 231 [lq l,ag (rpx p)] (lit (.int .i64 (cW l p))):=by
 have:=uB h k;have c1:=oU h k;have c2:=kD (a8 l p) om;unfold cW;refine Pi Tryz.func231 fun C=>?_
 exact Y2 c1 c2
theorem E9 {l:Li}{t:Rat}(h:l.sm) (k:ht t≤100000):Pu Tryz.prog 68 [lq l,rq t] (ag (rpx (atL l t))):=by
 obtain⟨b1,b2⟩:=oJ h;obtain⟨d1,d2⟩:=dC h;have c1:=rd h.1 h.2;have c2:=iQ l h.ile;have c3:=ot (aD l).1 (aD l).2 t (dirL l).1 (dirL l).2 om om om om om;refine Pi Tryz.func68 fun C=>?_
 repeat(first|(refine A1 ⟨?_⟩;intros)|refine W4 c1 ⟨?_⟩|refine W4 c2 ⟨?_⟩|refine W4 c3 ⟨?_⟩)
 exact G1
theorem FU {l:Li}(h:l.ok):oA (dirL l) (dirL l)≠0:=fun e=>by
 have hn:=Li.n_pos h;unfold oA dirL at e;rw [show(l.b:Rat)*l.b + -(l.a:Rat) * -(l.a:Rat)=0 from e]at hn;exact absurd hn (by decide)
theorem lr {l:Li}{p:Pq}(h:l.sm) (k:hp p 100000):Pu Tryz.prog 232 [lq l,ag (rpx p)] (rq (bo l p)):=by
 have h1:=qq k (dC h);have h2:=qq (dC h) (dC h);obtain⟨d1,d2⟩:=dC h;obtain⟨k1,k2⟩:=k;have m1:=ae p.1 (dirL l).1;have m2:=ae p.2 (dirL l).2;have m3:=ae (dirL l).1 (dirL l).1;have m4:=ae (dirL l).2 (dirL l).2;have hne:(oA (dirL l) (dirL l)).num≠0:=fun e=>FU h.1 (Rat.num_eq_zero.1 e)
 have c1:=iQ l h.ile;have c2:=uP p.1 p.2 (dirL l).1 (dirL l).2 om om om om om om;have c3:=uP (dirL l).1 (dirL l).2 (dirL l).1 (dirL l).2 om om om om om om;have c4:=jA (oA p (dirL l)) (oA (dirL l) (dirL l)) om om hne;refine Pi Tryz.func232 fun C=>?_
 repeat(first|(refine A1 ⟨?_⟩;intros)|refine W4 c1 ⟨?_⟩|refine W4 c2 ⟨?_⟩|refine W4 c3 ⟨?_⟩|refine W4 c4 ⟨?_⟩)
 exact G1
theorem jW (a b:Int) (ha:il a≤1000000) (hb:il b≤1000000):Pu Tryz.prog 224 [int a,int b] (lit (.int .i64 (a + -b).sign)):=by
 have h1:=cH b;have h2:=pm a (-b);unfold il at *;have c1:=io b om;have c2:=re a (-b) om om;have c3:=lp (a + -b) om;refine Pi Tryz.func224 fun C=>?_
 exact Y3 c1 c2 c3
theorem r9 {l m:Li}(h:l.le 1000000) (k:m.le 1000000):Pu Tryz.prog 178 [lq l,lq m] (lit (.int .i64 (kz l m))):=by
 have c1:=jW l.a m.a h.a k.a;have c2:=jW l.b m.b h.b k.b;have c3:=jW l.c m.c h.c k.c;unfold kz;clear h k;generalize(l.a + -m.a).sign=s1 at *;generalize(l.b + -m.b).sign=s2 at *;generalize(l.c + -m.c).sign=s3 at *;by_cases h1:s1=0
 ·rw [if_neg (fun k=>k h1)];by_cases h2:s2=0
  ·rw [if_neg (fun k=>k h2)];refine Pi Tryz.func178 fun C=>?_
   exact Y3 c1 c2 c3
  ·rw [if_pos h2];refine Pi Tryz.func178 fun C=>?_
   exact Y3 c1 c2 c3
 ·rw [if_pos h1];refine Pi Tryz.func178 fun C=>?_
  exact Y3 c1 c2 c3
theorem C5 {l:Li}(h:l.le 1000000):Pu Tryz.prog 177 [lq l] (Ab.tup [lq (gt l),lit (.bool (IR l))]):=by
 have c1:=qe l h;have c2:=lp l.a (by have:=h.a;unfold il at this;omega);have c3:=lp l.b (by have:=h.b;unfold il at this;omega);unfold gt IR;clear h;rcases Int.lt_trichotomy l.a 0 with h1|h1|h1
 ·rw [decide_eq_true (.inl h1),if_pos rfl];have:=Int.sign_eq_neg_one_of_neg h1;rw [this]at c2;refine Pi Tryz.func177 fun C=>?_
  repeat(first|(refine A1 ⟨?_⟩;intros)|refine W4 c2 ⟨?_⟩|refine W4 c1 ⟨?_⟩)
  exact G3
 ·rw [show l.a.sign=0 from Int.sign_eq_zero_iff_zero.2 h1]at c2;by_cases h2:l.b<0
  ·rw [decide_eq_true (.inr ⟨h1,h2⟩),if_pos rfl];rw [Int.sign_eq_neg_one_of_neg h2]at c3;refine Pi Tryz.func177 fun C=>?_
   repeat(first|(refine A1 ⟨?_⟩;intros)|refine W4 c2 ⟨?_⟩|refine W4 c3 ⟨?_⟩|refine W4 c1 ⟨?_⟩)
   exact G3
  ·rw [decide_eq_false om];have hs:¬l.b.sign<0:=fun k=>h2 (Int.sign_neg_iff.1 k)
   generalize l.b.sign=s at *;clear h2;refine Pi Tryz.func177 fun C=>?_
   repeat(first|(refine A1 ⟨?_⟩;intros)|refine W4 c2 ⟨?_⟩|refine W4 c3 ⟨?_⟩|refine W4 c1 ⟨?_⟩)
   exact G3
 ·rw [decide_eq_false om];rw [Int.sign_eq_one_of_pos h1]at c2;refine Pi Tryz.func177 fun C=>?_
  repeat(first|(refine A1 ⟨?_⟩;intros)|refine W4 c2 ⟨?_⟩|refine W4 c1 ⟨?_⟩)
  exact G3
theorem wG {l m:Li}(h:l.sm) (k:m.sm):Pu Tryz.prog 67 [lq l,lq m] (Ab.tup [ag (rpx ((rK l m).getD (0,0))),lit (.bool (rK l m).isSome)]):=by
 have hd:=Bk h k;obtain⟨h1,h2,h3⟩:=h.ht;obtain⟨k1,k2,k3⟩:=k.ht;have m1:=ae (l.a:Rat) m.b;have m2:=ae (m.a:Rat) l.b;have m3:=ae (l.b:Rat) m.c;have m4:=ae (m.b:Rat) l.c;have m5:=ae (m.a:Rat) l.c;have m6:=ae (l.a:Rat) m.c;have s1:=cI ((l.b:Rat)*m.c) (m.b*l.c);have s2:=cI ((m.a:Rat)*l.c) (l.a*m.c);have q1:=fL l.a;have q2:=fL l.b;have q3:=fL l.c;have q4:=fL m.a;have q5:=fL m.b;have q6:=fL m.c;have t1:=aX (l.a:Rat) m.b om om;have t2:=aX (m.a:Rat) l.b om om;have u1:=eh ((l.a:Rat)*m.b) ((m.a:Rat)*l.b) om om;rw [show(l.a:Rat)*m.b-(m.a:Rat)*l.b=bH l m from rfl]at u1;have s:=kD (bH l m) om;unfold rK;by_cases hz:bH l m=0
 ·rw [if_pos hz];rw [bB.2 hz]at s;clear h h1 h2 h3 k k1 k2 k3 m1 m2 m3 m4 m5 m6 s1 s2 hd hz;refine Pi Tryz.func67 fun C=>?_
  repeat(first|(refine A1 ⟨?_⟩;intros)|refine W4 q1 ⟨?_⟩|refine W4 q2 ⟨?_⟩|refine W4 q3 ⟨?_⟩|refine W4 q4 ⟨?_⟩|refine W4 q5 ⟨?_⟩|refine W4 q6 ⟨?_⟩|refine W4 t1 ⟨?_⟩|refine W4 t2 ⟨?_⟩|refine W4 u1 ⟨?_⟩|refine W4 s ⟨?_⟩)
  ((first|refine aS ?_|refine eV ?_);exact fF (s1:=ag yj) RVa (RV.tmp rfl) (Le.tup2 (Le.ag yk) Lr))
 ·rw [if_neg hz];have hs:¬(bH l m).num.sign=0:=fun e=>hz (bB.1 e)
  have hn:(bH l m).num≠0:=fun e=>hz (Rat.num_eq_zero.1 e)
  have t3:=aX (l.b:Rat) m.c om om;have t4:=aX (m.b:Rat) l.c om om;have t5:=aX (m.a:Rat) l.c om om;have t6:=aX (l.a:Rat) m.c om om;have u2:=eh ((l.b:Rat)*m.c) ((m.b:Rat)*l.c) om om;have u3:=eh ((m.a:Rat)*l.c) ((l.a:Rat)*m.c) om om;have o1:=jA ((l.b:Rat)*m.c-(m.b:Rat)*l.c) (bH l m) om om hn;have o2:=jA ((m.a:Rat)*l.c-(l.a:Rat)*m.c) (bH l m) om om hn;clear h h1 h2 h3 k k1 k2 k3 m1 m2 m3 m4 m5 m6 s1 s2 hd hz hn;generalize(bH l m).num.sign=z at *;simp only [Option.getD_some,Option.isSome_some];unfold aY;refine Pi Tryz.func67 fun C=>?_
  repeat(first|(refine A1 ⟨?_⟩;intros)|refine W4 q1 ⟨?_⟩|refine W4 q2 ⟨?_⟩|refine W4 q3 ⟨?_⟩|refine W4 q4 ⟨?_⟩|refine W4 q5 ⟨?_⟩|refine W4 q6 ⟨?_⟩|refine W4 t1 ⟨?_⟩|refine W4 t2 ⟨?_⟩|refine W4 u1 ⟨?_⟩|refine W4 s ⟨?_⟩|refine W4 t3 ⟨?_⟩|refine W4 t4 ⟨?_⟩|refine W4 t5 ⟨?_⟩|refine W4 t6 ⟨?_⟩|refine W4 u2 ⟨?_⟩|refine W4 u3 ⟨?_⟩|refine W4 o1 ⟨?_⟩|refine W4 o2 ⟨?_⟩)
  exact G3
theorem wJ (v:Pq) (h:hp v 1000000):Pu Tryz.prog 236 [ag (rpx v)] (lit (.int .i64 (j6 v))):=by
 obtain⟨h1,h2⟩:=h;have c1:=kD v.1 om;have c2:=kD v.2 om;have e:=tU v;rw [e];generalize v.1.num.sign=x at *;generalize v.2.num.sign=y at *;clear e h1 h2;by_cases a1:x=0
 ·by_cases a2:y=0
  ·rw [if_pos ⟨a1,a2⟩];refine Pi Tryz.func236 fun C=>?_
   exact Y2 c1 c2
  ·rw [if_neg om];by_cases a3:0<y
   ·rw [if_pos (.inl a3)];refine Pi Tryz.func236 fun C=>?_
    exact Y2 c1 c2
   ·rw [if_neg om];refine Pi Tryz.func236 fun C=>?_
    exact Y2 c1 c2
 ·rw [if_neg om];by_cases a3:0<y
  ·rw [if_pos (.inl a3)];refine Pi Tryz.func236 fun C=>?_
   exact Y2 c1 c2
  ·by_cases a4:y=0
   ·by_cases a5:0<x
    ·rw [if_pos (.inr ⟨a4,a5⟩)];refine Pi Tryz.func236 fun C=>?_
     exact Y2 c1 c2
    ·rw [if_neg om];refine Pi Tryz.func236 fun C=>?_
     exact Y2 c1 c2
   ·rw [if_neg om];refine Pi Tryz.func236 fun C=>?_
    exact Y2 c1 c2
theorem C7 (u v:Pq) (h:hp u 40000) (k:hp v 40000):Pu Tryz.prog 196 [ag (rpx u),ag (rpx v)] (lit (.int .i64 (mw u v))):=by
 have hx:=lV h k;obtain⟨h1,h2⟩:=h;obtain⟨k1,k2⟩:=k;have c1:=wJ u ⟨om,om⟩;have c2:=wJ v ⟨om,om⟩;have c3:=lx u.1 u.2 v.1 v.2 om om om om;have c4:=kD (a9 u v) om;have hs : -1≤(a9 u v).num.sign∧(a9 u v).num.sign≤1:=by have:=Int.sign_trichotomy (a9 u v).num;omega
 unfold mw;rw [show u.1*v.2-u.2*v.1=a9 u v from rfl]at c3;generalize j6 u=a at *;generalize j6 v=b at *;clear h1 h2 k1 k2;by_cases e:a=b
 ·rw [if_neg (fun k=>k e)];clear hx;generalize(a9 u v).num.sign=z at *;refine Pi Tryz.func196 fun C=>?_
  repeat(first|(refine A1 ⟨?_⟩;intros)|refine W4 c1 ⟨?_⟩|refine W4 c2 ⟨?_⟩|refine W4 c3 ⟨?_⟩|refine W4 c4 ⟨?_⟩)
  exact E1
 ·rw [if_pos e];by_cases f:a<b
  ·rw [if_pos f];clear hx hs;refine Pi Tryz.func196 fun C=>?_
   exact Y2 c1 c2
  ·rw [if_neg f];clear hx hs;refine Pi Tryz.func196 fun C=>?_
   exact Y2 c1 c2
theorem yH (a b c:Pq) (h:hp a 1000) (k:hp b 1000) (j:hp c 1000):Pu Tryz.prog 258 [ag (rpx a),ag (rpx b),ag (rpx c)] (lit (.int .i64 (lM a b c))):=by
 obtain⟨h1,h2⟩:=h;obtain⟨k1,k2⟩:=k;obtain⟨j1,j2⟩:=j;have m1:=cI b.1 a.1;have m2:=cI b.2 a.2;have m3:=cI c.1 a.1;have m4:=cI c.2 a.2;have c1:=uL b.1 b.2 a.1 a.2 om om om om;have c2:=uL c.1 c.2 a.1 a.2 om om om om;have c3:=lx (b.1-a.1) (b.2-a.2) (c.1-a.1) (c.2-a.2) om om om om;have hx:=lV (p:=(b.1-a.1,b.2-a.2)) (q:=(c.1-a.1,c.2-a.2)) (n:=2001) (m:=2001) ⟨by simp only;omega,by simp only;omega⟩ ⟨by simp only;omega,by simp only;omega⟩;have c4:=kD (a9 (b.1-a.1,b.2-a.2) (c.1-a.1,c.2-a.2)) om;unfold lM;refine Pi Tryz.func258 fun C=>?_
 repeat(first|(refine A1 ⟨?_⟩;intros)|refine W4 c1 ⟨?_⟩|refine W4 c2 ⟨?_⟩|refine W4 c3 ⟨?_⟩|refine W4 c4 ⟨?_⟩)
 exact E1
end Go.Ab
