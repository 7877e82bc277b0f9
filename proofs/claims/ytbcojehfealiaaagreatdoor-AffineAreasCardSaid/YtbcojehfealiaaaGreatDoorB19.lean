/- Texts laid one behind the other: RTreeW, RTreeS, LateC, TreeB, AffT, GmB, CvxE, CvxI, CvxR. -/
import Derived.Test.YtbcojehfealiaaaGreatDoorB18
set_option linter.all false
namespace Go.Ab
open Go.Proofs
variable [Base]
theorem yA:∀(t:Tr) (_:t.all fun l=>l.le 1000000) (n0:Nat) (cs:List SV) (s:SV) (Hs:LH) (_:Own 145 8 n0 cs s Hs) (_:n0+t.size≤1000000),
  PuH Tryz.prog 35 [rt t,s] Hs
   (fun r H=>∃s',Own 145 8 (n0+t.size) (cs++t.rows n0) s' H∧r=Ab.tup [s',lit (.int .i64 (t.root n0))]) noX:=by
 intro t;induction t with
 |leaf i =>
  intro _ n0 cs s Hs hown _
  have hfin:Own 145 8 (n0+(Tr.leaf i).size) (cs++(Tr.leaf i).rows n0) s Hs:=by
   simpa [Tr.size,Tr.rows] using hown
  unfold rt at *;rw [lz]at *;haveI:=hown.co
  cases i with
  |true =>
   refine PuH.intro Tryz.func35 rfl kr fun C hC=>?_
   repeat(refine A1 ⟨?_⟩;intros)
   exact eN _ _ (fF (RV.tmp rfl) (RV.tmp rfl) Lr) Sr ⟨_,hfin,rfl⟩
  |false =>
   refine PuH.intro Tryz.func35 rfl kr fun C hC=>?_
   repeat(refine A1 ⟨?_⟩;intros)
   exact eN _ _ (fF (RV.tmp rfl) (RV.tmp rfl) Lr) Sr ⟨_,hfin,rfl⟩
 |node l a b iha ihb =>
  intro hall n0 cs s Hs hown hsz;obtain⟨hl,hla,hlb⟩:=hall;have c2:=JB l hl;haveI:=hown.co
  rw [Tr.size_node]at hsz;unfold rt at *;rw [ly]at *;refine PuH.intro Tryz.func35 rfl kr fun C hC=>?_
  repeat(refine A1 ⟨?_⟩;intros)
  refine Wo (aE hown rfl) ?_;repeat(first|(refine A1 ⟨?_⟩;intros)|refine W4 c2 ⟨?_⟩)
  refine Dj hown om (fun s1 H1 o1=>?_);have o1':=o1;obtain⟨_,⟨h1,_⟩|⟨b1,k1,_,_,rfl,rfl⟩⟩:=o1
  ·omega
  simp only [List.cons_append,List.nil_append];repeat(refine A1 ⟨?_⟩;intros)
  refine WfT (iha hla (n0+1) _ _ _ o1' om) ?_;rintro _ _ ⟨s2,o2,rfl⟩;have o2':=o2;obtain⟨_,⟨h2,_⟩|⟨b2,k2,_,_,rfl,rfl⟩⟩:=o2
  ·omega
  simp only [List.cons_append,List.nil_append];repeat(refine A1 ⟨?_⟩;intros)
  refine WfT (ihb hlb (n0+1+a.size) _ _ _ o2' om) ?_;rintro _ _ ⟨s3,o3,rfl⟩;obtain⟨hlen,⟨h0,_⟩|⟨b3,c3,hc3,hm3,rfl,rfl⟩⟩:=o3
  ·omega
  have hcl:=hown.1;simp only [List.append_assoc,List.cons_append,List.nil_append];repeat(refine A1 ⟨?_⟩;intros)
  refine WPL.store (b:=b3) (o:=0+n0*8+6) (sv:=lit (.int .i64 (a.root (n0+1)))) rfl rfl rfl (.there _ (.here _)) (wz hcl) (qy hcl (by decide)) ?_;repeat(refine A1 ⟨?_⟩;intros)
  refine WPL.store (b:=b3) (o:=0+n0*8+7) (sv:=lit (.int .i64 (b.root (n0+1+a.size)))) rfl rfl rfl (.there _ (.here _)) (wy hcl) (qy hcl (by decide)) ?_;repeat(refine A1 ⟨?_⟩;intros)
  refine eN _ _ (fF (RV.tmp rfl) (RV.tmp rfl) Lr) (Sc Sr) ⟨lit (.slice (some ⟨b3,0,none⟩) (n0+1+a.size+b.size) c3),⟨?_, .inr ⟨b3,c3,?_,hm3,?_,?_⟩⟩,rfl⟩
  ·rw [List.length_append,hown.1,Tr.rows_len,Nat.add_mul]
  ·rw [Tr.size_node];omega
  ·rw [show n0+(Tr.node l a b).size=n0+1+a.size+b.size from by rw [Tr.size_node];omega]
  ·rw [show n0+(Tr.node l a b).size=n0+1+a.size+b.size from by rw [Tr.size_node];omega];simp only [Tr.rows,nd,List.append_assoc,List.cons_append,List.nil_append]
theorem BR (t:Tr) (hall:t.all fun l=>l.le 1000000) (hsz:t.size≤1000000):Pu Tryz.prog 11 [rt t] (tq t):=by
 have c:=yA t hall 0 [] _ [] (Own.nil 145 8) om;refine Pi Tryz.func11 fun C=>?_
 repeat(refine A1 ⟨?_⟩;intros)
 refine WfT c ?_;rintro _ _ ⟨s',ho,rfl⟩;simp only [List.cons_append,List.nil_append,Nat.zero_add]at ho⊢;obtain⟨hlen,⟨h0,rfl,rfl⟩|⟨b,cc,h1,h2,rfl,rfl⟩⟩:=ho
 ·have hr:t.rows 0=[]:=List.eq_nil_of_length_eq_zero (by rw [hlen,h0])
  have hle:Le (lit (.slice none 0 0)) (sl (t.rows 0) t.size):=fun m v hv=>by
   rw [aq]at hv;subst hv;rw [hr,h0];exact f4 (Nat.le_refl _) (by decide) (.inl rfl)
  repeat(refine A1 ⟨?_⟩;intros)
  exact aS (aJ (RV.cellA (cs':=[lit (.int .i64 (t.root 0)),lit (.slice none 0 0)]) rfl mmA rfl rfl) (Le.ag ⟨Le.refl _,hle,trivial⟩))
 ·(refine O1 ⟨?_⟩;intros)
  (refine O1 ⟨?_⟩;intros)
  refine WPL.pub (d:=7) (s':=sl (t.rows 0) t.size) (.there _ (.there _ (.here _))) rfl (fun m arr hm ha=>uT hm ha h1 h2) ?_;exact Z2
section
variable {P:Program}{C:Ctx}{n:Nat}{F Fe:Fr}{H:LH}{ops:Array Oper}
theorem Dq {o:Oper}{a:Act}{w:World}{next:Act→World→Prop}{Q Q':Exit→Act→World→Prop}(hp:∀c a w,Q' (.panic c) a w→Q (.panic c) a w) (ho:∀a w,Q' .outgrown a w→Q .outgrown a w) (h:o.wp P a w next Q'):o.wp P a w next Q:=by
 unfold Oper.wp at *;generalize(execOp a.eval o).run P w=r at *;cases r with
 |ok n w' =>
  cases n <;> simp only [Oper.upon]at h⊢<;>
   first
    |exact h
    |exact Calls.mono h (fun e w'' he=>by cases e <;> first|exact he|exact hp _ _ _ he|exact he.imp fun a h=>h.imp fun w h=>ho a w h)
 |halt x w'=>cases x <;> simp only [Oper.upon]at h⊢<;> first|exact hp _ _ _ h|exact h
theorem TS.ofWPL {i:Nat}{o:Oper}{sv:SV}{H':LH}(ho:ops[i]? = some o) (h:∀F,(∀t,t∈o.looksAt ops→Fe t=F t)→WPL P ⟨C.ks,C.m,C.w,noX,C.dfs⟩ n ops [o] (fun F' H2=>F'=dB o F sv∧H2=H') F H):TS P C n ops i o Fe H sv H':=by
 intro F hF a w hst Q' K' hK';have h1:=h F hF;unfold WPL at h1
 have h2:=h1 a w hst (fun e a w=>match e with
  | .normal=>K' a w
  | .panic c=>Q' (.panic c) a w
  | .outgrown=>Q' .outgrown a w
  |_=>False) ⟨fun a' w' F' H2 hs' hk=>by
   obtain⟨rfl,rfl⟩:=hk;exact hK' a' w' hs',fun ch a' w' hp=>by obtain⟨_,_,_,_,_,_,_,_,_,_,_,hf⟩:=hp;exact hf.elim⟩
 unfold wpOp;simp only [ho];unfold wpList at h2;split
 ·rename_i hw;rw [if_pos hw]at h2;rcases h2 with h2|h2
  ·exact .inl (Dq (fun _ _ _ h=>h) (fun _ _ h=>h) h2)
  ·exact .inr ⟨h2.1,h2.2⟩
 ·rename_i hw;rw [if_neg hw]at h2;exact h2
theorem TS.callH {i d:Nat}{f:FuncId}{l:List Operand}{tys:Array TypeId}{ty:TypeId}{pos:String}{aft:Array Edge}{svs:List SV}{Hin Hout Rs:LH}{res:SV}(ho:ops[i]? = some ⟨some d, .call ⟨.value (.func f),l.toArray,tys⟩,ty,pos,aft,none⟩) (hd:Nat.blt d n=true)
  (hc:PuH P f svs Hin (fun r H=>r=res∧H=Hout) noX) (hs:Tk H Hin Rs) (ha:l.map (ev Fe)=svs):TS P C n ops i ⟨some d, .call ⟨.value (.func f),l.toArray,tys⟩,ty,pos,aft,none⟩ Fe H res (Rs++Hout):=by
 refine TS.ofWPL ho fun F hF=>?_
 refine WfT hc ?_ ?_ hs hd
 ·rintro _ _ ⟨rfl,rfl⟩;exact WPL.nil ⟨rfl,rfl⟩
 ·rw [←ha];refine List.map_congr_left fun x hx=>?_
  exact dz (by simp [Op.operands,Call.operands,hx]) hF
theorem Gc {k q i d:Nat}{late:List NO'}{K:Fr→LH→Prop}{r:List Oper}{f:FuncId}{l:List Operand}{tys:Array TypeId}{ty:TypeId}{pos:String}{aft:Array Edge}{svs:List SV}{Hin Hout Rs:LH}{res:SV}
  (hc:PuH P f svs Hin (fun r H=>r=res∧H=Hout) noX) (hs:Tk H Hin Rs) (hl:LOk P ops k q n H F late) (h:Stg P C n ops k q late K (i+1) r (upd F d res) (Rs++Hout))
  (ha:l.map (ev F)=svs:=by exact rfl) (ho:ops[i]? = some ⟨some d, .call ⟨.value (.func f),l.toArray,tys⟩,ty,pos,aft,none⟩:=by exact rfl) (hd:Nat.blt d n=true:=by exact rfl) :
  Stg P C n ops k q late K i (⟨some d, .call ⟨.value (.func f),l.toArray,tys⟩,ty,pos,aft,none⟩::r) F H:=⟨hl,_,(TS.callH ho hd hc hs ha).toR,by rintro _ _ ⟨rfl,rfl⟩;exact h⟩
end
def marks (k n:Nat):List SV:=List.replicate k (lit (.bool true))++List.replicate (n-k) (lit (.bool false))
theorem Cx {k n:Nat}(h:k≤n):(marks k n).length=n:=by unfold marks;simp;omega
theorem Cw {k n:Nat}(h:k<n):(marks k n).set k (lit (.bool true))=marks (k+1) n:=by
 unfold marks;rw [List.set_append_right _ _ (by simp),List.length_replicate,Nat.sub_self,show n-k=(n-(k+1))+1 from by omega,List.replicate_succ,List.set_cons_zero,List.replicate_succ',List.append_assoc];rfl
theorem Cy {k n:Nat}(h:k<n):(marks k n)[k]? = some (lit (.bool false)):=by
 unfold marks;rw [List.getElem?_append_right (by simp),List.length_replicate,Nat.sub_self,show n-k=(n-(k+1))+1 from by omega,List.replicate_succ];rfl
def At (all:List SV) (k:Nat) (t:Tr):Prop:=(all.drop (k*8)).take (t.size*8)=t.rows k
theorem At.node {all:List SV}{k:Nat}{l:Li}{a b:Tr}(h:At all k (.node l a b)):(all.drop (k*8)).take 8=nd l (a.root (k+1)) (b.root (k+1+a.size))∧At all (k+1) a∧At all (k+1+a.size) b:=by
 unfold At at h⊢;rw [Tr.size_node]at h;simp only [Tr.rows]at h;have hn:(nd l (a.root (k+1)) (b.root (k+1+a.size))).length=8:=rfl;have h1:=congrArg (List.take 8) h;rw [List.take_take,Nat.min_eq_left om,List.append_assoc,List.take_left' hn]at h1;have h2:=congrArg (List.drop 8) h;rw [List.drop_take,List.drop_drop,List.append_assoc,List.drop_left' hn]at h2;rw [show k*8+8=(k+1)*8 from by omega,show(1+a.size+b.size)*8-8=a.size*8+b.size*8 from by omega]at h2;have ha:=Tr.rows_len a (k+1);have h3:=congrArg (List.take (a.size*8)) h2;rw [List.take_take,Nat.min_eq_left om,List.take_left' ha]at h3;have h4:=congrArg (List.drop (a.size*8)) h2;rw [List.drop_take,List.drop_drop,List.drop_left' ha]at h4;rw [show(k+1)*8+a.size*8=(k+1+a.size)*8 from by omega,Nat.add_sub_cancel_left]at h4;exact⟨h1,h3,h4⟩
abbrev Jc (all:List SV) (n s k:Nat):List SV:=[sl all n,lit (.slice (some ⟨s,0,none⟩) n n),lit (.int .i64 (k:Int)),lit (.bool false)]
theorem BF:∀(t:Tr) (_:t.all fun l=>l.ok∧l.le 100000) (all:List SV) (n k r s:Nat) (_:At all k t) (_:k+t.size≤n) (_:n≤1000000) (_:all.length=n*8),
  PuH Tryz.prog 88 [lit (.pointer (some ⟨r,0,none⟩)),lit (.int .i64 (t.root k))] [(r,163,Jc all n s k),(s,4,marks k n)]
   (fun res H=>res=bt t∧H=[(r,163,Jc all n s (k+t.size)),(s,4,marks (k+t.size) n)]) noX:=by
 intro t;induction t with
 |leaf i =>
  intro _ all n k r s _ _ _ _;have c1:=vC i;cases i with
  |true =>
   simp only [Tr.root];refine PuH.intro Tryz.func88 rfl kr fun C hC=>?_
   repeat(first|(refine A1 ⟨?_⟩;intros)|refine W4 c1 ⟨?_⟩)
   exact eN _ _ (aJ (RV.tmp rfl) Lr) Sr ⟨rfl,rfl⟩
  |false =>
   simp only [Tr.root];refine PuH.intro Tryz.func88 rfl kr fun C hC=>?_
   repeat(first|(refine A1 ⟨?_⟩;intros)|refine W4 c1 ⟨?_⟩)
   exact eN _ _ (aJ (RV.tmp rfl) Lr) Sr ⟨rfl,rfl⟩
 |node l a b iha ihb =>
  intro hall all n k r s hat hkn hn hlen;obtain⟨⟨hok,hle⟩,hla,hlb⟩:=hall;obtain⟨h1,hA,hB⟩:=hat.node;rw [Tr.size_node]at hkn;have c2:=Im hok hle;have hg:=Cy (k:=k) (n:=n) om;have hs:spl (marks k n) k [lit (.bool true)]=marks (k+1) n:=by simp only [spl];exact Cw om
  simp only [nd]at h1;have hml:=Cx (k:=k) (n:=n) om;have hne:all≠[]:=fun e=>by rw [e]at hlen;simp at hlen;omega
  simp only [Tr.root];refine PuH.intro Tryz.func88 rfl kr fun C hC=>?_
  repeat(refine A1 ⟨?_⟩;intros)
  refine WgE ?_;refine Wo (rv rfl mmA hg) ?_;repeat(refine A1 ⟨?_⟩;intros)
  refine WPL.store (b:=s) (o:=k) (sv:=lit (.bool true)) (cs':=marks (k+1) n) rfl rfl rfl (.there _ (.here _)) hs (by rw [Nat.ble_eq,hml];omega) ?_;repeat(refine A1 ⟨?_⟩;intros)
  refine Wo (aa rfl rfl om om h1 hne) ?_;repeat(first|(refine A1 ⟨?_⟩;intros)|refine W4 c2 ⟨?_⟩)
  refine WfT (iha hla all n (k+1) r s hA om hn hlen) ?_;rintro _ _ ⟨rfl,rfl⟩;simp only [List.cons_append,List.nil_append];repeat(first|(refine AS ⟨?_⟩;intros)|(refine O1 ⟨?_⟩;intros)|(refine Wcx (c2) ?_)|(refine dH (c2) ?_))
  refine WdL 5 1 ?_;repeat(refine A1 ⟨?_⟩;intros)
  refine dL0 ?_;have c3:=ihb hlb all n (k+1+a.size) r s hB om hn hlen;have c4:=Bs l a b;refine Gc c3 (.skip _ (.skip _ (.same _))) ?_ ?_
  ·(repeat(first|exact LOk.nil|refine Lsk ?_|refine Lcv ?_))
  simp only [List.cons_append,List.nil_append];refine Gn ?_ ?_
  ·(repeat(first|exact LOk.nil|refine Lsk ?_|refine Lcv ?_))
  repeat(first|(refine A1 ⟨?_⟩;intros)|refine W4 c4 ⟨?_⟩)
  rw [show k+1+a.size+b.size=k+(Tr.node l a b).size from by rw [Tr.size_node];omega];exact eN _ _ (aJ (RV.tmp rfl) Lr) (Sc (Sc Sr)) ⟨rfl,rfl⟩
theorem At.all (t:Tr):At (t.rows 0) 0 t:=by
 unfold At;rw [Nat.zero_mul,List.drop_zero,←Tr.rows_len t 0,List.take_length]
theorem zU (t:Tr) (hall:t.all fun l=>l.ok∧l.le 100000) (hsz:t.size≤60000):Pu Tryz.prog 38 [tq t] (Ab.tup [bt t,lit (.bool true)]):=by
 have c:=fun r s=>BF t hall (t.rows 0) t.size 0 r s (At.all t) om om (t.rows_len 0)
 simp only [Nat.zero_add]at c;refine Pi Tryz.func38 fun C=>?_
 repeat(first|(refine AS ⟨?_⟩;intros)|(refine O1 ⟨?_⟩;intros)|(refine Wcx (vC true) ?_)|(refine dH (vC true) ?_))
 refine WdN 6 ?_;repeat(refine A1 ⟨?_⟩;intros)
 refine Ly (I6 rfl rfl om om) ?_;repeat(refine A1 ⟨?_⟩;intros)
 rename_i b1 s r;refine WfT (c r s) ?_;rintro _ _ ⟨rfl,rfl⟩;simp only [List.cons_append,List.nil_append];repeat(refine A1 ⟨?_⟩;intros)
 exact G2
def Tr.im (m:M6 Rat):Tr→Tr
 | .leaf i => .leaf i
 | .node l a b => .node (l.im m) (a.im m) (b.im m)
theorem Tr.im_size (m:M6 Rat):∀t:Tr,(t.im m).size=t.size
 | .leaf _=>rfl
 | .node _ a b=>by simp only [Tr.im,Tr.size,im_size m a,im_size m b]
theorem Tr.all_mono {p q:Li→Prop}(h:∀l,p l→q l):∀t:Tr,t.all p→t.all q
 | .leaf _,_=>trivial
 | .node _ a b,k=>⟨h _ k.1,all_mono h a k.2.1,all_mono h b k.2.2⟩
theorem Tr.im_all {m:M6 Rat}{p q:Li→Prop}(h:∀l,p l→q (l.im m)):∀t:Tr,t.all p→(t.im m).all q
 | .leaf _,_=>trivial
 | .node _ a b,k=>⟨h _ k.1,im_all h a k.2.1,im_all h b k.2.2⟩
theorem De {m:M6 Rat}{L:Nat}(hm:m.le L) (h1:1≤L) (hL:L≤400) (hdet:m.det≠0):∀t:Tr,(t.all fun l=>l.ok∧l.le L)→Pu Tryz.prog 40 [mf m,bt t] (bt (t.im m)):=by
 intro t;induction t with
 |leaf i =>
  intro _;have c1:=iZ i;simp only [Tr.im];refine Pi Tryz.func40 fun C=>?_
  exact Y1 c1
 |node l a b iha ihb =>
  intro ⟨⟨hok,hle⟩,hla,hlb⟩;have c1:=iY l a b;have c2:=Gp hm hle h1 hL hdet hok;have c3:=iha hla;have c4:=ihb hlb;have c5:=Bs (l.im m) (a.im m) (b.im m);simp only [Tr.im];unfold bt at *;rw [mg]at *;refine Pi Tryz.func40 fun C=>?_
  repeat(first|(refine A1 ⟨?_⟩;intros)|refine W4 c1 ⟨?_⟩|refine W4 c2 ⟨?_⟩|refine W4 c3 ⟨?_⟩|refine W4 c4 ⟨?_⟩|refine W4 c5 ⟨?_⟩)
  exact E1
theorem Li.im_le' {m:M6 Rat}{l:Li}{L:Nat}(hm:m.le L) (h:l.le L) (h1:1≤L) (hL:L≤400):(l.im m).le 100000:=by
 have hi:=Li.im_le hm h h1;exact⟨Nat.le_trans hi.a om,Nat.le_trans hi.b om,Nat.le_trans hi.c om⟩
theorem Li.le.to {l:Li}{L L':Nat}(h:l.le L) (k:L≤L'):l.le L':=⟨Nat.le_trans h.a k,Nat.le_trans h.b k,Nat.le_trans h.c k⟩
theorem J3 {m:M6 Rat}{t:Tr}{L:Nat}(hm:m.le L) (h1:1≤L) (hL:L≤400) (hdet:m.det≠0) (ht:t.all fun l=>l.ok∧l.le L) (hs:t.size≤60000):Pu Tryz.prog 13 [mq m,tq t] (Ab.tup [tq (t.im m),lit .nilIface]):=by
 have c1:=zU t (t.all_mono (fun l h=>⟨h.1,h.2.to om⟩) ht) hs;have c2:=C3 hm om hdet;have c3:=De hm h1 hL hdet t ht;have c4:=GN (t.im m) (t.im_all (fun l h=>(Li.im_le' hm h.2 h1 hL).to om) ht) (by rw [Tr.im_size];omega);refine Pi Tryz.func13 fun C=>?_
 repeat(first|(refine A1 ⟨?_⟩;intros)|refine W4 c1 ⟨?_⟩|refine W4 c2 ⟨?_⟩|refine W4 c3 ⟨?_⟩|refine W4 c4 ⟨?_⟩)
 exact G3
def ji (cuts:List Rat) (i:Nat):Spn:=⟨if 0<i then cuts.getD (i-1) 0 else 0,if i<cuts.length then cuts.getD i 0 else 0,decide (i=0),decide (i=cuts.length)⟩
def cY (cuts:List Rat) (marks:List Bool) (out:List Spn) (i:Nat):List Spn :=
 if marks.getD i false=false then out
 else if 0<i∧marks.getD (i-1) false=true∧0<out.length then out.set (out.length-1) ⟨(out.getD (out.length-1) Spn.full).lo,(ji cuts i).hi,(out.getD (out.length-1) Spn.full).nl,(ji cuts i).nh⟩
 else out++[ji cuts i]
def s5 (cuts:List Rat) (marks:List Bool):List Spn:=(List.range marks.length).foldl (cY cuts marks) []
def kF (op:Int) (a b:List Spn):List Spn:=s5 (cL (a++b)) ((dP (cL (a++b))).map fun t=>opB op (inL a t) (inL b t))
def aW (s:Spn):Rat:=if s.nl&&s.nh then 0 else if s.nl then s.hi-1 else if s.nh then s.lo+1 else i8 s.lo s.hi
abbrev Fg:=Li×Spn
def f5 (l m:Li) (side:Int):List Spn×Bool :=
 if bH l m=0 then(if cW m (aD l)=side then [Spn.full]else [],decide (cW m (aD l)=0))
 else if cW m (atL l (bo l (aY l m)+1))=side then([⟨bo l (aY l m),0,false,true⟩],false)else([⟨0,bo l (aY l m),true,false⟩],false)
def bM (f:Fg) (m:Li):List Fg×List Fg :=
 if(f5 f.1 m 1).2 then([],[])else((kF 2 [f.2] (f5 f.1 m 1).1).map fun s=>(f.1,s),(kF 2 [f.2] (f5 f.1 m (-1)).1).map fun s=>(f.1,s))
def eO (l m:Li) (s:Spn):Spn :=
 if 0<(a9 (dirL m) (dirL l)).num.sign then(if s.nl=true∨0<(bo l (aY l m)-s.lo).num.sign then⟨bo l (aY l m),s.hi,false,s.nh⟩else s)
 else if s.nh=true∨(bo l (aY l m)-s.hi).num.sign<0 then⟨s.lo,bo l (aY l m),s.nl,false⟩else s
def ef (s:Spn):Bool := !s.nl && !s.nh&&decide (0≤(s.lo-s.hi).num.sign)
def f6 (l:Li) (i:Nat):Nat→List Li→Spn→Spn×Bool
 |_,[],s=>(s,true)
 |k,m::c,s=>if k=i∨kz l m=0 then f6 l i (k+1) c s
  else if bH l m=0 then(if 0<cW m (aD l)then f6 l i (k+1) c s else(s,false))
  else if ef (eO l m s)then(eO l m s,false)else f6 l i (k+1) c (eO l m s)
def bS (c:List Li) (i:Nat):Spn×Bool:=f6 (c.getD i ⟨0,0,0⟩) i 0 c Spn.full
def cX (p v:Pq) (s:Rat) (a:Li):Rat :=
 if(a8 a (bO p 1 v)-a8 a p).num.sign=0∨cW a p=0 then s
 else if 0<(-(a8 a p/(a8 a (bO p 1 v)-a8 a p))).num.sign∧(-(a8 a p/(a8 a (bO p 1 v)-a8 a p))/2-s).num.sign<0 then -(a8 a p/(a8 a (bO p 1 v)-a8 a p))/2 else s
def tI (l:List Li) (p v:Pq):Pq:=bO p (l.foldl (cX p v) 1) v
def oh (c:List Li) (i:Nat) (l:Li):Pq:=tI c (atL l (aW (bS c i).1)) (-(dirL l).2,(dirL l).1)
def fv (c:List Li):Nat→List Li→Option Pq
 |_,[]=>none
 |i,l::r=>if(bS c i).2 then some (oh c i l)else fv c (i+1) r
def ci (c:List Li):Option Pq:=if c=[]then some (0,0)else fv c 0 c
abbrev alt (l m:Li):Bool:=decide (mw (dirL l) (dirL m)<0)
def cN (c:List Li) (out:List Li) (i:Nat):List Li:=if(bS c i).2 then gq alt out (c.getD i ⟨0,0,0⟩)else out
def dF (c:List Li):List Li:=(List.range c.length).foldl (cN c) []
def jZ (c:List Li) (l:Li):Int:=if(ci (c++[l])).isSome then(if(ci (c++[l.neg])).isSome then 0 else 1)else -1
def rR (l:Li):Tr→Tr→Tr
 | .leaf i, .leaf j=>if i=j then .leaf i else .node l (.leaf i) (.leaf j)
 |a,b => .node l a b
abbrev gE (c:List Li) (l:Li):List Li:=dF (c++[l])
def cG:Tr→List Li→Tr
 | .leaf i,_ => .leaf i
 | .node l a b,c=>if jZ c l=1 then cG a c else if jZ c l = -1 then cG b c else rR l (cG a (gE c l)) (cG b (gE c l.neg))
def aK (l:List Fg) (m:Li):List Fg×List Fg:=((l.map fun f=>(bM f m).1).flatten,(l.map fun f=>(bM f m).2).flatten)
def gg (inn:Pq→Bool):Nat→List Fg→List Li→Tr
 |0,_,_ => .leaf false
 |n+1,[],c => .leaf (inn ((ci c).getD (0,0)))
 |n+1,f::l,c => .node f.1 (gg inn n (aK (f::l) f.1).1 (c++[f.1])) (gg inn n (aK (f::l) f.1).2 (c++[f.1.neg]))
theorem bp {x:Rat}:0<x.num.sign↔0<x:=by rw [Int.sign_pos_iff];exact qZ
theorem DX {x:Rat}:x.num<0↔x<0:=by
 have h1:0≤x.num↔0≤x:=Rat.num_nonneg;constructor
 ·intro h;exact Rat.not_le.1 fun k=>by have:=h1.2 k;omega
 ·intro h;have:¬0≤x.num:=fun k=>Rat.not_le.2 h (h1.1 k)
  omega
theorem dO {x:Rat}:x.num.sign<0↔x<0:=by rw [Int.sign_neg_iff];exact DX
theorem jx {x:Rat}:0≤x.num.sign↔0≤x:=by
 rw [←Int.not_lt,dO,Rat.not_lt]
theorem IJ (l:Li):oA (dirL l) (dirL l)=(l.a:Rat)*l.a+l.b*l.b:=by unfold oA dirL;simp only;grind
theorem Ge {l:Li}(h:l.ok):l.bf*((l.a:Rat)*l.a+l.b*l.b) = -l.c:=by
 have hn:=cC h;unfold Li.bf;rw [show(l.b:Rat)*l.b + -(l.a:Rat) * -(l.a:Rat)=(l.a:Rat)*l.a+l.b*l.b by grind];generalize(l.a:Rat)*l.a+l.b*l.b=n at *;rw [Rat.neg_mul,Rat.div_mul_cancel (by grind)]
theorem iT {l:Li}(h:l.ok) (p:Pq):bo l p*((l.a:Rat)*l.a+l.b*l.b)=p.1*l.b-p.2*l.a:=by
 have hn:=cC h;unfold bo;rw [IJ,Rat.div_mul_cancel (by grind)];unfold oA dirL;simp only;grind
theorem Gg {l:Li}(t:Rat):atL l t=(l.bf*l.a+t*l.b,l.bf*l.b-t*l.a):=by
 unfold atL bO aD dirL;refine Prod.ext ?_ ?_ <;> simp only <;> grind
theorem fk {l:Li}(h:l.ok) (t:Rat):a8 l (atL l t)=0:=by
 have hb:=Ge h;rw [Gg];unfold a8;simp only;grind
theorem kB {l:Li}(h:l.ok){p:Pq}(hp:a8 l p=0):atL l (bo l p)=p:=by
 have hn:=cC h;have hb:=Ge h;have hq:=iT h p;rw [Gg];obtain⟨x,y⟩:=p;have hc:(l.c:Rat) = -(l.a*x+l.b*y):=by unfold a8 at hp;simp only at hp;grind
 generalize bo l (x,y)=t at *;generalize l.bf=f at *;simp only at hq;rw [hc]at hb;generalize(l.a:Rat)=a at *;generalize(l.b:Rat)=b at *;have hne:a*a+b*b≠0:=by grind
 simp only [Prod.mk.injEq];constructor
 ·refine jk hne ?_;have:(a*a+b*b)*(f*a+t*b)=(f*(a*a+b*b))*a+(t*(a*a+b*b))*b:=by grind
  rw [this,hb,hq];grind
 ·refine jk hne ?_;have:(a*a+b*b)*(f*b-t*a)=(f*(a*a+b*b))*b-(t*(a*a+b*b))*a:=by grind
  rw [this,hb,hq];grind
theorem AQ {l m:Li}(h:bH l m≠0):a8 l (aY l m)=0∧a8 m (aY l m)=0:=by
 have e1:∀x:Rat,x/bH l m*bH l m=x:=fun x=>Rat.div_mul_cancel h
 obtain⟨x,hx⟩:∃x,x=((l.b:Rat)*m.c-m.b*l.c)/bH l m:=⟨_,rfl⟩
 obtain⟨y,hy⟩:∃y,y=((m.a:Rat)*l.c-l.a*m.c)/bH l m:=⟨_,rfl⟩
 have hx':x*bH l m=(l.b:Rat)*m.c-m.b*l.c:=by rw [hx];exact e1 _
 have hy':y*bH l m=(m.a:Rat)*l.c-l.a*m.c:=by rw [hy];exact e1 _
 have:aY l m=(x,y):=by unfold aY;rw [←hx,←hy]
 rw [this];clear e1 hx hy this;constructor
 ·refine jk h ?_;unfold a8;have:bH l m*((l.a:Rat)*x+l.b*y+l.c)=l.a*(x*bH l m)+l.b*(y*bH l m)+l.c*bH l m:=by grind
  simp only;rw [this,hx',hy'];unfold bH;grind
 ·refine jk h ?_;unfold a8;have:bH l m*((m.a:Rat)*x+m.b*y+m.c)=m.a*(x*bH l m)+m.b*(y*bH l m)+m.c*bH l m:=by grind
  simp only;rw [this,hx',hy'];unfold bH;grind
def slp (l m:Li):Rat:=(m.a:Rat)*l.b-m.b*l.a
theorem td (l m:Li):a9 (dirL m) (dirL l)=slp l m:=by unfold a9 dirL slp;simp only;grind
theorem lm (l m:Li):bH l m = - slp l m:=by unfold bH slp;grind
theorem aV (l m:Li) (t:Rat):a8 m (atL l t)=a8 m (aD l)+t*slp l m:=by
 rw [Gg];unfold a8 slp aD;simp only;grind
theorem nC {l m:Li}(hl:l.ok) (h:bH l m≠0) (t:Rat):a8 m (atL l t)=(t-bo l (aY l m))*slp l m:=by
 obtain⟨h1,h2⟩:=AQ h;have h3:=kB hl h1;have h4:=aV l m (bo l (aY l m));rw [h3,h2]at h4;rw [aV];grind
def InS (s:Spn) (t:Rat):Prop:=(s.nl=true∨s.lo<t)∧(s.nh=true∨t<s.hi)
theorem kb {x y:Rat}(h:x<y):x<i8 x y∧i8 x y<y:=by unfold i8;grind
theorem gc {s:Spn}(h:ef s=false):InS s (aW s):=by
 obtain⟨lo,hi,nl,nh⟩:=s;unfold ef at h;unfold InS aW;cases nl <;> cases nh <;> simp only [Bool.and_self,Bool.false_eq_true,if_false,if_true,Bool.and_true,Bool.and_false,true_or,false_or,true_and,and_true]
 ·have h':lo<hi:=by
   have:¬0≤(lo-hi).num.sign:=of_decide_eq_false h;rw [jx]at this;grind
  exact kb h'
 ·grind
 ·grind
theorem jw {s:Spn}{t:Rat}(h:InS s t):ef s=false:=by
 unfold ef;cases h1:s.nl with
 |true=>rfl
 |false =>
  cases h2:s.nh with
  |true=>rfl
  |false =>
   obtain⟨a,b⟩:=h;rw [h1]at a;rw [h2]at b;have a:=a.resolve_left (by decide);have b:=b.resolve_left (by decide);have:¬0≤(s.lo-s.hi).num.sign:=by rw [jx];grind
   rw [decide_eq_false this];rfl
theorem eT {x k:Rat}(hk:0<k):0<x*k↔0<x:=by
 rw [Rat.mul_comm];exact Rat.mul_pos_iff_of_pos_left hk
theorem xS {l m:Li}(hl:l.ok) (h:bH l m≠0) (s:Spn) (t:Rat):InS (eO l m s) t↔InS s t∧0<a8 m (atL l t):=by
 rw [nC hl h];unfold eO;rw [td];generalize bo l (aY l m)=u;have hk:slp l m≠0:=fun e=>h (by rw [lm,e];rfl)
 generalize slp l m=k at *;clear h;by_cases h0:0<k.num.sign
 ·rw [if_pos h0,eT (bp.1 h0)];split
  ·rename_i h1;rw [bp]at h1;unfold InS;simp only;constructor
   ·rintro ⟨a,b⟩;have a:=a.resolve_left (by decide);refine⟨⟨?_,b⟩,by grind⟩;rcases h1 with h1|h1
    ·exact .inl h1
    ·right;grind
   ·rintro ⟨⟨a,b⟩,c⟩;exact⟨.inr (by grind),b⟩
  ·rename_i h1;rw [not_or,bp]at h1;constructor
   ·intro h;refine⟨h,?_⟩;have:=h.1.resolve_left h1.1;grind
   ·exact And.left
 ·rw [if_neg h0];rw [bp]at h0;have hk':0 < -k:=by grind
  have e:(t-u)*k=(u-t) * -k:=by grind
  rw [e,eT hk'];split
  ·rename_i h1;rw [dO]at h1;unfold InS;simp only;constructor
   ·rintro ⟨a,b⟩;have b:=b.resolve_left (by decide);refine⟨⟨a,?_⟩,by grind⟩;rcases h1 with h1|h1
    ·exact .inl h1
    ·right;grind
   ·rintro ⟨⟨a,b⟩,c⟩;exact⟨a, .inr (by grind)⟩
  ·rename_i h1;rw [not_or,dO]at h1;constructor
   ·intro h;refine⟨h,?_⟩;have:=h.2.resolve_left h1.1;grind
   ·exact And.left
theorem GC {l m:Li}(h:bH l m=0) (t:Rat):a8 m (atL l t)=a8 m (aD l):=by
 have:slp l m=0:=by rw [lm]at h;grind
 rw [aV,this];grind
theorem jN {l:Li}(hl:l.ok) (i:Nat):∀(c:List Li) (k:Nat) (s:Spn),(∃t,InS s t)→c[i-k]? = some l∨i<k→
  ((f6 l i k c s).2=true→(∀t,InS (f6 l i k c s).1 t↔InS s t∧∀m∈c,m≠l→0<a8 m (atL l t))∧∃t,InS (f6 l i k c s).1 t)∧
  ((f6 l i k c s).2=false→∀t,InS s t→∃m∈c,m≠l∧a8 m (atL l t)≤0)
 | [],k,s,hs,_=>⟨fun _=>⟨fun t=>by simp [f6],hs⟩,fun h=>by cases h⟩
 |m::c,k,s,hs,hi=>by
  have hi':c[i-(k+1)]? = some l∨i<k+1:=by
   rcases hi with h|h
   ·by_cases e:i≤k
    ·exact .inr om
    ·left;rw [show i-k=i-(k+1)+1 by omega,List.getElem?_cons_succ]at h;exact h
   ·exact .inr om
  unfold f6;by_cases h0:k=i∨kz l m=0
  ·rw [if_pos h0]
   have hml:m=l:=by
    rcases h0 with h0|h0
    ·rcases hi with h|h
     ·rw [h0,Nat.sub_self]at h;simpa using h
     ·omega
    ·exact(dS.1 h0).symm
   obtain⟨a,b⟩:=jN hl i c (k+1) s hs hi';refine⟨fun h=>⟨fun t=>?_,(a h).2⟩,fun h t ht=>?_⟩
   ·rw [(a h).1 t];constructor
    ·rintro ⟨h1,h2⟩;refine⟨h1,fun m' hm' hne=>?_⟩;rcases List.mem_cons.1 hm' with e|e
     ·exact absurd (e.trans hml) hne
     ·exact h2 m' e hne
    ·rintro ⟨h1,h2⟩;exact⟨h1,fun m' hm'=>h2 m' (Mc hm')⟩
   ·obtain⟨m',h1,h2⟩:=b h t ht;exact⟨m',Mc h1,h2⟩
  ·rw [if_neg h0];rw [not_or,dS]at h0;have hne:m≠l:=fun e=>h0.2 e.symm
   by_cases hd:bH l m=0
   ·rw [if_pos hd];have hv:=GC hd;by_cases hsd:0<cW m (aD l)
    ·rw [if_pos hsd];have hsd':0<a8 m (aD l):=bp.1 hsd;obtain⟨a,b⟩:=jN hl i c (k+1) s hs hi';refine⟨fun h=>⟨fun t=>?_,(a h).2⟩,fun h t ht=>?_⟩
     ·rw [(a h).1 t];constructor
      ·rintro ⟨h1,h2⟩;refine⟨h1,fun m' hm' hne=>?_⟩;rcases List.mem_cons.1 hm' with e|e
       ·rw [e,hv];exact hsd'
       ·exact h2 m' e hne
      ·rintro ⟨h1,h2⟩;exact⟨h1,fun m' hm'=>h2 m' (Mc hm')⟩
     ·obtain⟨m',h1,h2⟩:=b h t ht;exact⟨m',Mc h1,h2⟩
    ·rw [if_neg hsd];refine⟨fun h=>(by cases h),fun _ t _=>⟨m,Ms,hne,?_⟩⟩;rw [hv];exact Rat.not_lt.1 fun k=>hsd (bp.2 k)
   ·rw [if_neg hd];have hst:=xS hl hd s;cases hb:ef (eO l m s)with
    |true =>
     rw [if_pos rfl];refine⟨fun h=>(by cases h),fun _ t ht=>⟨m,Ms,hne,Rat.not_lt.1 fun k=>?_⟩⟩;rw [jw ((hst t).2 ⟨ht,k⟩)]at hb;cases hb
    |false =>
     rw [if_neg (by decide)];obtain⟨a,b⟩:=jN hl i c (k+1) (eO l m s) ⟨_,gc hb⟩ hi';refine⟨fun h=>⟨fun t=>?_,(a h).2⟩,fun h t ht=>?_⟩
     ·rw [(a h).1 t,hst];constructor
      ·rintro ⟨⟨h1,h3⟩,h2⟩;refine⟨h1,fun m' hm' hne=>?_⟩;rcases List.mem_cons.1 hm' with e|e
       ·rw [e];exact h3
       ·exact h2 m' e hne
      ·rintro ⟨h1,h2⟩;exact⟨⟨h1,h2 m List.mem_cons_self hne⟩,fun m' hm'=>h2 m' (Mc hm')⟩
     ·by_cases hm:0<a8 m (atL l t)
      ·obtain⟨m',h1,h2⟩:=b h t ((hst t).2 ⟨ht,hm⟩);exact⟨m',Mc h1,h2⟩
      ·exact⟨m,Ms,hne,Rat.not_lt.1 hm⟩
theorem Bd {c:List Li}{i:Nat}{l:Li}(hl:l.ok) (hi:c[i]? = some l) (h:(bS c i).2=true):(∀t,InS (bS c i).1 t↔∀m∈c,m≠l→0<a8 m (atL l t))∧∃t,InS (bS c i).1 t:=by
 have e:c.getD i ⟨0,0,0⟩=l:=by rw [List.getD_eq_getElem?_getD,hi];rfl
 unfold bS at h⊢;rw [e]at h⊢;obtain⟨a,b⟩:=(jN hl i c 0 Spn.full ⟨0, .inl rfl, .inl rfl⟩ (.inl (by rw [Nat.sub_zero];exact hi))).1 h;exact⟨fun t=>(a t).trans ⟨fun h=>h.2,fun h=>⟨⟨.inl rfl, .inl rfl⟩,h⟩⟩,b⟩
theorem po {c:List Li}{i:Nat}{l:Li}(hl:l.ok) (hi:c[i]? = some l):(bS c i).2=true↔Edg c l:=by
 constructor
 ·intro h;obtain⟨a,t,b⟩:=Bd hl hi h;exact⟨atL l t,fk hl t,(a t).1 b⟩
 ·rintro ⟨r,h1,h2⟩;cases h:(bS c i).2 with
  |true=>rfl
  |false =>
   have e:c.getD i ⟨0,0,0⟩=l:=by rw [List.getD_eq_getElem?_getD,hi];rfl
   unfold bS at h;rw [e]at h;obtain⟨m,hm,hne,hv⟩:=(jN hl i c 0 Spn.full ⟨0, .inl rfl, .inl rfl⟩ (.inl (by rw [Nat.sub_zero];exact hi))).2 h (bo l r) ⟨.inl rfl, .inl rfl⟩;rw [kB hl h1]at hv;exact absurd (h2 m hm hne) (Rat.not_lt.2 hv)
theorem tU (v:Pq):j6 v=if v.1.num.sign=0∧v.2.num.sign=0 then 0 else if 0<v.2.num.sign∨v.2.num.sign=0∧0<v.1.num.sign then 1 else 2:=by
 unfold j6;simp only [bB,bp]
theorem IZ (a:Li) (p v:Pq) (t:Rat):a8 a (bO p t v)=a8 a p+t*(a8 a (bO p 1 v)-a8 a p):=by unfold a8 bO;simp only;grind
theorem Dx (a l:Li) (p:Pq):a8 a (bO p 1 (-(dirL l).2,(dirL l).1))-a8 a p=(a.a:Rat)*l.a+a.b*l.b:=by unfold a8 bO dirL;simp only;grind
theorem tH {V K:Rat}(hV:0<V) (hK:K<0):0 < -(V/K)∧∀s,0<s→s≤-(V/K)/2→0<V+s*K:=by
 obtain⟨u,hu⟩:∃u,u = -(V/K):=⟨_,rfl⟩
 have e:u * -K=V:=by rw [hu,Rat.neg_mul,Rat.mul_neg,Rat.neg_neg];exact Rat.div_mul_cancel (by grind)
 rw [←hu];clear hu
 have h0:0<u:=by
  rcases Rat.le_total (a:=u) (b:=0)with k|k
  ·have:=Rat.mul_nonneg (show 0≤-u by grind) (show 0≤-K by grind);grind
  ·by_cases e':u=0
   ·rw [e']at e;grind
   ·grind
 refine⟨h0,fun s hs h=>?_⟩;have:=Rat.mul_nonneg (show 0≤u/2-s by grind) (show 0≤-K by grind);have e2:u/2 * -K=V/2:=by grind
 grind
theorem xo (p v:Pq) (s:Rat) (a:Li) (hs:0<s):0<cX p v s a∧cX p v s a≤s∧(a8 a p≠0→a8 a (bO p 1 v)-a8 a p≠0→0 < -(a8 a p/(a8 a (bO p 1 v)-a8 a p))→cX p v s a≤-(a8 a p/(a8 a (bO p 1 v)-a8 a p))/2):=by
 unfold cX cW;generalize -(a8 a p/(a8 a (bO p 1 v)-a8 a p))=u;generalize a8 a (bO p 1 v)-a8 a p=k;split
 ·rename_i h;rw [bB,bB]at h;exact⟨hs,Rat.le_refl,fun a b _=>(h.elim b a).elim⟩
 ·split
  ·rename_i h;rw [bp,dO]at h;exact⟨by grind,by grind,fun _ _ _=>Rat.le_refl⟩
  ·rename_i h;rw [bp,dO]at h;exact⟨hs,Rat.le_refl,fun _ _ h'=>by grind⟩
theorem xp (p v:Pq):∀(c:List Li) (s:Rat),0<s→0<c.foldl (cX p v) s∧c.foldl (cX p v) s≤s∧∀a∈c,a8 a p≠0→a8 a (bO p 1 v)-a8 a p≠0→0 < -(a8 a p/(a8 a (bO p 1 v)-a8 a p))→c.foldl (cX p v) s≤-(a8 a p/(a8 a (bO p 1 v)-a8 a p))/2
 | [],s,hs=>⟨hs,Rat.le_refl,fun a h=>by cases h⟩
 |m::c,s,hs=>by
  obtain⟨a1,a2,a3⟩:=xo p v s m hs;obtain⟨b1,b2,b3⟩:=xp p v c _ a1;rw [List.foldl_cons];refine⟨b1,Rat.le_trans b2 a2,fun a ha h1 h2 h3=>?_⟩;rcases List.mem_cons.1 ha with e|e
  ·rw [e]at h1 h2 h3⊢;exact Rat.le_trans b2 (a3 h1 h2 h3)
  ·exact b3 a e h1 h2 h3
theorem xD {c:List Li}{i:Nat}{l:Li}(hl:l.ok) (hi:c[i]? = some l) (h:(bS c i).2=true):Inn c (oh c i l):=fun m hm=>by
 obtain⟨a,t,b⟩:=Bd hl hi h;have hs:=gc (jw b);unfold oh tI;obtain⟨p,hp⟩:∃p,p=atL l (aW (bS c i).1):=⟨_,rfl⟩
 have hz:a8 l p=0:=by rw [hp];exact fk hl _
 have hv:=(a _).1 hs;rw [←hp]at hv⊢;obtain⟨n1,_,n3⟩:=xp p (-(dirL l).2,(dirL l).1) c 1 (by decide);rw [IZ];by_cases hml:m=l
 ·rw [hml,Dx,hz,Rat.zero_add];exact Rat.mul_pos n1 (cC hl)
 ·have h1:=hv m hm hml;have h3:=n3 m hm (fun e=>by rw [e]at h1;exact absurd h1 (by decide));generalize List.foldl (cX p (-(dirL l).2,(dirL l).1)) 1 c=s at *;generalize a8 m (bO p 1 (-(dirL l).2,(dirL l).1))-a8 m p=k at *;by_cases hk:k<0
  ·obtain⟨g1,g2⟩:=tH h1 hk;exact g2 s n1 (h3 (by grind) g1)
  ·have:=Rat.mul_nonneg (Rat.le_of_lt n1) (Rat.not_lt.1 hk);grind
theorem mO {c:List Li}(hc:∀l∈c,l.ok):∀(d:List Li) (i:Nat),(∀k l,d[k]? = some l→c[i+k]? = some l)→
  (∀p,fv c i d=some p→Inn c p)∧(fv c i d=none→∀l∈d,¬Edg c l)
 | [],_,_=>⟨fun p h=>(by cases h),fun _ l h=>(by cases h)⟩
 |l::d,i,hd=>by
  have hi:c[i]? = some l:=by have:=hd 0 l rfl;simpa using this
  have hl:l.ok:=hc l (List.mem_of_getElem? hi);unfold fv;cases h:(bS c i).2 with
  |true =>
   rw [if_pos rfl];exact⟨fun p e=>(Option.some.inj e)▸xD hl hi h,fun e=>(by cases e)⟩
  |false =>
   rw [if_neg (by decide)];obtain⟨a,b⟩:=mO hc d (i+1) (fun k l h=>by rw [show i+1+k=i+(k+1) by omega];exact hd (k+1) l (by rw [List.getElem?_cons_succ];exact h));refine⟨a,fun e l' hl'=>?_⟩;rcases List.mem_cons.1 hl' with e'|e'
   ·rw [e',←po hl hi,h];decide
   ·exact b e l' e'
theorem rW {c:List Li}(hc:∀l∈c,l.ok){p:Pq}(h:ci c=some p):Inn c p:=by
 unfold ci at h;split at h
 ·rename_i e;rw [e];intro l hl;cases hl
 ·exact(mO hc c 0 (fun k l h=>by rw [Nat.zero_add];exact h)).1 p h
theorem pS {c:List Li}(hc:∀l∈c,l.ok):(ci c).isSome=true↔∃q,Inn c q:=by
 constructor
 ·intro h;obtain⟨p,hp⟩:=Option.isSome_iff_exists.1 h;exact⟨p,rW hc hp⟩
 ·rintro ⟨q,hq⟩;by_cases e:c=[]
  ·unfold ci;rw [if_pos e];rfl
  ·cases h:ci c with
   |some p=>rfl
   |none =>
    unfold ci at h;rw [if_neg e]at h;obtain⟨m,hm,hE⟩:=Inn.edge hc hq e;exact absurd hE ((mO hc c 0 (fun k l h=>by rw [Nat.zero_add];exact h)).2 h m hm)
theorem nj (c:List Li):∀(l:List Nat) (out:List Li) (y:Li),y∈l.foldl (cN c) out↔(∃i∈l,(bS c i).2=true∧y=c.getD i ⟨0,0,0⟩)∨y∈out
 | [],out,y=>by simp
 |i::l,out,y=>by
  rw [List.foldl_cons,nj c l];unfold cN;cases h:(bS c i).2 with
  |true =>
   rw [if_pos rfl,jL];constructor
   ·rintro (⟨j,hj,h1,h2⟩|h1|h1)
    ·exact .inl ⟨j,Mc hj,h1,h2⟩
    ·exact .inl ⟨i,Ms,h,h1⟩
    ·exact .inr h1
   ·rintro (⟨j,hj,h1,h2⟩|h1)
    ·rcases List.mem_cons.1 hj with e|e
     ·rw [e]at h2;exact .inr (.inl h2)
     ·exact .inl ⟨j,e,h1,h2⟩
    ·exact .inr (.inr h1)
  |false =>
   rw [if_neg (by decide)];constructor
   ·rintro (⟨j,hj,h1,h2⟩|h1)
    ·exact .inl ⟨j,Mc hj,h1,h2⟩
    ·exact .inr h1
   ·rintro (⟨j,hj,h1,h2⟩|h1)
    ·rcases List.mem_cons.1 hj with e|e
     ·rw [e,h]at h1;cases h1
     ·exact .inl ⟨j,e,h1,h2⟩
    ·exact .inr h1
theorem fG {c:List Li}(hc:∀l∈c,l.ok){y:Li}:y∈dF c↔y∈c∧Edg c y:=by
 unfold dF;rw [nj];constructor
 ·rintro (⟨i,hi,h1,h2⟩|h)
  ·have hi:=List.mem_range.1 hi;have e:=List.getElem?_eq_getElem hi;have e2:c.getD i ⟨0,0,0⟩=c[i]:=by rw [List.getD_eq_getElem?_getD,e];rfl
   have hm:c[i]∈c:=List.getElem_mem hi;rw [h2,e2];exact⟨hm,(po (hc _ hm) e).1 h1⟩
  ·cases h
 ·rintro ⟨h1,h2⟩;obtain⟨i,hi,e⟩:=List.mem_iff_getElem.1 h1;have e1:c[i]? = some y:=by rw [List.getElem?_eq_getElem hi,e]
  exact .inl ⟨i,List.mem_range.2 hi,(po (hc y h1) e1).2 h2,by rw [List.getD_eq_getElem?_getD,e1];rfl⟩
theorem iL {c:List Li}(hc:∀l∈c,l.ok) (hn:∃q,Inn c q) (p:Pq):Inn (dF c) p↔Inn c p:=by
 obtain⟨q,hq⟩:=hn;exact⟨fun h=>Inn.kept hc hq (fun m hm he=>(fG hc).2 ⟨hm,he⟩) h,fun h l hl=>h l ((fG hc).1 hl).1⟩
theorem gC (l:Li) (p:Pq):a8 l.neg p = - a8 l p:=by
 unfold a8 Li.neg;simp only [Rat.intCast_neg];grind
theorem Li.ok.neg {l:Li}(h:l.ok):l.neg.ok:=by
 refine⟨?_,?_⟩
 ·show Nat.gcd (Nat.gcd (-l.a).natAbs (-l.b).natAbs) (-l.c).natAbs=1
  rw [Int.natAbs_neg,Int.natAbs_neg,Int.natAbs_neg];exact h.1
 ·rcases h.2 with k|k
  ·left;show -l.a≠0;omega
  ·right;show -l.b≠0;omega
def Lft (I:Pq→Prop) (l:Li):Prop:=∃q,I q∧0<a8 l q
def Rgt (I:Pq→Prop) (l:Li):Prop:=∃q,I q∧a8 l q<0
theorem dN {c:List Li}{l:Li}{q:Pq}:Inn (c++[l]) q↔Inn c q∧0<a8 l q:=by
 unfold Inn;constructor
 ·intro h;exact⟨fun m hm=>h m (List.mem_append_left _ hm),h l (List.mem_append_right _ Ms)⟩
 ·rintro ⟨h1,h2⟩ m hm;rcases List.mem_append.1 hm with hm|hm
  ·exact h1 m hm
  ·rw [List.mem_singleton]at hm;rw [hm];exact h2
theorem gY {c:List Li}{l:Li}(hc:∀l∈c,l.ok) (hl:l.ok):∀m∈c++[l],m.ok:=fun m hm=>by
 rcases List.mem_append.1 hm with hm|hm
 ·exact hc m hm
 ·rw [List.mem_singleton]at hm;rw [hm];exact hl
theorem rU {c:List Li}{l:Li}(hc:∀l∈c,l.ok) (hl:l.ok):(ci (c++[l])).isSome=true↔Lft (Inn c) l:=by
 rw [pS (gY hc hl)];exact⟨fun⟨q,h⟩=>⟨q,dN.1 h⟩,fun⟨q,h⟩=>⟨q,dN.2 h⟩⟩
theorem xC {c:List Li}{l:Li}(hc:∀l∈c,l.ok) (hl:l.ok):(ci (c++[l.neg])).isSome=true↔Rgt (Inn c) l:=by
 rw [rU hc hl.neg];unfold Lft Rgt;have:∀q,0<a8 l.neg q↔a8 l q<0:=fun q=>by rw [gC];grind
 simp only [this]
theorem Inn.side {c:List Li}{l:Li}(hl:l.ok){q:Pq}(hq:Inn c q):Lft (Inn c) l∨Rgt (Inn c) l:=by
 by_cases h:a8 l q<0
 ·exact .inr ⟨q,hq,h⟩
 ·obtain⟨e,he,hs⟩:=fy (fun j=>a8 j q) (fun j=>(j.a:Rat)*l.a+j.b*l.b) c hq;refine .inl ⟨(q.1+e*l.a,q.2+e*l.b),fun j hj=>by rw [cl];exact hs j hj e he Rat.le_refl,?_⟩;rw [cl];have:=Rat.mul_pos he (cC hl);grind
theorem wV {c:List Li}{l:Li}(hc:∀l∈c,l.ok) (hl:l.ok) :
  (jZ c l=0↔Lft (Inn c) l∧Rgt (Inn c) l)∧(jZ c l=1↔Lft (Inn c) l∧¬Rgt (Inn c) l)∧(jZ c l = -1↔¬Lft (Inn c) l):=by
 have h1:=rU hc hl;have h2:=xC hc hl;unfold jZ;cases e1:(ci (c++[l])).isSome with
 |true =>
  cases e2:(ci (c++[l.neg])).isSome with
  |true =>
   have a:=h1.1 e1;have b:=h2.1 e2;simp [a,b]
  |false =>
   have a:=h1.1 e1;have b:¬Rgt (Inn c) l:=fun h=>by have:=h2.2 h;rw [e2]at this;cases this
   simp [a,b]
 |false =>
  have a:¬Lft (Inn c) l:=fun h=>by have:=h1.2 h;rw [e1]at this;cases this
  simp [a]
def Tr.lok:Tr→Prop
 | .leaf _=>True
 | .node l a b=>l.ok∧a.lok∧b.lok
open Classical in
noncomputable def gd:Tr→(Pq→Prop)→Tr
 | .leaf i,_ => .leaf i
 | .node l a b,I=>if¬Rgt I l then gd a I else if¬Lft I l then gd b I else rR l (gd a fun q=>I q∧0<a8 l q) (gd b fun q=>I q∧a8 l q<0)
open Classical in
theorem EV (l:Li) (q:Pq):0<a8 l.neg q↔a8 l q<0:=by rw [gC];grind
theorem oP {c:List Li}{l:Li}(hc:∀l∈c,l.ok) (hl:l.ok) (h:Lft (Inn c) l):Inn (gE c l)=fun q=>Inn c q∧0<a8 l q:=by
 funext q
 refine propext ?_;unfold gE;rw [iL (gY hc hl) (h.imp fun q hq=>dN.2 hq),dN]
theorem qC {c:List Li}{l:Li}(hc:∀l∈c,l.ok) (hl:l.ok) (h:Rgt (Inn c) l):Inn (gE c l.neg)=fun q=>Inn c q∧a8 l q<0:=by
 rw [oP hc hl.neg (h.imp fun q hq=>⟨hq.1,(EV l q).2 hq.2⟩)];funext q
 rw [EV]
theorem wc {c:List Li}{l:Li}(hc:∀l∈c,l.ok) (hl:l.ok):∀m∈gE c l,m.ok:=fun m hm=>gY hc hl m ((fG (gY hc hl)).1 hm).1
theorem kK:∀{t:Tr}{c:List Li},t.lok→(∀l∈c,l.ok)→(∃q,Inn c q)→cG t c=gd t (Inn c)
 | .leaf i,c,_,_,_=>rfl
 | .node l a b,c,⟨hl,ha,hb⟩,hc,hn=>by
  obtain⟨q,hq⟩:=hn;obtain⟨p0,p1,p2⟩:=wV hc hl;unfold cG gd;by_cases h1:Rgt (Inn c) l
  ·rw [if_neg (fun e=>(p1.1 e).2 h1)];rw [if_neg (show¬¬Rgt (Inn c) l from fun h=>h h1)];by_cases h2:Lft (Inn c) l
   ·rw [if_neg (fun e=>p2.1 e h2),if_neg (show¬¬Lft (Inn c) l from fun h=>h h2)];rw [kK ha (wc hc hl) (by rw [oP hc hl h2];exact h2),kK hb (wc hc hl.neg) (by rw [qC hc hl h1];exact h1),oP hc hl h2,qC hc hl h1]
   ·rw [if_pos (p2.2 h2),if_pos h2];exact kK hb hc ⟨q,hq⟩
  ·have h2:=(hq.side hl).resolve_right h1;rw [if_pos (p1.2 ⟨h2,h1⟩),if_pos h1];exact kK ha hc ⟨q,hq⟩
end Go.Ab
