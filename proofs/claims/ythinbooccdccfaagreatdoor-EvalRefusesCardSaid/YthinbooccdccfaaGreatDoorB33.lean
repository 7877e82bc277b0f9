/- Texts laid one behind the other: EvF, Open, RowKit, LaidKit, ExprOpen, Dis. -/
import Derived.Test.YthinbooccdccfaaGreatDoorB32
import Derived.Test.YthinbooccdccfaaGreatDoorB31
import Derived.Test.YthinbooccdccfaaGreatDoorB03
import Derived.ProofKit
import Derived.OpenShut
import Derived.ChangeOld
import Derived.Below
import Derived.OpenVars
import Derived.Deep.Slices
import Derived.Test.YthinbooccdccfaaGreatDoorB10
import Derived.WalkKit
import Derived.Test.YthinbooccdccfaaGreatDoorB08
import Derived.Stop.LaidErr
import Derived.LaidMore
import Derived.Deep.DeepHandedRow
import Derived.Deep.DeepWitnessRowRef
import Derived.Test.YthinbooccdccfaaGreatDoorB25
set_option linter.unusedSectionVars false
set_option linter.unusedVariables false
set_option linter.unusedSimpArgs false
namespace Go.Ab
open Go.Proofs
variable [Base]
def abN (more:Bool):List (List UInt8):=if more=true then [[97],[98]]else [[97]]
class Kinds (gi gn gr gb:Nat):Prop where
 n:Dis gn gi
 r:Dis gr gi
 b:Dis gb gi
theorem Kinds.of {gi gn gr gb:Nat} [h:Kinds gi gn gr gb] (e:Nat):Dis (gOf gn gr gb e) gi:=by
 unfold gOf
 split
 ·exact h.n
 ·split
  ·exact h.b
  ·exact h.r
theorem otx_ne {ns:List Nd}{tx:List UInt8}(h:otx ns=some tx):1≤ns.length:=by
 cases ns with
 |nil=>exact absurd h (by rw [show otx []=none from rfl];simp)
 |cons a r=>simp
theorem runE_one {ns:List Nd}(hok:∀n∈ns,n.ok 4) (hns:ns.length≤8) (i:Bool):RunE (hLs ns) 500 [[97]] [.leaf i] ns 4 :=
 ⟨evE_one _ hLs_ok (hLs_le hok (by omega)) (by have:=hLs_len ns;omega) i,(fun t ht=>by rw [List.mem_singleton.1 ht];exact Nat.zero_le _),hok,by omega,by omega,fun n hn h4 hd=>hLs_mem hn h4 hd⟩
theorem last_gd {L:List Li}{LL:Nat}{nm:List (List UInt8)}{ts:List Tr}(h:EvE L LL nm ts){free:Bool}{bud:Int}{ns:List Nd}{o:List Tr}(hh:∀n∈ns,n.k=4→degN n=false→thrN n∈L) (e:evGo nm ts free bud ns [] = .ok o) (hn:1≤ns.length) :
  o.length=ns.length∧∃t,o[o.length-1]? = some t∧t.all (fun l=>l.le 1000000)∧t.size≤1000000∧∀u∈o,sizeT u≤100000000:=by
 obtain⟨h1,h2⟩:=evGo_gd h hh (fun t ht=>by cases ht) e
 simp only [List.length_nil,Nat.zero_add]at h2
 have hlt:o.length-1<o.length:=by omega
 refine⟨h2,o[o.length-1],List.getElem?_eq_getElem hlt,?_,?_,?_⟩
 ·exact Tr.lin.all (fun l hl=>(h.le l hl).gr (by have:=h.l2;omega)) (h1 _ (List.getElem_mem hlt)).1
 ·rw [size_eq]
  have g:=(h1 _ (List.getElem_mem hlt)).size h.ok
  have hm:L.length*(1+L.length)≤100*101:=Nat.mul_le_mul h.len (by have:=h.len;omega)
  omega
 ·intro u hu
  have g:=(h1 u hu).size h.ok
  have hm:L.length*(1+L.length)≤100*101:=Nat.mul_le_mul h.len (by have:=h.len;omega)
  omega
set_option maxHeartbeats 8000000 in
theorem erefuses_pu [Sent 0] [Sent 1] [Sent 5] [Sent 6] [Sent 2] [Sent 3] [Kinds 0 1 2 3] (ns:List Nd) (hlen:ns.length≤9223372036854775807) (hD:∀n∈ns,(D n.a.n∧D n.a.d)∧(D n.b.n∧D n.b.d)∧(D n.c.n∧D n.c.d)∧(D n.e.n∧D n.e.d)) (hnm:∀n∈ns,n.nm.length≤9223372036854775807) (more bad:Bool) :
  Pu Tryz.prog 3 [sl (ns.map ndx).flatten ns.length,lit (.bool more),lit (.bool bad)] (lit (.bool true)):=by
 have kn:=known32
 by_cases h12:ns.length≤8
 case neg =>
  refine Pu.intro Tryz.func3 rfl (by kernel_rfl) fun C=>?_
  repeat(first|(refine A1 ⟨?_⟩;intros)|refine W4 kn ⟨?_⟩)
  exact E1
 refine Pu.intro Tryz.func3 rfl (by kernel_rfl) fun C=>?_
 repeat(refine A1 ⟨?_⟩;intros)
 refine WP.loopS (ι:=Nat) (fun k=>k≤ns.length∧∀n∈ns.take k,n.ok 4) (fun k=>ns.length-k)
  (fun k=>fm [(0,sl (ns.map ndx).flatten ns.length),(1,lit (.bool more)),(2,lit (.bool bad)),(21,sl (ns.map ndx).flatten ns.length),(22,lit (.int .i64 ns.length)),(23,lit (.int .i64 k))])
  (fun _=>[]) 0 ⟨Nat.zero_le _,by simp⟩ lfA (List.nil_sublist _) ?_
 rintro k ⟨hk,hok⟩ K hK
 by_cases hkl:k<ns.length
 ·have hget:=List.getElem?_eq_getElem hkl
  generalize ns[k]=n at hget
  have hmem:n∈ns:=List.mem_of_getElem? hget
  have hat:=flat_at (f:=ndx) (n:=19) ndx_len hget
  have hne:(ns.map ndx).flatten≠[]:=flat_ne ndx_len (by omega) (fun e=>by rw [e]at hkl;simp at hkl)
  obtain⟨d1,d2,d3,d4⟩:=hD n hmem
  have hn1:=hnm n hmem
  by_cases h40:n.nm.length≤40
  case neg =>
   clear hK hok hD hnm
   repeat(refine A1 ⟨?_⟩;intros)
   refine Wo (ov_idxS (cs':=ndx n) rfl rfl (by omega) (by omega) hat hne) ?_
   repeat(first|(refine A1 ⟨?_⟩;intros)|refine W4 kn ⟨?_⟩)
   exact E1
  by_cases hsm:∀p∈[(n.a,n.b),(n.c,n.e)],p.1.short 4∧p.2.short 4
  case neg =>
   have c:=smallP_f 4 (by omega) [(n.a,n.b),(n.c,n.e)] (by simp) hsm
   clear hK hok hD hnm hsm
   repeat(refine A1 ⟨?_⟩;intros)
   refine Wo (ov_idxS (cs':=ndx n) rfl rfl (by omega) (by omega) hat hne) ?_
   repeat(refine A1 ⟨?_⟩;intros)
   refine WgE ?_
   refine Sl ?_
   refine Wl fun _=>?_
   refine WpubS 36 rfl (HDel.here _) (by omega) (by omega) ?_
   refine Wcgx c ?_
   repeat(first|(refine A1 ⟨?_⟩;intros)|refine W4 kn ⟨?_⟩)
   exact E1
  have c:=smallP_t 4 (by omega) [(n.a,n.b),(n.c,n.e)] (by simp) hsm
  obtain⟨s1,s2⟩:=hsm (n.a,n.b) (by simp)
  obtain⟨s3,s4⟩:=hsm (n.c,n.e) (by simp)
  have hn:n.ok 4:=⟨⟨d1.1,d1.2,s1.1,s1.2⟩,⟨d2.1,d2.2,s2.1,s2.2⟩,⟨d3.1,d3.2,s3.1,s3.2⟩,⟨d4.1,d4.2,s4.1,s4.2⟩,by omega⟩
  have hgo:∀F' H',LeF F' (fm [(0,sl (ns.map ndx).flatten ns.length),(1,lit (.bool more)),(2,lit (.bool bad)),(21,sl (ns.map ndx).flatten ns.length),(22,lit (.int .i64 ns.length)),(23,lit (.int .i64 (k+1:Nat)))])→K F' H':=fun F' H' h =>
   hK F' H' (k+1) ⟨by omega,fun x hx=>by
    rw [List.take_add_one,hget]at hx
    rcases List.mem_append.1 hx with h|h
    ·exact hok x h
    ·simp at h;subst h;exact hn⟩ (by omega) h (List.nil_sublist _)
  clear hK hok hD hnm hsm
  repeat(refine A1 ⟨?_⟩;intros)
  refine Wo (ov_idxS (cs':=ndx n) rfl rfl (by omega) (by omega) hat hne) ?_
  repeat(refine A1 ⟨?_⟩;intros)
  refine WgE ?_
  refine Sl ?_
  refine Wl fun _=>?_
  refine WpubS 36 rfl (HDel.here _) (by omega) (by omega) ?_
  refine Wcgx c ?_
  repeat(refine A1 ⟨?_⟩;intros)
  exact hgo _ _ lfA
 ·have hke:k=ns.length:=by omega
  subst hke
  rw [List.take_length]at hok
  have c3:=rExpr_pu ns hok (by omega) (by omega)
  have ci:=is_pu 0
  have cn:=isNil_pu 0
  clear hK hD hnm
  cases bad with
  |true =>
   cases more with
   |true =>
    have e1:=eval_sent (run_5 (sl (ns.map ndx).flatten ns.length) ((abN true).map str) 2 1000 false)
    have e2:=sizes_sent (run_5 (sl (ns.map ndx).flatten ns.length) ((abN true).map str) 2 0 true)
    clear cn h12 hok
    cases ho:otx ns with
    |none =>
     rw [ho]at c3
     unfold rans at c3
     simp only at c3
     clear ho
     repeat(refine A1 ⟨?_⟩;intros)
     rename_i b0 bt1 bn
     have hown0:Own 9 1 1 [str [97]] (lit (.slice (some ⟨b0,0,none⟩) 1 1)) [(b0,9,[str [97]])]:=⟨rfl, .inr ⟨b0,1,Nat.le_refl _,by decide,rfl,rfl⟩⟩
     refine Wown hown0 (by omega) (fun s' H' hown'=>?_) (hsp:=Tk.skip _ (Tk.skip _ (Tk.same _)))
     obtain⟨b2,c2',hnc,hcm,rfl,rfl⟩:=hown'.blk (by omega)
     simp only [List.cons_append,List.nil_append]
     (refine O1 ⟨?_⟩;intros)
     repeat(refine AS ⟨?_⟩;intros)
     refine WPL.pub (d:=9) (s':=sl ((abN true).map str) 2) (HDel.there _ (HDel.there _ (HDel.here _))) rfl (fun m arr h1 h2=>pub_ownL h1 h2 hnc hcm) ?_
     clear hown' hown0
     (refine O1 ⟨?_⟩;intros)
     repeat(refine AS ⟨?_⟩;intros)
     repeat(refine AS ⟨?_⟩;intros)
     (refine O1 ⟨?_⟩;intros)
     (refine O1 ⟨?_⟩;intros)
     (refine O1 ⟨?_⟩;intros)
     (refine O1 ⟨?_⟩;intros)
     repeat(refine AS ⟨?_⟩;intros)
     refine WpubS 10 rfl (HDel.there _ (HDel.here _)) (by omega) (by omega) ?_
     repeat(first|(refine A1 ⟨?_⟩;intros)|refine W4 e1 ⟨?_⟩|refine W4 e2 ⟨?_⟩|refine W4 c3 ⟨?_⟩|refine W4 kn ⟨?_⟩|refine W4 ci ⟨?_⟩)
     exact E1
    |some tx =>
     rw [ho]at c3
     unfold rans at c3
     simp only at c3
     clear ho
     repeat(refine A1 ⟨?_⟩;intros)
     rename_i b0 bt1 bn
     have hown0:Own 9 1 1 [str [97]] (lit (.slice (some ⟨b0,0,none⟩) 1 1)) [(b0,9,[str [97]])]:=⟨rfl, .inr ⟨b0,1,Nat.le_refl _,by decide,rfl,rfl⟩⟩
     refine Wown hown0 (by omega) (fun s' H' hown'=>?_) (hsp:=Tk.skip _ (Tk.skip _ (Tk.same _)))
     obtain⟨b2,c2',hnc,hcm,rfl,rfl⟩:=hown'.blk (by omega)
     simp only [List.cons_append,List.nil_append]
     (refine O1 ⟨?_⟩;intros)
     repeat(refine AS ⟨?_⟩;intros)
     refine WPL.pub (d:=9) (s':=sl ((abN true).map str) 2) (HDel.there _ (HDel.there _ (HDel.here _))) rfl (fun m arr h1 h2=>pub_ownL h1 h2 hnc hcm) ?_
     clear hown' hown0
     (refine O1 ⟨?_⟩;intros)
     repeat(refine AS ⟨?_⟩;intros)
     repeat(refine AS ⟨?_⟩;intros)
     (refine O1 ⟨?_⟩;intros)
     (refine O1 ⟨?_⟩;intros)
     (refine O1 ⟨?_⟩;intros)
     (refine O1 ⟨?_⟩;intros)
     repeat(refine AS ⟨?_⟩;intros)
     refine WpubS 10 rfl (HDel.there _ (HDel.here _)) (by omega) (by omega) ?_
     repeat(first|(refine A1 ⟨?_⟩;intros)|refine W4 e1 ⟨?_⟩|refine W4 e2 ⟨?_⟩|refine W4 c3 ⟨?_⟩|refine W4 kn ⟨?_⟩|refine W4 ci ⟨?_⟩)
     exact E1
   |false =>
    have e1:=eval_sent (run_5 (sl (ns.map ndx).flatten ns.length) ([str [97]]) 1 1000 false)
    have e2:=sizes_sent (run_5 (sl (ns.map ndx).flatten ns.length) ([str [97]]) 1 0 true)
    clear cn h12 hok
    cases ho:otx ns with
    |none =>
     rw [ho]at c3
     unfold rans at c3
     simp only at c3
     clear ho
     repeat(refine AS ⟨?_⟩;intros)
     (refine O1 ⟨?_⟩;intros)
     repeat(refine AS ⟨?_⟩;intros)
     (refine O1 ⟨?_⟩;intros)
     (refine O1 ⟨?_⟩;intros)
     (refine O1 ⟨?_⟩;intros)
     (refine O1 ⟨?_⟩;intros)
     (refine O1 ⟨?_⟩;intros)
     repeat(refine AS ⟨?_⟩;intros)
     (refine O1 ⟨?_⟩;intros)
     repeat(refine AS ⟨?_⟩;intros)
     (refine O1 ⟨?_⟩;intros)
     repeat(refine AS ⟨?_⟩;intros)
     (refine O1 ⟨?_⟩;intros)
     (refine O1 ⟨?_⟩;intros)
     (refine O1 ⟨?_⟩;intros)
     (refine O1 ⟨?_⟩;intros)
     repeat(refine AS ⟨?_⟩;intros)
     refine WpubS 9 rfl (HDel.there _ (HDel.here _)) (by omega) (by omega) ?_
     refine WpubS 10 rfl (HDel.here _) (by omega) (by omega) ?_
     repeat(first|(refine A1 ⟨?_⟩;intros)|refine W4 e1 ⟨?_⟩|refine W4 e2 ⟨?_⟩|refine W4 c3 ⟨?_⟩|refine W4 kn ⟨?_⟩|refine W4 ci ⟨?_⟩)
     exact E1
    |some tx =>
     rw [ho]at c3
     unfold rans at c3
     simp only at c3
     clear ho
     repeat(refine AS ⟨?_⟩;intros)
     (refine O1 ⟨?_⟩;intros)
     repeat(refine AS ⟨?_⟩;intros)
     (refine O1 ⟨?_⟩;intros)
     (refine O1 ⟨?_⟩;intros)
     (refine O1 ⟨?_⟩;intros)
     (refine O1 ⟨?_⟩;intros)
     (refine O1 ⟨?_⟩;intros)
     repeat(refine AS ⟨?_⟩;intros)
     (refine O1 ⟨?_⟩;intros)
     repeat(refine AS ⟨?_⟩;intros)
     (refine O1 ⟨?_⟩;intros)
     repeat(refine AS ⟨?_⟩;intros)
     (refine O1 ⟨?_⟩;intros)
     (refine O1 ⟨?_⟩;intros)
     (refine O1 ⟨?_⟩;intros)
     (refine O1 ⟨?_⟩;intros)
     repeat(refine AS ⟨?_⟩;intros)
     refine WpubS 9 rfl (HDel.there _ (HDel.here _)) (by omega) (by omega) ?_
     refine WpubS 10 rfl (HDel.here _) (by omega) (by omega) ?_
     repeat(first|(refine A1 ⟨?_⟩;intros)|refine W4 e1 ⟨?_⟩|refine W4 e2 ⟨?_⟩|refine W4 c3 ⟨?_⟩|refine W4 kn ⟨?_⟩|refine W4 ci ⟨?_⟩)
     exact E1
  |false =>
   cases more with
   |true =>
    have e1:=eval_sent (run_mis (nm:=abN true) hok (by omega) (by omega) (by decide) (by decide) true 1000 false)
    have e2:=sizes_sent (run_mis (nm:=abN true) hok (by omega) (by omega) (by decide) (by decide) true 0 true)
    clear cn h12 hok
    cases ho:otx ns with
    |none =>
     rw [ho]at c3
     unfold rans at c3
     simp only at c3
     clear ho
     repeat(refine A1 ⟨?_⟩;intros)
     rename_i b0 bt1 bn
     have hown0:Own 9 1 1 [str [97]] (lit (.slice (some ⟨b0,0,none⟩) 1 1)) [(b0,9,[str [97]])]:=⟨rfl, .inr ⟨b0,1,Nat.le_refl _,by decide,rfl,rfl⟩⟩
     refine Wown hown0 (by omega) (fun s' H' hown'=>?_) (hsp:=Tk.skip _ (Tk.skip _ (Tk.same _)))
     obtain⟨b2,c2',hnc,hcm,rfl,rfl⟩:=hown'.blk (by omega)
     simp only [List.cons_append,List.nil_append]
     (refine O1 ⟨?_⟩;intros)
     repeat(refine AS ⟨?_⟩;intros)
     refine WPL.pub (d:=9) (s':=sl ((abN true).map str) 2) (HDel.there _ (HDel.there _ (HDel.here _))) rfl (fun m arr h1 h2=>pub_ownL h1 h2 hnc hcm) ?_
     clear hown' hown0
     (refine O1 ⟨?_⟩;intros)
     repeat(refine AS ⟨?_⟩;intros)
     repeat(refine AS ⟨?_⟩;intros)
     refine WpubS 10 rfl (HDel.there _ (HDel.here _)) (by omega) (by omega) ?_
     refine WPL.low 10 rfl (s':=sl (tqx (.leaf true)) 1) (Le.slL ⟨Le.refl _,le_nilS,trivial⟩) ?_
     repeat(first|(refine A1 ⟨?_⟩;intros)|refine W4 e1 ⟨?_⟩|refine W4 e2 ⟨?_⟩|refine W4 c3 ⟨?_⟩|refine W4 kn ⟨?_⟩|refine W4 ci ⟨?_⟩)
     exact E1
    |some tx =>
     rw [ho]at c3
     unfold rans at c3
     simp only at c3
     clear ho
     repeat(refine A1 ⟨?_⟩;intros)
     rename_i b0 bt1 bn
     have hown0:Own 9 1 1 [str [97]] (lit (.slice (some ⟨b0,0,none⟩) 1 1)) [(b0,9,[str [97]])]:=⟨rfl, .inr ⟨b0,1,Nat.le_refl _,by decide,rfl,rfl⟩⟩
     refine Wown hown0 (by omega) (fun s' H' hown'=>?_) (hsp:=Tk.skip _ (Tk.skip _ (Tk.same _)))
     obtain⟨b2,c2',hnc,hcm,rfl,rfl⟩:=hown'.blk (by omega)
     simp only [List.cons_append,List.nil_append]
     (refine O1 ⟨?_⟩;intros)
     repeat(refine AS ⟨?_⟩;intros)
     refine WPL.pub (d:=9) (s':=sl ((abN true).map str) 2) (HDel.there _ (HDel.there _ (HDel.here _))) rfl (fun m arr h1 h2=>pub_ownL h1 h2 hnc hcm) ?_
     clear hown' hown0
     (refine O1 ⟨?_⟩;intros)
     repeat(refine AS ⟨?_⟩;intros)
     repeat(refine AS ⟨?_⟩;intros)
     refine WpubS 10 rfl (HDel.there _ (HDel.here _)) (by omega) (by omega) ?_
     refine WPL.low 10 rfl (s':=sl (tqx (.leaf true)) 1) (Le.slL ⟨Le.refl _,le_nilS,trivial⟩) ?_
     repeat(first|(refine A1 ⟨?_⟩;intros)|refine W4 e1 ⟨?_⟩|refine W4 e2 ⟨?_⟩|refine W4 c3 ⟨?_⟩|refine W4 kn ⟨?_⟩|refine W4 ci ⟨?_⟩)
     exact E1
   |false =>
    have r1:=run_pu (runE_one hok h12 true) 1000 false
    have r2:=run_pu (runE_one hok h12 true) 0 true
    cases ho:otx ns with
    |none =>
     rw [if_pos ho]at r1 r2
     have e1:=eval_sent r1
     have e2:=sizes_sent r2
     rw [ho]at c3
     unfold rans at c3
     simp only at c3
     clear cn h12 hok ho r1 r2
     repeat(refine AS ⟨?_⟩;intros)
     (refine O1 ⟨?_⟩;intros)
     repeat(refine AS ⟨?_⟩;intros)
     (refine O1 ⟨?_⟩;intros)
     (refine O1 ⟨?_⟩;intros)
     (refine O1 ⟨?_⟩;intros)
     (refine O1 ⟨?_⟩;intros)
     (refine O1 ⟨?_⟩;intros)
     repeat(refine AS ⟨?_⟩;intros)
     (refine O1 ⟨?_⟩;intros)
     repeat(refine AS ⟨?_⟩;intros)
     (refine O1 ⟨?_⟩;intros)
     repeat(refine AS ⟨?_⟩;intros)
     refine WpubS 9 rfl (HDel.there _ (HDel.here _)) (by omega) (by omega) ?_
     refine WpubS 10 rfl (HDel.here _) (by omega) (by omega) ?_
     refine WPL.low 10 rfl (s':=sl (tqx (.leaf true)) 1) (Le.slL ⟨Le.refl _,le_nilS,trivial⟩) ?_
     repeat(first|(refine A1 ⟨?_⟩;intros)|refine W4 e1 ⟨?_⟩|refine W4 e2 ⟨?_⟩|refine W4 c3 ⟨?_⟩|refine W4 kn ⟨?_⟩|refine W4 ci ⟨?_⟩)
     exact E1
    |some tx =>
     have hone:=otx_ne ho
     rw [if_neg (by rw [ho];simp)]at r1 r2
     rw [ho]at c3
     unfold rans at c3
     simp only at c3
     have hrun:=runE_one hok h12 true
     have l1:=fun o=>last_gd (o:=o) (free:=false) (bud:=1000) hrun.e hrun.hh
     have l2:=fun o=>last_gd (o:=o) (free:=true) (bud:=0) hrun.e hrun.hh
     cases g1:evGo [[97]] [Tr.leaf true] false 1000 ns []with
     |error p1 =>
      obtain⟨x1,n1⟩:=p1
      rw [g1,evR_err]at r1
      have e1:=eval_erA r1
      haveI:=Kinds.of (gi:=0) (gn:=1) (gr:=2) (gb:=3) x1
      have k1:=isF_pu (gOf 1 2 3 x1) 0 (lit (.int .i64 n1.ln)) (lit (.int .i64 n1.cl)) (str (lblN n1))
      generalize gOf 1 2 3 x1=q1 at *
      generalize lblN n1=t1 at *
      cases g2:evGo [[97]] [Tr.leaf true] true 0 ns []with
      |error p2 =>
       obtain⟨x2,n2⟩:=p2
       rw [g2,evR_err]at r2
       have e2:=sizes_erA r2
       haveI:=Kinds.of (gi:=0) (gn:=1) (gr:=2) (gb:=3) x2
       have k2:=isF_pu (gOf 1 2 3 x2) 0 (lit (.int .i64 n2.ln)) (lit (.int .i64 n2.cl)) (str (lblN n2))
       generalize gOf 1 2 3 x2=q2 at *
       generalize lblN n2=t2 at *
       clear ci cn h12 hok ho r1 r2 g1 g2 l1 l2 hrun hone
       repeat(refine AS ⟨?_⟩;intros)
       (refine O1 ⟨?_⟩;intros)
       repeat(refine AS ⟨?_⟩;intros)
       (refine O1 ⟨?_⟩;intros)
       (refine O1 ⟨?_⟩;intros)
       (refine O1 ⟨?_⟩;intros)
       (refine O1 ⟨?_⟩;intros)
       (refine O1 ⟨?_⟩;intros)
       repeat(refine AS ⟨?_⟩;intros)
       (refine O1 ⟨?_⟩;intros)
       repeat(refine AS ⟨?_⟩;intros)
       (refine O1 ⟨?_⟩;intros)
       repeat(refine AS ⟨?_⟩;intros)
       refine WpubS 9 rfl (HDel.there _ (HDel.here _)) (by omega) (by omega) ?_
       refine WpubS 10 rfl (HDel.here _) (by omega) (by omega) ?_
       refine WPL.low 10 rfl (s':=sl (tqx (.leaf true)) 1) (Le.slL ⟨Le.refl _,le_nilS,trivial⟩) ?_
       repeat(first|(refine A1 ⟨?_⟩;intros)|refine W4 e1 ⟨?_⟩|refine W4 e2 ⟨?_⟩|refine W4 c3 ⟨?_⟩|refine W4 kn ⟨?_⟩|refine W4 k1 ⟨?_⟩|refine W4 k2 ⟨?_⟩)
       exact E1
      |ok o2 =>
       rw [g2,evR_ok]at r2
       obtain⟨z2,t2,y1,y2,y3,y4⟩:=l2 o2 g2 hone
       have e2:=sizes_ok (by omega) y4 r2
       clear ci h12 hok ho r1 r2 g1 g2 l1 l2 hrun hone z2 y1 y2 y3 y4
       repeat(refine AS ⟨?_⟩;intros)
       (refine O1 ⟨?_⟩;intros)
       repeat(refine AS ⟨?_⟩;intros)
       (refine O1 ⟨?_⟩;intros)
       (refine O1 ⟨?_⟩;intros)
       (refine O1 ⟨?_⟩;intros)
       (refine O1 ⟨?_⟩;intros)
       (refine O1 ⟨?_⟩;intros)
       repeat(refine AS ⟨?_⟩;intros)
       (refine O1 ⟨?_⟩;intros)
       repeat(refine AS ⟨?_⟩;intros)
       (refine O1 ⟨?_⟩;intros)
       repeat(refine AS ⟨?_⟩;intros)
       refine WpubS 9 rfl (HDel.there _ (HDel.here _)) (by omega) (by omega) ?_
       refine WpubS 10 rfl (HDel.here _) (by omega) (by omega) ?_
       refine WPL.low 10 rfl (s':=sl (tqx (.leaf true)) 1) (Le.slL ⟨Le.refl _,le_nilS,trivial⟩) ?_
       repeat(first|(refine A1 ⟨?_⟩;intros)|refine W4 e1 ⟨?_⟩|refine W4 e2 ⟨?_⟩|refine W4 c3 ⟨?_⟩|refine W4 kn ⟨?_⟩|refine W4 k1 ⟨?_⟩|refine W4 cn ⟨?_⟩)
       exact E1
     |ok o1 =>
      rw [g1,evR_ok]at r1
      obtain⟨z1,t1,x1,x2,x3,x4⟩:=l1 o1 g1 hone
      have e1:=eval_ok (by omega) x1 x2 x3 r1
      cases g2:evGo [[97]] [Tr.leaf true] true 0 ns []with
      |error p2 =>
       obtain⟨x2,n2⟩:=p2
       rw [g2,evR_err]at r2
       have e2:=sizes_erA r2
       haveI:=Kinds.of (gi:=0) (gn:=1) (gr:=2) (gb:=3) x2
       have k2:=isF_pu (gOf 1 2 3 x2) 0 (lit (.int .i64 n2.ln)) (lit (.int .i64 n2.cl)) (str (lblN n2))
       generalize gOf 1 2 3 x2=q2 at *
       generalize lblN n2=t2 at *
       clear ci h12 hok ho r1 r2 g1 g2 l1 l2 hrun hone
       repeat(refine AS ⟨?_⟩;intros)
       (refine O1 ⟨?_⟩;intros)
       repeat(refine AS ⟨?_⟩;intros)
       (refine O1 ⟨?_⟩;intros)
       (refine O1 ⟨?_⟩;intros)
       (refine O1 ⟨?_⟩;intros)
       (refine O1 ⟨?_⟩;intros)
       (refine O1 ⟨?_⟩;intros)
       repeat(refine AS ⟨?_⟩;intros)
       (refine O1 ⟨?_⟩;intros)
       repeat(refine AS ⟨?_⟩;intros)
       (refine O1 ⟨?_⟩;intros)
       repeat(refine AS ⟨?_⟩;intros)
       refine WpubS 9 rfl (HDel.there _ (HDel.here _)) (by omega) (by omega) ?_
       refine WpubS 10 rfl (HDel.here _) (by omega) (by omega) ?_
       refine WPL.low 10 rfl (s':=sl (tqx (.leaf true)) 1) (Le.slL ⟨Le.refl _,le_nilS,trivial⟩) ?_
       repeat(first|(refine A1 ⟨?_⟩;intros)|refine W4 e1 ⟨?_⟩|refine W4 e2 ⟨?_⟩|refine W4 c3 ⟨?_⟩|refine W4 kn ⟨?_⟩|refine W4 cn ⟨?_⟩|refine W4 k2 ⟨?_⟩)
       exact E1
      |ok o2 =>
       rw [g2,evR_ok]at r2
       obtain⟨z2,t2,y1,y2,y3,y4⟩:=l2 o2 g2 hone
       have e2:=sizes_ok (by omega) y4 r2
       clear ci h12 hok ho r1 r2 g1 g2 l1 l2 hrun hone z2 y1 y2 y3 y4 z1 x1 x2 x3 x4
       repeat(refine AS ⟨?_⟩;intros)
       (refine O1 ⟨?_⟩;intros)
       repeat(refine AS ⟨?_⟩;intros)
       (refine O1 ⟨?_⟩;intros)
       (refine O1 ⟨?_⟩;intros)
       (refine O1 ⟨?_⟩;intros)
       (refine O1 ⟨?_⟩;intros)
       (refine O1 ⟨?_⟩;intros)
       repeat(refine AS ⟨?_⟩;intros)
       (refine O1 ⟨?_⟩;intros)
       repeat(refine AS ⟨?_⟩;intros)
       (refine O1 ⟨?_⟩;intros)
       repeat(refine AS ⟨?_⟩;intros)
       refine WpubS 9 rfl (HDel.there _ (HDel.here _)) (by omega) (by omega) ?_
       refine WpubS 10 rfl (HDel.here _) (by omega) (by omega) ?_
       refine WPL.low 10 rfl (s':=sl (tqx (.leaf true)) 1) (Le.slL ⟨Le.refl _,le_nilS,trivial⟩) ?_
       repeat(first|(refine A1 ⟨?_⟩;intros)|refine W4 e1 ⟨?_⟩|refine W4 e2 ⟨?_⟩|refine W4 c3 ⟨?_⟩|refine W4 kn ⟨?_⟩|refine W4 cn ⟨?_⟩)
       exact E1
open Go.ChangeShapes Go.WideShapes Go.ChangeAt Go.RowKit
section
variable {H:Type}{enc:TypeId×Value→H}{P:Program}{w:World}{sp:Nat→Bool}{held:Bool}
def memOf (w:World):Mem:=fun b=>w.heap[b]?
theorem memOf_in (w:World) (h:Base.mem.le (memOf w)):MemIn (memOf w) w:=⟨fun _ _ h=>h,h⟩
def Opn (enc:TypeId×Value→H) (P:Program) (w:World) (sp:Nat→Bool) (held:Bool) (T:TypeId) (G:List SV→Prop):Prop :=
 ∀fuel cs x,DataW.trod enc P w 0 sp held fuel T cs=some x→∃svs,G svs∧All2 (memOf w) svs cs
inductive Cat:List (List SV→Prop)→List SV→Prop
 |nil:Cat [] []
 |cons {G:List SV→Prop}{Gs:List (List SV→Prop)}{a b:List SV}(h:G a) (k:Cat Gs b):Cat (G::Gs) (a++b)
def GBool:List SV→Prop:=fun l=>∃b,l=[lit (.bool b)]
def GInt (k:IntKind):List SV→Prop:=fun l=>∃n,(Lit.int k n).wf=true∧l=[lit (.int k n)]
def GStr:List SV→Prop:=fun l=>∃s:ByteArray,s.size≤maxLen∧l=[lit (.string s)]
def GNat:List SV→Prop:=fun l=>∃xs,D xs∧l=[dg xs]
def GInts (k:IntKind):List SV→Prop:=fun l=>∃zs:List Int,(∀z∈zs,(Lit.int k z).wf=true)∧zs.length≤maxLen∧l=[nsl k zs]
def GSl (k:Nat) (G:List SV→Prop):List SV→Prop:=fun l=>∃es:List (List SV),(∀e∈es,G e∧e.length=k)∧es.length≤maxLen∧l=[sl es.flatten es.length]
theorem all2_one {m:Mem}{s:SV}{v:Value}(h:s.p m v) (f:v.oneCell'=true):All2 m [s] [v]:=⟨⟨h,f⟩,trivial⟩
theorem opn_bool {T:TypeId} [hT:TBo P T]:Opn enc P w sp held T GBool:=fun fuel cs x h=>by
 obtain⟨b,rfl,_⟩:=DataW.trod_bool hT.h h
 exact⟨_,⟨b,rfl⟩,all2_one (lit_p.2 rfl) rfl⟩
theorem opn_int {T:TypeId}{k:IntKind} [hT:TIn P T k]:Opn enc P w sp held T (GInt k):=fun fuel cs x h=>by
 obtain⟨n,rfl,_,hw⟩:=DataW.trod_int hT.h h
 exact⟨_,⟨n,hw,rfl⟩,all2_one (lit_p.2 rfl) rfl⟩
theorem opn_str {T:TypeId} [hT:TSr P T]:Opn enc P w sp held T GStr:=fun fuel cs x h=>by
 obtain⟨s,rfl,_,hw⟩:=DataW.trod_string hT.h h
 exact⟨_,⟨s,hw,rfl⟩,all2_one (lit_p.2 rfl) rfl⟩
def laid (P:Program):List Field→Nat→Nat→Bool
 | [],o,n=>Nat.beq o n
 |f::fs,o,n=>Nat.beq f.offset o&&laid P fs (o+P.cellsOf f.type) n
inductive Opns (enc:TypeId×Value→H) (P:Program) (w:World) (sp:Nat→Bool) (held:Bool):List TypeId→List (List SV→Prop)→Prop
 |nil:Opns enc P w sp held [] []
 |cons {T:TypeId}{G:List SV→Prop}{Ts:List TypeId}{Gs:List (List SV→Prop)}(h:Opn enc P w sp held T G) (k:Opns enc P w sp held Ts Gs):Opns enc P w sp held (T::Ts) (G::Gs)
theorem opn_cat {n:Nat}:∀{fs:List Field}{Gs:List (List SV→Prop)}{o:Nat}{cs:List Value},Opns enc P w sp held (fs.map (·.type)) Gs→laid P fs o cs.length=true→
  (∀(i:Nat) (f:Field),fs[i]? = some f→∃x,DataW.trod enc P w 0 sp held n f.type ((cs.drop f.offset).take (P.cellsOf f.type))=some x)→
  ∃svs,Cat Gs svs∧All2 (memOf w) svs (cs.drop o)
 | [],_,o,cs,h,hl,_=>by
  cases h
  simp only [laid]at hl
  have:=Nat.eq_of_beq_eq_true hl
  subst this
  exact⟨[], .nil,by rw [List.drop_length];trivial⟩
 |f::fs,_,o,cs,h,hl,hx=>by
  cases h with
  |cons h k =>
   simp only [laid,Bool.and_eq_true]at hl
   have ho:=Nat.eq_of_beq_eq_true hl.1
   obtain⟨x,hx0⟩:=hx 0 f rfl
   rw [ho]at hx0
   obtain⟨s0,g0,a0⟩:=h _ _ _ hx0
   obtain⟨s1,g1,a1⟩:=opn_cat k hl.2 fun i f' hf=>hx (i+1) f' (by simpa using hf)
   refine⟨s0++s1, .cons g0 g1,?_⟩
   have:=a0.append a1
   rwa [←List.drop_drop,List.take_append_drop]at this
theorem opn_struct {T:TypeId}{fs:Array Field}{Gs:List (List SV→Prop)}(hT:P.underlying T=some (.struct fs)) (hl:laid P fs.toList 0 (P.cellsOf T)=true) (ho:Opns enc P w sp held (fs.toList.map (·.type)) Gs):Opn enc P w sp held T (Cat Gs):=fun fuel cs x h=>by
 obtain⟨xs,n,_,_,hc,hlen,hf⟩:=DataW.trod_struct hT h
 have:=opn_cat (n:=n) (cs:=cs) ho (by rw [hc];exact hl) fun i f hi=>by
  have h1:=hf i f (by simpa using hi)
  have h2:i<xs.length:=by
   have:=(List.getElem?_eq_some_iff.1 hi).1
   simp at this;omega
  rw [List.getElem?_eq_getElem h2]at h1
  exact⟨_,h1⟩
 simpa using this
theorem cells_get {a:Addr}{n:Nat}{cs:List Value}(h:w.cells? 0 a n=some cs):cs.length=n∧∀j,j<n→w.cell? (a.add j)=cs[j]?:=by
 unfold World.cells? at h
 rw [if_pos (Nat.zero_le _)]at h
 have hl:=mapM_some_length h
 refine⟨by simpa using hl,fun j hj=>?_⟩
 have:=mapM_some_get h j j (by simp [hj])
 simpa using this
theorem flat_range {m:Mem}{f:Nat→List SV}{k:Nat}{vs:List Value}:∀{n:Nat},(∀i,i<n→(f i).length=k∧All2 m (f i) ((vs.drop (i*k)).take k))→All2 m ((List.range n).map f).flatten (vs.take (n*k))
 |0,_=>by simp [All2]
 |n+1,h=>by
  have h1:=flat_range (n:=n) fun i hi=>h i (by omega)
  have h2:=(h n (by omega)).2
  have:=h1.append h2
  rw [List.range_succ,List.map_append,List.flatten_append,show(n+1)*k=n*k+k from by rw [Nat.add_mul,Nat.one_mul],List.take_add]
  simpa using this
theorem opn_slice {T e:TypeId}{k:Nat}{G:List SV→Prop} [hT:TSl P T e] (hk:P.cellsOf e=k) (hk0:0<k) (hG:Opn enc P w sp held e G):Opn enc P w sp held T (GSl k G):=fun fuel cs x h=>by
 rcases Deep.open_slice hT.h h with⟨rfl,_⟩|⟨a,len,cap,m,n,Dd,Pl,rfl,_,hlc,hcm,hm,_,hx⟩
 ·exact⟨_,⟨[],by simp,by simp,rfl⟩,all2_one (sl_mk (by simp) (by simp [maxLen]) (.inl rfl)) rfl⟩
 ·have hlm:len≤m:=by rw [hm];split <;> omega
  have hcell:∀i,i<len→∃l,G l∧l.length=k∧∃cs',w.cells? 0 (a.add (i*k)) k=some cs'∧All2 (memOf w) l cs':=fun i hi=>by
   obtain⟨cs',h1,h2⟩:=hx i (by omega)
   rw [hk]at h1
   obtain⟨l,g1,g2⟩:=hG _ _ _ h2
   exact⟨l,g1,by rw [←g2.length,(cells_get h1).1],cs',h1,g2⟩
  have hch:∀i:Nat,∃l,i<len→G l∧l.length=k∧∃cs',w.cells? 0 (a.add (i*k)) k=some cs'∧All2 (memOf w) l cs':=fun i=>by
   by_cases hi:i<len
   ·obtain⟨l,hl⟩:=hcell i hi
    exact⟨l,fun _=>hl⟩
   ·exact⟨[],fun h=>absurd h hi⟩
  obtain⟨f,hf⟩:=Classical.axiomOfChoice hch
  refine⟨_,⟨(List.range len).map f,fun l hl=>?_,by simp;omega,rfl⟩,all2_one (v := .slice (some a) len cap) ?_ rfl⟩
  ·obtain⟨i,hi,rfl⟩:=List.mem_map.1 hl
   have:=hf i (by simpa using hi)
   exact⟨this.1,this.2.1⟩
  ·rw [List.length_map,List.length_range]
   refine sl_mk hlc hcm ?_
   rcases Nat.eq_zero_or_pos len with h0|h0
   ·left;subst h0;rfl
   ·right
    obtain⟨_,hl0,cs0,hc0,_⟩:=hf 0 h0
    have hcc:=(cells_get hc0).2 0 hk0
    rw [Nat.zero_mul]at hcc
    have hcl:=(cells_get hc0).1
    rw [List.getElem?_eq_getElem (by omega)]at hcc
    obtain⟨b,off,spot⟩:=a
    have hs:spot=none:=by simpa [Addr.add] using World.cell?_spot hcc
    subst hs
    simp only [add_none,Nat.add_zero]at hcc
    have hb:∃arr T fz,w.heap[b]? = some (.cells arr T fz):=by
     unfold World.cell? at hcc
     cases hbb:w.heap[b]? with
     |none=>simp [hbb]at hcc
     |some o=>cases o with
      |cells arr T fz=>exact⟨arr,T,fz,rfl⟩
      |_=>simp [hbb]at hcc
    obtain⟨arr,T',fz,hb⟩:=hb
    refine⟨b,off,rfl,arr,T',fz,hb,?_⟩
    have hfl:((List.range len).map f).flatten.length=len*k:=by
     have:∀n,n≤len→((List.range n).map f).flatten.length=n*k:=by
      intro n
      induction n with
      |zero=>intro _;simp
      |succ n ih=>intro hn;rw [List.range_succ,List.map_append,List.flatten_append,List.length_append,ih (by omega)];simp [(hf n (by omega)).2.1,Nat.add_mul]
     exact this len (Nat.le_refl _)
    rw [hfl]
    refine flat_range fun i hi=>?_
    obtain⟨_,hl,cs',hc,ha⟩:=hf i hi
    refine⟨hl,?_⟩
    have hcs:cs'=((arr.toList.drop off).drop (i*k)).take k:=by
     obtain⟨g1,g2⟩:=cells_get hc
     apply List.ext_getElem?
     intro j
     by_cases hj:j<k
     ·have h1:=g2 j hj
      simp only [add_none]at h1
      rw [cell_of w b _ arr _ _ hb]at h1
      rw [List.getElem?_take_of_lt hj,List.getElem?_drop,List.getElem?_drop,←h1]
      simp [Nat.add_assoc]
     ·rw [List.getElem?_eq_none (by omega),List.getElem?_eq_none (by rw [List.length_take];omega)]
    rw [←hcs];exact ha
theorem opn_ints {T e:TypeId}{k:IntKind} [hT:TSl P T e] [hE:TIn P e k] (hk:P.cellsOf e=1):Opn enc P w sp held T (GInts k):=fun fuel cs x h=>by
 obtain⟨svs,⟨es,hes,hl,rfl⟩,ha⟩:=opn_slice (k:=1) hk (by omega) (opn_int (k:=k)) fuel cs x h
 refine⟨_,?_,ha⟩
 have:∃zs:List Int,(∀z∈zs,(Lit.int k z).wf=true)∧es=zs.map fun z=>[lit (.int k z)]:=by
  clear ha hl
  induction es with
  |nil=>exact⟨[],by simp,rfl⟩
  |cons e es ih =>
   obtain⟨zs,h1,h2⟩:=ih fun x hx=>hes x (by simp [hx])
   obtain⟨⟨z,hz,rfl⟩,_⟩:=hes e (by simp)
   exact⟨z::zs,by simpa using ⟨hz,h1⟩,by rw [h2];rfl⟩
 obtain⟨zs,h1,rfl⟩:=this
 refine⟨zs,h1,by simpa using hl,?_⟩
 have hfl:(zs.map fun z=>[lit (.int k z)]).flatten=zs.map fun z=>lit (.int k z):=by
  clear hl hes ha h1
  induction zs with
  |nil=>rfl
  |cons z zs ih=>simp [ih]
 rw [hfl,List.length_map]
 unfold nsl;rfl
theorem opn_nat {T e:TypeId} [hT:TSl P T e] [hE:TIn P e .u32] (hk:P.cellsOf e=1):Opn enc P w sp held T GNat:=fun fuel cs x h=>by
 obtain⟨svs,⟨zs,hz,hl,rfl⟩,ha⟩:=opn_ints (k := .u32) hk fuel cs x h
 have:∃xs:List Nat,D xs∧zs=xs.map fun d:Nat=>(d:Int):=by
  clear ha hl
  induction zs with
  |nil=>exact⟨[],D.nil,rfl⟩
  |cons z zs ih =>
   obtain⟨xs,h1,h2⟩:=ih fun x hx=>hz x (by simp [hx])
   have:=hz z (by simp)
   simp only [Lit.wf,IntKind.min,IntKind.max,IntKind.signed,IntKind.bits,Bool.and_eq_true,decide_eq_true_eq]at this
   simp at this
   exact⟨z.toNat::xs,D.cons (by omega) h1,by rw [h2];simp;omega⟩
 obtain⟨xs,hD,rfl⟩:=this
 exact⟨_,⟨xs,hD,(dg_nsl xs).symm▸rfl⟩,ha⟩
end
end Go.Ab
namespace Go.Ab
open Go.Proofs
variable [Base]
open Go.ChangeShapes Go.WideShapes Go.ChangeAt Go.RowKit
theorem calls_of {P:Program}{f:FuncId}{args:List SV}{W:World}{vs:List Value}(hB:Base.mem.le (memOf W)) (h:Pu P f args (lit (.bool true))) (ha:ArgsOk (memOf W) args vs) :
  Calls P f vs.toArray W fun e w'=>e = .returned (.bool true)∧Below W.heap.size W w':=by
 unfold Pu at h
 refine(h.2 _ W vs (memOf_in W hB) ha).mono ?_
 rintro e w' ⟨v,m',rfl,hv,_,hr⟩
 rw [lit_p]at hv
 subst hv
 exact⟨rfl,hr.os,hr.tape,hr.output,hr.size,fun k hk=>hr.block k hk (by simp)⟩
theorem own0:ownKnob Tryz.prog.godebug=none:=by kernel_rfl
theorem laidOut0:laidOutB Tryz.prog=true:=by kernel_rfl
section
variable {H:Type}{enc:TypeId×Value→H}{W:World}{sp:Nat→Bool}{held:Bool}
abbrev GI:List SV→Prop:=Cat [GBool,GNat]
abbrev GR:List SV→Prop:=Cat [GI,GNat]
theorem opn_nat0:Opn enc Tryz.prog W sp held 25 GNat:=opn_nat (by kernel_rfl)
theorem opn_int0:Opn enc Tryz.prog W sp held 27 GI:=opn_struct Tryz.underlying27 (by kernel_rfl) (.cons opn_bool (.cons opn_nat0 .nil))
theorem opn_rat0:Opn enc Tryz.prog W sp held 29 GR:=opn_struct Tryz.underlying29 (by kernel_rfl) (.cons opn_int0 (.cons opn_nat0 .nil))
end
theorem cat_rat {l:List SV}(h:GR l):∃r:RQ,(D r.n∧D r.d)∧l=qcells r:=by
  cases h with
  |cons h k=>cases h with
    |cons hb hk=>cases hk with
      |cons hn hz=>cases hz;cases k with
        | cons hd hz => cases hz
                        obtain⟨b,rfl⟩:=hb
                        obtain⟨xs,hx,rfl⟩:=hn
                        obtain⟨ys,hy,rfl⟩:=hd
                        exact⟨⟨b,xs,ys⟩,⟨hx,hy⟩,rfl⟩
end Go.Ab
namespace Go.Ab
open Go.Proofs
variable [Base]
open Go.ChangeShapes Go.WideShapes Go.ChangeAt Go.RowKit
theorem starE : "*" ++ "errors.errorString" = "*errors.errorString" := by decide
theorem rowE (u:TypeId) (h:(Tryz.prog).typeName? 3 u=some "*errors.errorString"):u=514 :=
 typeName_ptr_named (nm := "errors.errorString") (by rw [starE];kernel_rfl) (by kernel_rfl) (by decide) u (by rw [starE];exact h)
theorem sent_head {n:String}{text:List UInt8}{r:List (String×DataW Unit)}{W:World}{g:Nat}(h:laidMet Tryz.prog ((n, .iface "*errors.errorString" (.ptr (.agg [.lit (.string text)])))::r) W)
  (hg:(Tryz.prog).globalNamed n=some g) (ht:((Tryz.prog).globals[g]?).map (·.type)=some 41):∃(a:Addr) (T:TypeId) (fz:Nat×Nat),W.heap[g]? = some (.cells #[.iface 514 (.pointer (some a))] T fz):=by
 obtain⟨a,s,hv,_⟩:=laid_sentinel (tp:=514) h hg ht Tryz.underlying41 rowE Tryz.underlying514 Tryz.underlying534 rfl rfl Tryz.underlying9 (by kernel_rfl) (by kernel_rfl)
 unfold World.var? at hv
 rw [hg]at hv
 simp only [Option.bind_some]at hv
 cases hh:W.heap[g]? with
 |none=>rw [hh]at hv;cases hv
 |some o =>
  rw [hh]at hv
  cases o with
  |cells cs T fz =>
   simp only [Option.some.injEq]at hv
   subst hv
   exact⟨a,T,fz,rfl⟩
  |_=>cases hv
abbrev baseOf (W:World):Base:=⟨memOf W⟩
end Go.Ab
namespace Go.Ab
open Go.Proofs
variable [Base]
open Go.ChangeShapes Go.WideShapes Go.ChangeAt Go.RowKit
section
variable {H:Type}{enc:TypeId×Value→H}{W:World}{sp:Nat→Bool}{held:Bool}
abbrev GPt:List SV→Prop:=Cat [GR,GR]
abbrev GEx:List SV→Prop:=Cat [GInt .i64,GStr,GPt,GPt,GInt .i64,GInt .i64,GInt .i64,GInt .i64,GInt .i64]
theorem opn_pt:Opn enc Tryz.prog W sp held 31 GPt:=opn_struct Tryz.underlying31 (by kernel_rfl) (.cons opn_rat0 (.cons opn_rat0 .nil))
theorem opn_expr:Opn enc Tryz.prog W sp held 33 GEx :=
 opn_struct Tryz.underlying33 (by kernel_rfl) (.cons opn_int (.cons opn_str (.cons opn_pt (.cons opn_pt (.cons opn_int (.cons opn_int (.cons opn_int (.cons opn_int (.cons opn_int .nil)))))))))
theorem opn_exprs:Opn enc Tryz.prog W sp held 22 (GSl 19 GEx):=opn_slice (by kernel_rfl) (by omega) opn_expr
end
theorem cat_pt {l:List SV}(h:GPt l):∃x y:RQ,(D x.n∧D x.d)∧(D y.n∧D y.d)∧l=qcells x++(qcells y++[]):=by
  cases h with
  |cons h1 k=>cases k with
    | cons h2 k => cases k
                   obtain⟨x,hx,rfl⟩:=cat_rat h1
                   obtain⟨y,hy,rfl⟩:=cat_rat h2
                   exact⟨x,y,hx,hy,rfl⟩
def Nd.raw (n:Nd):Prop:=((D n.a.n∧D n.a.d)∧(D n.b.n∧D n.b.d)∧(D n.c.n∧D n.c.d)∧(D n.e.n∧D n.e.d))∧n.nm.length≤9223372036854775807∧(i64R n.k∧i64R n.op∧i64R n.x∧i64R n.y)
theorem gint_i64 {l:List SV}(h:GInt .i64 l):∃z,i64R z∧l=[lit (.int .i64 z)]:=by
 obtain⟨z,hz,rfl⟩:=h
 refine⟨z,?_,rfl⟩
 simp only [Lit.wf,IntKind.min,IntKind.max,IntKind.signed,IntKind.bits,Bool.and_eq_true,decide_eq_true_eq]at hz
 unfold i64R
 simp at hz
 omega
theorem gstr_l {l:List SV}(h:GStr l):∃s:List UInt8,s.length≤9223372036854775807∧l=[str s]:=by
 obtain⟨s,hs,rfl⟩:=h
 refine⟨s.data.toList,?_,?_⟩
 ·have:s.data.toList.length=s.size:=by rw [Array.length_toList];rfl
  rw [this]
  simp only [maxLen]at hs
  omega
 ·show _=[lit (.string ⟨s.data.toList.toArray⟩)]
  rw [Array.toArray_toList]
theorem cat_expr {l:List SV}(h:GEx l):∃n:Nd,n.raw∧l=ndx n:=by
  cases h with
  |cons h1 k=>cases k with
    |cons h2 k=>cases k with
      |cons h3 k=>cases k with
        |cons h4 k=>cases k with
          |cons h5 k=>cases k with
            |cons h6 k=>cases k with
              |cons h7 k=>cases k with
                |cons h8 k=>cases k with
                  | cons h9 k => cases k
                                 obtain⟨z1,r1,rfl⟩:=gint_i64 h1
                                 obtain⟨s,r2,rfl⟩:=gstr_l h2
                                 obtain⟨a,b,ha,hb,rfl⟩:=cat_pt h3
                                 obtain⟨c,e,hc,he,rfl⟩:=cat_pt h4
                                 obtain⟨z5,r5,rfl⟩:=gint_i64 h5
                                 obtain⟨z6,r6,rfl⟩:=gint_i64 h6
                                 obtain⟨z7,r7,rfl⟩:=gint_i64 h7
                                 obtain⟨z8,r8,rfl⟩:=gint_i64 h8
                                 obtain⟨z9,r9,rfl⟩:=gint_i64 h9
                                 exact⟨⟨z1,s,a,b,c,e,z5,z6,z7,z8,z9⟩,⟨⟨ha,hb,hc,he⟩,r2,r1,r5,r6,r7⟩,rfl⟩
theorem map_of {α β:Type}{p:α→Prop}{f:α→β}:∀(es:List β),(∀e∈es,∃n,p n∧e=f n)→∃ns:List α,(∀n∈ns,p n)∧es=ns.map f
 | [],_=>⟨[],by simp,rfl⟩
 |e::es,h=>by
  obtain⟨n,h1,rfl⟩:=h e (by simp)
  obtain⟨ns,h2,rfl⟩:=map_of es fun x hx=>h x (by simp [hx])
  exact⟨n::ns,by simpa using ⟨h1,h2⟩,rfl⟩
theorem gsl_exprs {l:List SV}(h:GSl 19 GEx l):∃ns:List Nd,(∀n∈ns,n.raw)∧ns.length≤9223372036854775807∧l=[sl (ns.map ndx).flatten ns.length]:=by
 obtain⟨es,hes,hl,rfl⟩:=h
 obtain⟨ns,h1,rfl⟩:=map_of (f:=ndx) es fun e he=>cat_expr (hes e he).1
 rw [List.length_map]at hl⊢
 exact⟨ns,h1,by simp only [maxLen]at hl;omega,rfl⟩
end Go.Ab
namespace Go.Ab
open Go.Proofs
variable [Base]
theorem var_cells {n:String}{W:World}{g:Nat}{v:Value}(hg:(Tryz.prog).globalNamed n=some g) (hv:W.var? Tryz.prog n=some #[v]):∃(T:TypeId) (fz:Nat×Nat),W.heap[g]? = some (.cells #[v] T fz):=by
 unfold World.var? at hv
 rw [hg]at hv
 simp only [Option.bind_some]at hv
 cases hh:W.heap[g]? with
 |none=>rw [hh]at hv;cases hv
 |some o =>
  rw [hh]at hv
  cases o with
  |cells cs T fz =>
   simp only [Option.some.injEq]at hv
   subst hv
   exact⟨T,fz,rfl⟩
  |_=>cases hv
theorem dis_pair {n0 n1:String}{t0 t1:List UInt8}{r:List (String×DataW Unit)}{W:World}{g0 g1:Nat}(h:laidMet Tryz.prog ((n0, .iface "*errors.errorString" (.ptr (.agg [.lit (.string t0)])))::(n1, .iface "*errors.errorString" (.ptr (.agg [.lit (.string t1)])))::r) W)
  (hg0:(Tryz.prog).globalNamed n0=some g0) (ht0:((Tryz.prog).globals[g0]?).map (·.type)=some 41) (hg1:(Tryz.prog).globalNamed n1=some g1) (ht1:((Tryz.prog).globals[g1]?).map (·.type)=some 41):@Dis (baseOf W) g1 g0:=by
 obtain⟨a0,a1,s0,s1,c0,c1,u0,u1,v0,v1,_,_,_,_,_,_,hne,b0,b1⟩:=laid_sentinels2 (tp:=514) h hg0 ht0 hg1 ht1 Tryz.underlying41 rowE Tryz.underlying514 Tryz.underlying534 rfl rfl Tryz.underlying9 (by kernel_rfl) (by kernel_rfl)
 obtain⟨T0,z0,e0⟩:=var_cells hg0 v0
 obtain⟨T1,z1,e1⟩:=var_cells hg1 v1
 exact @Dis.mk (baseOf W) _ _ ⟨a1,a0,T1,T0,z1,z0,c1,c0,u1,u0,e1,e0,fun e=>hne e.symm,b1,b0⟩
end Go.Ab
