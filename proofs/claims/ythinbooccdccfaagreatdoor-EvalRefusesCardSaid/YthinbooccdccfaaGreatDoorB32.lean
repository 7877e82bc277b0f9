/- Texts laid one behind the other: EvX, EvR, EvB, EvC, PLaw, EvK, EvH, IsN. -/
import Derived.Test.YthinbooccdccfaaGreatDoorB29
import Derived.Test.YthinbooccdccfaaGreatDoorB21
import Derived.Test.YthinbooccdccfaaGreatDoorB16
import Derived.Test.YthinbooccdccfaaGreatDoorB31
import Derived.Test.YthinbooccdccfaaGreatDoorB28
import Derived.Test.YthinbooccdccfaaGreatDoorB10
import Derived.Test.YthinbooccdccfaaGreatDoorB11
import Derived.LaidSub
import Derived.Stop.LaidTwo
set_option linter.unusedSectionVars false
set_option linter.unusedVariables false
set_option linter.unusedSimpArgs false
namespace Go.Ab
open Go.Proofs
variable [Base]
def gOf (gn gr gb:Nat) (e:Nat):Nat:=if e=5 then gn else if e=7 then gb else gr
def evR (gn gr gb:Nat):Except (Nat×Nd) (List Tr)→SV
 | .ok out=>Ab.tup [sl (out.map bt) out.length,lit .nilIface]
 | .error (e,n)=>Ab.tup [lit (.slice none 0 0),erA (gOf gn gr gb e) (lit (.int .i64 n.ln)) (lit (.int .i64 n.cl)) (str (lblN n))]
theorem evR_err {a b c e:Nat}{n:Nd}:evR a b c (.error (e,n))=Ab.tup [lit (.slice none 0 0),erA (gOf a b c e) (lit (.int .i64 n.ln)) (lit (.int .i64 n.cl)) (str (lblN n))]:=rfl
theorem evR_ok {a b c:Nat}{out:List Tr}:evR a b c (.ok out)=Ab.tup [sl (out.map bt) out.length,lit .nilIface]:=rfl
structure EvS where
 k:Nat
 out:List Tr
 s:SV
 Hs:LH
theorem own_trs {out:List Tr}{t:Tr}{s:SV}{H:LH}(h:Own ptT 1 (out.length+1) (out.map bt++[bt t]) s H):Own ptT 1 (out++[t]).length ((out++[t]).map bt) s H:=by
 rw [List.map_append,List.length_append,List.length_singleton];exact h
theorem evP_err {nm:List (List UInt8)}{ts out:List Tr}{n:Nd}{e:Nat}(h:evP nm ts out n = .error e):e=5∨e=3:=by
 unfold evP at h
 split at h
 ·split at h
  ·cases h;exact .inl rfl
  ·cases h
 ·split at h
  ·split at h
   ·cases h;exact .inr rfl
   ·cases h
  ·split at h
   ·cases h
   ·split at h <;> cases h
set_option maxHeartbeats 32000000 in
theorem eeval_pu [Sent 1] [Sent 2] [Sent 3]{L:List Li}{LL:Nat}{nm:List (List UInt8)}{ts:List Tr}(h:EvE L LL nm ts){ns:List Nd}{N:Nat}(hok:∀n∈ns,n.ok N) (hN:N≤1000) (hns:ns.length≤100) (hst:(stk ns 0 []).isSome=true) (hh:∀n∈ns,n.k=4→degN n=false→thrN n∈L) (bud:Int) (free:Bool) :
  Pu Tryz.prog 84 [envS nm ts,sl (ns.map ndx).flatten ns.length,lit (.int .i64 bud),lit (.bool free)] (evR 1 2 3 (evGo nm ts free bud ns [])):=by
 have hvv:=stk_lt hst (fun p hp=>by cases hp)
 generalize hR:evGo nm ts free bud ns []=R
 refine PuH.toPu ?_
 refine PuH.intro Tryz.func84 rfl (by kernel_rfl) fun C hC=>?_
 repeat(refine A1 ⟨?_⟩;intros)
 rename_i b4
 refine WP.loopS (ι:=EvS) (fun y=>y.k≤ns.length∧y.out.length=y.k∧(∀t∈y.out,Gd L t)∧evGo nm ts free bud (ns.drop y.k) y.out=R∧Own ptT 1 y.out.length (y.out.map bt) y.s y.Hs) (fun y=>ns.length-y.k)
  (fun y=>fm [(2,lit (.int .i64 bud)),(3,lit (.bool free)),(4,lit (.pointer (some ⟨b4,0,none⟩))),(10,y.s),(15,sl (ns.map ndx).flatten ns.length),(16,lit (.int .i64 ns.length)),(17,lit (.int .i64 y.k))])
  (fun y=>(b4,180,[sl (nm.map str) nm.length,sl (ts.map bt) ts.length])::y.Hs) ⟨0,[],lit (.slice none 0 0),[]⟩ ⟨Nat.zero_le _,rfl,(fun t ht=>by cases ht),by rw [List.drop_zero];exact hR,Own.nil _ _⟩ lfA (List.Sublist.refl _) ?_
 rintro ⟨k,out,s,Hs⟩ ⟨hk,hol,hog,hgo,hown⟩ K hK
 simp only at hk hol hog hgo hown⊢
 have hco:=hown.co
 by_cases hkl:k<ns.length
 ·obtain⟨n,hget,hmem,hat,hne⟩:=elt ndx_len (by omega) hkl
  have hn:=hok n hmem
  have hv:=hvv k n hget
  rw [Nat.zero_add,←hol]at hv
  rw [drop_at hget]at hgo
  have cp:=epart_pu h hog (by omega) hn hN hv hown
  have cl:=label_pu n hv.ok
  have hnext:=fun t s' H1 (e:evP nm ts out n = .ok t) (h2:evGo nm ts free bud (ns.drop (k+1)) (out++[t])=R) (h1:Own ptT 1 (out.length+1) (out.map bt++[bt t]) s' H1) F' H'=>hK F' H' ⟨k+1,out++[t],s',H1⟩ ⟨by simp only;omega,by simp only [List.length_append,List.length_singleton];omega,fun u hu=>(List.mem_append.1 hu).elim (hog u) fun hu=>by rw [List.mem_singleton.1 hu];exact evP_gd h hog (hh n hmem) e,h2,own_trs h1⟩ (by simp only;omega)
  have hsz:∀t,evP nm ts out n = .ok t→sizeT t≤100000000:=fun t e=>by
   have g:=(evP_gd h hog (hh n hmem) e).size h.ok
   have hm:L.length*(1+L.length)≤100*101:=Nat.mul_le_mul h.len (by have:=h.len;omega)
   omega
  unfold evGo at hgo
  clear hK hvv hst hok hh hR hmem h
  cases hp:evP nm ts out n with
  |error e =>
   have he:=evP_err hp
   rw [hp]at hgo cp
   simp only at hgo
   subst hgo
   obtain⟨g,hg1,hg2⟩:∃g:Nat,partR 1 2 (.error e)=Ab.tup [lit (.pointer none),lit (sent g)]∧gOf 1 2 3 e=g:=by
    rcases he with rfl|rfl
    ·exact⟨_,rfl,rfl⟩
    ·exact⟨_,rfl,rfl⟩
   rw [hg1]at cp
   show WP _ _ _ _ _ _ _
   rw [evR_err,hg2]
   clear hnext hsz hv hg1 hg2
   repeat(refine A1 ⟨?_⟩;intros)
   refine Wo (ov_idxS (cs':=ndx n) rfl rfl (by omega) (by omega) hat hne) ?_
   repeat(refine A1 ⟨?_⟩;intros)
   rename_i b12
   refine WfT cp ?_ (hs:=Tk.skip _ (Tk.skip _ (Tk.same _)))
   rintro _ _ ⟨rfl,rfl⟩
   simp only [List.cons_append,List.nil_append]
   repeat(first|(refine AS ⟨?_⟩;intros)|(refine O1 ⟨?_⟩;intros))
   refine WdZ 11 [0,1,2,3,4,5,6,7,8,9,10] [] [] _ ?_
   refine ZkD 11 ?_
   repeat(first|(refine A1 ⟨?_⟩;intros)|(refine Wo (ov_boxP (sv:=ag _) rfl) ?_)|(refine Wdo (ov_boxP (sv:=ag _) rfl) ?_)|(refine Wog (ov_boxP (sv:=ag _) rfl) ?_)|(refine Wdog (ov_boxP (sv:=ag _) rfl) ?_)|(refine Wo (ov_makeIface (s:=pt _) (by kernel_rfl) rfl) ?_)|(refine Wdo (ov_makeIface (s:=pt _) (by kernel_rfl) rfl) ?_)|(refine Wog (ov_makeIface (s:=pt _) (by kernel_rfl) rfl) ?_)|(refine Wdog (ov_makeIface (s:=pt _) (by kernel_rfl) rfl) ?_)|refine W4 cl ⟨?_⟩)
   refine mkZ0 ?_
   refine ZkN ?_
   repeat(refine A1 ⟨?_⟩;intros)
   exact endHR _ _ (end2 (RV.tmp rfl) (RV.tmp rfl) (Le.refl _)) (List.nil_sublist _) rfl
  |ok t =>
   have cz:=bsize_pu t (hsz t hp)
   have hz:=hsz t hp
   rw [hp]at hgo cp
   simp only at hgo
   unfold partR at cp
   unfold overB at hgo
   cases free with
   |true =>
    simp only [Bool.not_true,Bool.false_and,Bool.false_eq_true,if_false]at hgo
    have hx:=fun s' H1=>hnext t s' H1 hp hgo
    clear hnext hsz hv hgo cz hp
    repeat(refine A1 ⟨?_⟩;intros)
    refine Wo (ov_idxS (cs':=ndx n) rfl rfl (by omega) (by omega) hat hne) ?_
    repeat(refine A1 ⟨?_⟩;intros)
    refine WfT cp ?_ (hs:=Tk.skip _ (Tk.skip _ (Tk.same _)))
    rintro _ _ ⟨rfl,rfl⟩
    simp only [List.cons_append,List.nil_append]
    repeat(refine A1 ⟨?_⟩;intros)
    refine Wown hown (by omega) (fun s' H1 hown'=>?_) (hsp:=Tk.skip _ (Tk.skip _ (Tk.skip _ (Tk.same _))))
    have hco':=hown'.co
    replace hx:=hx s' H1 hown'
    clear hown hown'
    simp only [List.cons_append,List.nil_append]
    repeat(refine A1 ⟨?_⟩;intros)
    exact hx _ _ lfA (by repeat(first|exact List.Sublist.refl _|refine List.Sublist.cons_cons _ ?_|refine List.Sublist.cons _ ?_))
   |false =>
    simp only [Bool.not_false,Bool.true_and,decide_eq_true_eq]at hgo
    by_cases hb:bud<(sizeT t:Nat)
    ·rw [if_pos hb]at hgo
     subst hgo
     show WP _ _ _ _ _ _ _
     rw [evR_err,show gOf 1 2 3 7=3 from rfl]
     clear hnext hsz hv hp
     generalize sizeT t=zt at *
     repeat(refine A1 ⟨?_⟩;intros)
     refine Wo (ov_idxS (cs':=ndx n) rfl rfl (by omega) (by omega) hat hne) ?_
     repeat(refine A1 ⟨?_⟩;intros)
     refine WfT cp ?_ (hs:=Tk.skip _ (Tk.skip _ (Tk.same _)))
     rintro _ _ ⟨rfl,rfl⟩
     simp only [List.cons_append,List.nil_append]
     repeat(first|(refine AS ⟨?_⟩;intros)|(refine O1 ⟨?_⟩;intros)|(refine Wcx (cz) ?_)|(refine Wcgx (cz) ?_))
     refine WdZ 11 [0,1,2,3,4,5,6,7,8,9,10] [] [] _ ?_
     refine ZkD 11 ?_
     repeat(first|(refine A1 ⟨?_⟩;intros)|(refine Wo (ov_boxP (sv:=ag _) rfl) ?_)|(refine Wdo (ov_boxP (sv:=ag _) rfl) ?_)|(refine Wog (ov_boxP (sv:=ag _) rfl) ?_)|(refine Wdog (ov_boxP (sv:=ag _) rfl) ?_)|(refine Wo (ov_makeIface (s:=pt _) (by kernel_rfl) rfl) ?_)|(refine Wdo (ov_makeIface (s:=pt _) (by kernel_rfl) rfl) ?_)|(refine Wog (ov_makeIface (s:=pt _) (by kernel_rfl) rfl) ?_)|(refine Wdog (ov_makeIface (s:=pt _) (by kernel_rfl) rfl) ?_)|refine W4 cl ⟨?_⟩)
     refine mkZ0 ?_
     refine ZkN ?_
     repeat(refine A1 ⟨?_⟩;intros)
     exact endHR _ _ (end2 (RV.tmp rfl) (RV.tmp rfl) (Le.refl _)) (List.nil_sublist _) rfl
    ·rw [if_neg hb]at hgo
     have hx:=fun s' H1=>hnext t s' H1 hp hgo
     clear hnext hsz hv hgo hp
     generalize sizeT t=zt at *
     repeat(refine A1 ⟨?_⟩;intros)
     refine Wo (ov_idxS (cs':=ndx n) rfl rfl (by omega) (by omega) hat hne) ?_
     repeat(refine A1 ⟨?_⟩;intros)
     refine WfT cp ?_ (hs:=Tk.skip _ (Tk.skip _ (Tk.same _)))
     rintro _ _ ⟨rfl,rfl⟩
     simp only [List.cons_append,List.nil_append]
     repeat(first|(refine A1 ⟨?_⟩;intros)|refine W4 cz ⟨?_⟩)
     refine Wown hown (by omega) (fun s' H1 hown'=>?_) (hsp:=Tk.skip _ (Tk.skip _ (Tk.skip _ (Tk.same _))))
     have hco':=hown'.co
     replace hx:=hx s' H1 hown'
     clear hown hown'
     simp only [List.cons_append,List.nil_append]
     repeat(refine A1 ⟨?_⟩;intros)
     exact hx _ _ lfA (by repeat(first|exact List.Sublist.refl _|refine List.Sublist.cons_cons _ ?_|refine List.Sublist.cons _ ?_))
 ·have hke:k=ns.length:=by omega
  subst hke
  rw [List.drop_length]at hgo
  have hR2:R = .ok out:=hgo.symm
  subst hR2
  rw [evR_ok]
  refine WP.rowS 10 hown rfl (List.perm_append_comm (l₁:=[(b4,180,[sl (nm.map str) nm.length,sl (ts.map bt) ts.length])])) ?_
  clear hK hown hvv hst hok hh h hgo hog
  repeat(refine A1 ⟨?_⟩;intros)
  exact endHR _ _ (end2 (RV.tmp rfl) (RV.tmp rfl) (Le.refl _)) (List.nil_sublist _) rfl
abbrev tqx (t:Tr):List SV:=[lit (.int .i64 (t.root 0)),sl (t.rows 0) t.size]
theorem tqx_len (t:Tr):(tqx t).length=2:=rfl
abbrev tqs (ts:List Tr):SV:=sl (ts.map tqx).flatten ts.length
theorem size_eq:∀t:Tr,t.size=sizeT t
 | .leaf _=>rfl
 | .node l a b=>by rw [Tr.size_node,size_eq a,size_eq b];rfl
abbrev envT:TypeId:=180
structure EnS where
 k:Nat
 s:SV
 Hs:LH
theorem bt_take {ts:List Tr}{k:Nat}{t:Tr}(h:ts[k]? = some t):(ts.take (k+1)).map bt=(ts.take k).map bt++[bt t]:=by
 rw [take_snoc h,List.map_append];rfl
structure RunE (L:List Li) (LL:Nat) (nm:List (List UInt8)) (ts:List Tr) (ns:List Nd) (N:Nat):Prop where
 e:EvE L LL nm ts
 sz:∀t∈ts,sizeT t≤60000
 ok:∀n∈ns,n.ok N
 Nl:N≤20
 nsl:ns.length≤30
 hh:∀n∈ns,n.k=4→degN n=false→thrN n∈L
set_option maxHeartbeats 32000000 in
theorem run_pu [Sent 0] [Sent 1] [Sent 2] [Sent 3]{L:List Li}{LL:Nat}{nm:List (List UInt8)}{ts:List Tr}{ns:List Nd}{N:Nat}(h:RunE L LL nm ts ns N) (bud:Int) (free:Bool) :
  Pu Tryz.prog 36 [sl (ns.map ndx).flatten ns.length,sl (nm.map str) nm.length,tqs ts,lit (.int .i64 bud),lit (.bool free)]
   (if otx ns=none then Ab.tup [lit (.slice none 0 0),lit (sent 0)]else evR 1 2 3 (evGo nm ts free bud ns [])):=by
 have cx:=pexpr_pu ns h.ok h.Nl h.nsl
 have ci:=is_pu 0
 have cn:=isNil_pu 0
 have hnl:=h.e.nl
 have hnm:=h.e.ns
 have ce:=fun hst=>eeval_pu h.e h.ok (by have:=h.Nl;omega) (by have:=h.nsl;omega) hst h.hh bud free
 refine PuH.toPu ?_
 refine PuH.intro Tryz.func36 rfl (by kernel_rfl) fun C hC=>?_
 repeat(refine A1 ⟨?_⟩;intros)
 rename_i b12
 refine WP.loopS (ι:=EnS) (fun y=>y.k≤ts.length∧Own ptT 1 y.k ((ts.take y.k).map bt) y.s y.Hs) (fun y=>ts.length-y.k)
  (fun y=>fm [(0,sl (ns.map ndx).flatten ns.length),(1,sl (nm.map str) nm.length),(2,tqs ts),(3,lit (.int .i64 bud)),(4,lit (.bool free)),(12,lit (.pointer (some ⟨b12,0,none⟩))),(21,tqs ts),(22,lit (.int .i64 ts.length)),(23,lit (.int .i64 y.k))])
  (fun y=>(b12,envT,[sl (nm.map str) nm.length,y.s])::y.Hs) ⟨0,lit (.slice none 0 0),[]⟩ ⟨Nat.zero_le _,Own.nil _ _⟩ lfA (List.Sublist.refl _) ?_
 rintro ⟨k,s,Hs⟩ ⟨hk,hown⟩ K hK
 simp only at hk hown⊢
 have hco:=hown.co
 by_cases hkl:k<ts.length
 ·obtain⟨t,hget,hmem,hat,hne⟩:=elt tqx_len (by omega) hkl
  have c0:=bof_pu t (Tr.lin.all (p:=fun l=>l.ok∧l.le 100000) (fun l hl=>⟨h.e.ok l hl,(h.e.le l hl).gr (by have:=h.e.l2;omega)⟩) (h.e.tl t hmem)) (by rw [size_eq];exact h.sz t hmem)
  have hgo:=fun s' H1 (h1:Own ptT 1 (k+1) ((ts.take k).map bt++[bt t]) s' H1) F' H'=>hK F' H' ⟨k+1,s',H1⟩ ⟨by simp only;omega,by simp only;rw [bt_take hget];exact h1⟩ (by simp only;omega)
  clear hK h ce cx hget hmem
  repeat(refine A1 ⟨?_⟩;intros)
  refine Wo (ov_idxS (cs':=tqx t) rfl rfl (by omega) (by omega) hat hne) ?_
  repeat(first|(refine A1 ⟨?_⟩;intros)|refine W4 c0 ⟨?_⟩)
  refine Wown hown (by omega) (fun s' H1 hown'=>?_) (hsp:=Tk.skip _ (Tk.skip _ (Tk.skip _ (Tk.same _))))
  have hco':=hown'.co
  replace hgo:=hgo s' H1 hown'
  clear hown hown'
  simp only [List.cons_append,List.nil_append]
  repeat(refine A1 ⟨?_⟩;intros)
  refine WPL.store (b:=b12) (o:=1) (sv:=s') (cs':=[sl (nm.map str) nm.length,s']) rfl rfl rfl (.there _ (.there _ (.here _))) rfl rfl ?_
  repeat(refine A1 ⟨?_⟩;intros)
  exact hgo _ _ lfA (by repeat(first|exact List.Sublist.refl _|refine List.Sublist.cons_cons _ ?_|refine List.Sublist.cons _ ?_))
 ·have hke:k=ts.length:=by omega
  subst hke
  rw [List.take_length]at hown
  cases ho:otx ns with
  |none =>
   rw [ho]at cx
   unfold pans at cx
   simp only at cx
   rw [if_pos rfl]
   clear hK hown h ce
   repeat(first|(refine A1 ⟨?_⟩;intros)|refine W4 cx ⟨?_⟩|refine W4 ci ⟨?_⟩)
   exact endHR _ _ (end2 (RV.tmp rfl) (RV.tmp rfl) (Le.refl _)) (List.nil_sublist _) rfl
  |some tx =>
   rw [ho]at cx
   unfold pans at cx
   simp only at cx
   rw [if_neg (by simp)]
   replace ce:=ce (otx_stk ho)
   generalize evGo nm ts free bud ns []=R at *
   clear hK h
   obtain⟨hlen,⟨h0,rfl,rfl⟩|⟨b,cc,h1,h2,rfl,rfl⟩⟩:=hown
   ·have hle:Le (ag [sl (nm.map str) nm.length,lit (.slice none 0 0)]) (envS nm ts):=by
     have e0:ts=[]:=List.eq_nil_of_length_eq_zero h0
     subst e0
     exact Le.ag ⟨Le.refl _,le_nilS,trivial⟩
    have ce':=ce.arg (l':=[ag [sl (nm.map str) nm.length,lit (.slice none 0 0)],sl (ns.map ndx).flatten ns.length,lit (.int .i64 bud),lit (.bool free)]) ⟨hle,Le.refl _,Le.refl _,Le.refl _,trivial⟩
    rcases R with⟨e,n⟩|out
    ·rw [evR_err]at *
     repeat(first|(refine A1 ⟨?_⟩;intros)|refine W4 cx ⟨?_⟩|refine W4 cn ⟨?_⟩|refine W4 ce' ⟨?_⟩)
     exact endHR _ _ (end2 (RV.tmp rfl) (RV.tmp rfl) (Le.refl _)) (List.nil_sublist _) rfl
    ·rw [evR_ok]at *
     repeat(first|(refine A1 ⟨?_⟩;intros)|refine W4 cx ⟨?_⟩|refine W4 cn ⟨?_⟩|refine W4 ce' ⟨?_⟩)
     exact endHR _ _ (end2 (RV.tmp rfl) (RV.tmp rfl) (Le.refl _)) (List.nil_sublist _) rfl
   ·repeat(first|(refine A1 ⟨?_⟩;intros)|refine W4 cx ⟨?_⟩)
    refine WPL.pubC (c1:=[sl (nm.map str) nm.length]) (c2:=[]) (s':=sl (ts.map bt) ts.length) (.there _ (.here _)) (.here _) (fun m arr hm ha=>pub_own hm ha h1 h2) ?_
    simp only [List.cons_append,List.nil_append]
    rcases R with⟨e,n⟩|out
    ·rw [evR_err]at *
     repeat(first|(refine A1 ⟨?_⟩;intros)|refine W4 cn ⟨?_⟩|refine W4 ce ⟨?_⟩)
     exact endHR _ _ (end2 (RV.tmp rfl) (RV.tmp rfl) (Le.refl _)) (List.nil_sublist _) rfl
    ·rw [evR_ok]at *
     repeat(first|(refine A1 ⟨?_⟩;intros)|refine W4 cn ⟨?_⟩|refine W4 ce ⟨?_⟩)
     exact endHR _ _ (end2 (RV.tmp rfl) (RV.tmp rfl) (Le.refl _)) (List.nil_sublist _) rfl
abbrev zTr:SV:=ag [lit (.int .i64 0),lit (.slice none 0 0)]
section
variable {a b c:SV}{bud:Int}
theorem eval_sent {g:Nat}(h:Pu Tryz.prog 36 [a,b,c,lit (.int .i64 bud),lit (.bool false)] (Ab.tup [lit (.slice none 0 0),lit (sent g)])):Pu Tryz.prog 10 [a,b,c,lit (.int .i64 bud)] (Ab.tup [zTr,lit (sent g)]):=by
 refine Pu.intro Tryz.func10 rfl (by kernel_rfl) fun C=>?_
 repeat(first|(refine A1 ⟨?_⟩;intros)|refine W4 h ⟨?_⟩)
 ((first|refine endR ?_|refine endN ?_);exact end2 RVa (RV.tmp rfl) (Le.refl _))
theorem eval_erA {g:Nat}{l k s:SV}(h:Pu Tryz.prog 36 [a,b,c,lit (.int .i64 bud),lit (.bool false)] (Ab.tup [lit (.slice none 0 0),erA g l k s])):Pu Tryz.prog 10 [a,b,c,lit (.int .i64 bud)] (Ab.tup [zTr,erA g l k s]):=by
 refine Pu.intro Tryz.func10 rfl (by kernel_rfl) fun C=>?_
 repeat(first|(refine A1 ⟨?_⟩;intros)|refine W4 h ⟨?_⟩)
 refine Wo (ov_ineA (s:=pt _) (by kernel_rfl) rfl) ?_
 repeat(refine A1 ⟨?_⟩;intros)
 ((first|refine endR ?_|refine endN ?_);exact end2 RVa (RV.tmp rfl) (Le.refl _))
theorem eval_ok {out:List Tr}{t:Tr}(hn:out.length≤1000) (ht:out[out.length-1]? = some t) (hle:t.all fun l=>l.le 1000000) (hsz:t.size≤1000000) (h:Pu Tryz.prog 36 [a,b,c,lit (.int .i64 bud),lit (.bool false)] (Ab.tup [sl (out.map bt) out.length,lit .nilIface])):Pu Tryz.prog 10 [a,b,c,lit (.int .i64 bud)] (Ab.tup [tq t,lit .nilIface]):=by
 have hlt:=(List.getElem?_eq_some_iff.1 ht).1
 have hat:=tr_at ht
 have hne:out.map bt≠[]:=fun e=>by rw [List.map_eq_nil_iff]at e;rw [e]at hlt;simp at hlt
 have ca:=tapi_pu t hle hsz
 refine Pu.intro Tryz.func10 rfl (by kernel_rfl) fun C=>?_
 repeat(first|(refine A1 ⟨?_⟩;intros)|refine W4 h ⟨?_⟩)
 refine Wo (ov_idxS (i:=((out.length-1:Nat):Int)) (cs':=[bt t]) rfl (by show lit _=_;congr 2;omega) (by omega) (by omega) hat hne) ?_
 repeat(first|(refine A1 ⟨?_⟩;intros)|refine W4 ca ⟨?_⟩)
 ((first|refine endR ?_|refine endN ?_);exact end2 RVa (RV.tmp rfl) (Le.refl _))
theorem sizes_sent {g:Nat}(h:Pu Tryz.prog 36 [a,b,c,lit (.int .i64 0),lit (.bool true)] (Ab.tup [lit (.slice none 0 0),lit (sent g)])):Pu Tryz.prog 11 [a,b,c] (Ab.tup [lit (.slice none 0 0),lit (sent g)]):=by
 refine Pu.intro Tryz.func11 rfl (by kernel_rfl) fun C=>?_
 repeat(first|(refine A1 ⟨?_⟩;intros)|refine W4 h ⟨?_⟩)
 ((first|refine endR ?_|refine endN ?_);exact end2 (RV.tmp rfl) (RV.tmp rfl) (Le.refl _))
theorem sizes_erA {g:Nat}{l k s:SV}(h:Pu Tryz.prog 36 [a,b,c,lit (.int .i64 0),lit (.bool true)] (Ab.tup [lit (.slice none 0 0),erA g l k s])):Pu Tryz.prog 11 [a,b,c] (Ab.tup [lit (.slice none 0 0),erA g l k s]):=by
 refine Pu.intro Tryz.func11 rfl (by kernel_rfl) fun C=>?_
 repeat(first|(refine A1 ⟨?_⟩;intros)|refine W4 h ⟨?_⟩)
 refine Wo (ov_ineA (s:=pt _) (by kernel_rfl) rfl) ?_
 repeat(refine A1 ⟨?_⟩;intros)
 ((first|refine endR ?_|refine endN ?_);exact end2 (RV.tmp rfl) (RV.tmp rfl) (Le.refl _))
structure SzS where
 k:Nat
 s:SV
 Hs:LH
abbrev szI (t:Tr):SV:=lit (.int .i64 (sizeT t:Nat))
theorem szI_take {ts:List Tr}{k:Nat}{t:Tr}(h:ts[k]? = some t):(ts.take (k+1)).map szI=(ts.take k).map szI++[szI t]:=by
 rw [take_snoc h,List.map_append];rfl
set_option maxHeartbeats 8000000 in
theorem sizes_ok {out:List Tr}(hn:out.length≤1000) (hz:∀t∈out,sizeT t≤100000000) (h:Pu Tryz.prog 36 [a,b,c,lit (.int .i64 0),lit (.bool true)] (Ab.tup [sl (out.map bt) out.length,lit .nilIface])):Pu Tryz.prog 11 [a,b,c] (Ab.tup [sl (out.map szI) out.length,lit .nilIface]):=by
 refine PuH.toPu ?_
 refine PuH.intro Tryz.func11 rfl (by kernel_rfl) fun C hC=>?_
 repeat(first|(refine A1 ⟨?_⟩;intros)|refine W4 h ⟨?_⟩)
 refine WP.loopS (ι:=SzS) (fun y=>y.k≤out.length∧Own 3 1 y.k ((out.take y.k).map szI) y.s y.Hs) (fun y=>out.length-y.k)
  (fun y=>fm [(10,y.s),(23,sl (out.map bt) out.length),(24,lit (.int .i64 out.length)),(25,lit (.int .i64 y.k))])
  (fun y=>y.Hs) ⟨0,lit (.slice none 0 0),[]⟩ ⟨Nat.zero_le _,Own.nil _ _⟩ lfA (List.Sublist.refl _) ?_
 rintro ⟨k,s,Hs⟩ ⟨hk,hown⟩ K hK
 simp only at hk hown⊢
 have hco:=hown.co
 by_cases hkl:k<out.length
 ·have hget:=List.getElem?_eq_getElem hkl
  generalize out[k]=t at hget
  have hat:=tr_at hget
  have hne:out.map bt≠[]:=fun e=>by rw [List.map_eq_nil_iff]at e;rw [e]at hkl;simp at hkl
  have cs:=bsize_pu t (hz t (List.mem_of_getElem? hget))
  have hgo:=fun s' H1 (h1:Own 3 1 (k+1) ((out.take k).map szI++[szI t]) s' H1) F' H'=>hK F' H' ⟨k+1,s',H1⟩ ⟨by simp only;omega,by simp only;rw [szI_take hget];exact h1⟩ (by simp only;omega)
  clear hK h hget hz
  repeat(refine A1 ⟨?_⟩;intros)
  refine Wo (ov_idxS (cs':=[bt t]) rfl rfl (by omega) (by omega) hat hne) ?_
  repeat(first|(refine A1 ⟨?_⟩;intros)|refine W4 cs ⟨?_⟩)
  refine Wown hown (by omega) (fun s' H1 hown'=>?_) (hsp:=Tk.skip _ (Tk.same _))
  have hco':=hown'.co
  replace hgo:=hgo s' H1 hown'
  clear hown hown'
  simp only [List.cons_append,List.nil_append]
  repeat(refine A1 ⟨?_⟩;intros)
  exact hgo _ _ lfA (by repeat(first|exact List.Sublist.refl _|refine List.Sublist.cons_cons _ ?_|refine List.Sublist.cons _ ?_))
 ·have hke:k=out.length:=by omega
  subst hke
  rw [List.take_length]at hown
  refine WP.rowS 10 hown rfl (List.perm_append_comm (l₁:=[])) ?_
  clear hK hown h
  repeat(refine A1 ⟨?_⟩;intros)
  exact endHR _ _ (end2 (RV.tmp rfl) (RV.tmp rfl) (Le.refl _)) (List.nil_sublist _) rfl
end
theorem part5_pu (r s:Nat) :
  PuH Tryz.prog 144 [lit (.pointer (some ⟨r,0,none⟩)),lit (.int .i64 5)] [(r,268,tbrdC [] 0 s 0),(s,4,marks 0 0)]
   (fun res H=>res=bt (.leaf false)∧H=[(r,268,[sl [] 0,lit (.slice (some ⟨s,0,none⟩) 0 0),lit (.int .i64 0),lit (.bool true)]),(s,4,marks 0 0)]) noX:=by
 have c1:=leaf_pu false
 refine PuH.intro Tryz.func144 rfl (by kernel_rfl) fun C hC=>?_
 repeat(first|(refine A1 ⟨?_⟩;intros)|refine W4 c1 ⟨?_⟩)
 exact endHR _ _ (end1 (RV.tmp rfl) (Le.refl _)) (List.Sublist.refl _) ⟨rfl,rfl⟩
abbrev t5:SV:=ag [lit (.int .i64 5),lit (.slice none 0 0)]
theorem bof5_pu:Pu Tryz.prog 79 [ag [lit (.int .i64 5),sl [] 0]] (Ab.tup [lit (.pointer none),lit (.bool false)]):=by
 have c:=part5_pu
 refine Pu.intro Tryz.func79 rfl (by kernel_rfl) fun C=>?_
 repeat(first|(refine AS ⟨?_⟩;intros)|(refine O1 ⟨?_⟩;intros)|(refine Wcx (leaf_pu true) ?_)|(refine Wcgx (leaf_pu true) ?_))
 refine WdN 6 ?_
 repeat(refine A1 ⟨?_⟩;intros)
 refine Wdnew (nk_make rfl rfl (by omega) (by omega)) ?_
 repeat(refine A1 ⟨?_⟩;intros)
 rename_i b1 s r
 refine WfT (c r s) ?_
 rintro _ _ ⟨rfl,rfl⟩
 simp only [List.cons_append,List.nil_append]
 repeat(refine A1 ⟨?_⟩;intros)
 ((first|refine endR ?_|refine endN ?_);exact end2 (RV.tmp rfl) (RV.tmp rfl) (Le.refl _))
theorem run_5 [Sent 0] (ns:SV) (l:List SV) (k:Nat) (bud:Int) (free:Bool):Pu Tryz.prog 36 [ns,sl l k,sl [lit (.int .i64 5),lit (.slice none 0 0)] 1,lit (.int .i64 bud),lit (.bool free)] (Ab.tup [lit (.slice none 0 0),lit (sent 0)]):=by
 have c:=bof5_pu.arg (l':=[t5]) ⟨Le.ag ⟨Le.refl _,le_nilS,trivial⟩,trivial⟩
 refine Pu.intro Tryz.func36 rfl (by kernel_rfl) fun C=>?_
 repeat(refine A1 ⟨?_⟩;intros)
 refine WP.unroll 2 ?_
 refine WPR.succ ?_
 repeat(refine A1 ⟨?_⟩;intros)
 refine Wo (ov_idxS (cs':=[lit (.int .i64 5),lit (.slice none 0 0)]) rfl rfl (by decide) (by decide) rfl (by simp)) ?_
 repeat(first|(refine A1 ⟨?_⟩;intros)|refine W4 c ⟨?_⟩)
 ((first|refine endR ?_|refine endN ?_);exact end2 (RV.tmp rfl) (RV.tmp rfl) (Le.refl _))
set_option maxHeartbeats 32000000 in
theorem run_mis [Sent 0]{nm:List (List UInt8)}{ns:List Nd}{N:Nat}(hok:∀n∈ns,n.ok N) (hN:N≤20) (hns:ns.length≤30) (hnm:nm.length≤1000) (hne:nm.length≠1) (i:Bool) (bud:Int) (free:Bool) :
  Pu Tryz.prog 36 [sl (ns.map ndx).flatten ns.length,sl (nm.map str) nm.length,sl (tqx (.leaf i)) 1,lit (.int .i64 bud),lit (.bool free)] (Ab.tup [lit (.slice none 0 0),lit (sent 0)]):=by
 have cx:=pexpr_pu ns hok hN hns
 have ci:=is_pu 0
 have cn:=isNil_pu 0
 have c0:=bof_pu (.leaf i) trivial (Nat.zero_le _)
 have hpn:∀o:Option (List UInt8),pans 0 o=match o with|some t=>Ab.tup [str t,lit .nilIface]|none=>Ab.tup [str [],lit (sent 0)]:=fun o=>by cases o <;> rfl
 rw [hpn]at cx
 refine PuH.toPu ?_
 refine PuH.intro Tryz.func36 rfl (by kernel_rfl) fun C hC=>?_
 repeat(refine A1 ⟨?_⟩;intros)
 refine WP.unroll 2 ?_
 refine WPR.succ ?_
 repeat(refine A1 ⟨?_⟩;intros)
 refine Wo (ov_idxS (cs':=tqx (.leaf i)) rfl rfl (by decide) (by decide) rfl (by simp)) ?_
 repeat(first|(refine A1 ⟨?_⟩;intros)|refine W4 c0 ⟨?_⟩)
 refine Wown (Own.nil ptT 1) (by omega) (fun s' H1 hown'=>?_)
 have hco':=hown'.co
 simp only [List.cons_append,List.nil_append]
 obtain⟨b5,c5,hnc,hcm,rfl,rfl⟩:=hown'.blk (by omega)
 clear hown' hco'
 repeat(refine A1 ⟨?_⟩;intros)
 cases ho:otx ns with
 |none =>
  rw [ho]at cx
  simp only at cx
  repeat(first|(refine A1 ⟨?_⟩;intros)|refine W4 cx ⟨?_⟩|refine W4 ci ⟨?_⟩)
  exact endHR _ _ (end2 (RV.tmp rfl) (RV.tmp rfl) (Le.refl _)) (List.nil_sublist _) rfl
 |some tx =>
  rw [ho]at cx
  simp only at cx
  repeat(first|(refine A1 ⟨?_⟩;intros)|refine W4 cx ⟨?_⟩|refine W4 cn ⟨?_⟩)
  exact endHR _ _ (end2 (RV.tmp rfl) (RV.tmp rfl) (Le.refl _)) (List.nil_sublist _) rfl
theorem zr_ok {L:Nat}:(⟨false,[],[]⟩:RQ).ok L:=⟨D.nil,D.nil,Nat.zero_le _,Nat.zero_le _⟩
theorem Le.slL {a b:List SV}{k:Nat}(h:LeL a b):Le (sl a k) (sl b k):=fun m v hv=>by
 obtain⟨ad,cap,rfl,h1,h2,h3⟩:=sl_cells hv
 refine sl_mk h1 h2 ?_
 rcases h3 with rfl|⟨b',off,rfl,arr,T,fz,h4,h5⟩
 ·left
  cases b with
  |nil=>rfl
  |cons _ _=>exact h.elim
 ·right
  have hlen:a.length=b.length:=by
   clear h4 h5 hv
   induction a generalizing b with
   |nil=>cases b with
    |nil=>rfl
    |cons _ _=>exact h.elim
   |cons x a ih=>cases b with
    |nil=>exact h.elim
    |cons y b=>simp [ih h.2]
  exact⟨b',off,rfl,arr,T,fz,h4,by rw [←hlen];exact All2.le h h5⟩
def kaText:List UInt8:=[97,32,45,32,97]
def kaToks:List Tok:=[⟨1,[97],1,1⟩,⟨3,[45],1,3⟩,⟨1,[97],1,5⟩,⟨0,[],1,6⟩]
def kaNs:List Nd:=[ndN ⟨1,[97],1,1⟩,ndN ⟨1,[97],1,5⟩,ndB 3 0 1 ⟨3,[45],1,3⟩]
theorem kaLex:lexT kaText=some kaToks:=by kernel_rfl
theorem kaPrs:prsAll kaToks=some (kaNs, .bi (ndB 3 0 1 ⟨3,[45],1,3⟩) (.leaf (ndN ⟨1,[97],1,1⟩)) (.leaf (ndN ⟨1,[97],1,5⟩))):=by kernel_rfl
theorem kaNs_ok:∀n∈kaNs,n.ok 4:=by
 intro n hn
 simp only [kaNs,List.mem_cons,List.not_mem_nil,or_false]at hn
 rcases hn with rfl|rfl|rfl <;> exact⟨zr_ok,zr_ok,zr_ok,zr_ok,by decide⟩
theorem kaOtx:otx kaNs≠none:=by
 intro h
 have:(otx kaNs).isSome=true:=by decide +kernel
 rw [h]at this
 cases this
theorem kaGo:evGo [[97]] [.leaf true] false 10 kaNs [] = .ok [.leaf true, .leaf true, .leaf false]:=by rfl
theorem evE_one (L:List Li) (hL:∀l∈L,l.ok) (hl:∀l∈L,l.le 500) (hn:L.length≤100) (i:Bool):EvE L 500 [[97]] [.leaf i] :=
 ⟨hL,hl,by omega,by omega,hn,(fun t ht=>by rw [List.mem_singleton.1 ht];trivial),(fun t ht=>by rw [List.mem_singleton.1 ht];exact Nat.zero_le _),rfl,by decide⟩
theorem kaEval [Sent 0] [Sent 1] [Sent 2] [Sent 3]:Pu Tryz.prog 10 [sl (kaNs.map ndx).flatten kaNs.length,sl ([[97]].map str) 1,sl (tqx (.leaf true)) 1,lit (.int .i64 10)] (Ab.tup [tq (.leaf false),lit .nilIface]):=by
 have h:RunE [] 500 [[97]] [.leaf true] kaNs 4:=⟨evE_one [] (by simp) (by simp) (by simp) true,(fun t ht=>by rw [List.mem_singleton.1 ht];decide),kaNs_ok,by omega,by decide,fun n hn h4=>by
  simp only [kaNs,List.mem_cons,List.not_mem_nil,or_false]at hn
  rcases hn with rfl|rfl|rfl <;> exact absurd h4 (by decide)⟩
 have c:=run_pu h 10 false
 rw [if_neg kaOtx,kaGo,evR_ok]at c
 exact eval_ok (by decide) (t := .leaf false) rfl trivial (by decide) c
theorem known32 [Sent 0] [Sent 1] [Sent 5] [Sent 6] [Sent 2] [Sent 3]:Pu Tryz.prog 8 [] (lit (.bool true)):=by
 have c:=parseExpr_pu kaText (by decide) (by decide)
 have ce:=kaEval
 refine Pu.intro Tryz.func8 rfl (by kernel_rfl) fun C=>?_
 repeat(refine A1 ⟨?_⟩;intros)
 refine WfT c ?_
 rintro r H' hr
 unfold prR at hr
 rw [kaLex]at hr
 simp only [kaPrs]at hr
 obtain⟨s,rfl,hown⟩:=hr
 obtain⟨b1,c1,hnc,hcm,rfl,rfl⟩:=hown.blk (by decide)
 repeat(refine A1 ⟨?_⟩;intros)
 simp only [List.nil_append]
 refine WpubS 11 rfl (HDel.there _ (HDel.here _)) (by omega) (by omega) ?_
 refine WpubS 13 rfl (HDel.here _) (by omega) (by omega) ?_
 refine WPL.low 13 rfl (s':=sl (tqx (.leaf true)) 1) (Le.slL ⟨Le.refl _,le_nilS,trivial⟩) ?_
 refine WPL.pub (d:=10) (s':=sl (kaNs.map ndx).flatten kaNs.length) (HDel.here _) rfl (fun m arr h1 h2=>pub_ownL h1 h2 hnc hcm) ?_
 repeat(first|(refine A1 ⟨?_⟩;intros)|refine W4 ce ⟨?_⟩)
 exact E1
def hLs (ns:List Nd):List Li:=(ns.filter fun n=>decide (n.k=4) && !degN n).map thrN
theorem hLs_mem {ns:List Nd}{n:Nd}(h:n∈ns) (h4:n.k=4) (hd:degN n=false):thrN n∈hLs ns :=
 List.mem_map.2 ⟨n,List.mem_filter.2 ⟨h,by rw [decide_eq_true h4,hd];rfl⟩,rfl⟩
theorem hLs_len (ns:List Nd):(hLs ns).length≤ns.length:=by
 unfold hLs
 rw [List.length_map]
 exact List.length_filter_le ..
theorem hLs_ok {ns:List Nd}:∀l∈hLs ns,l.ok:=fun l h=>by
 obtain⟨n,hn,rfl⟩:=List.mem_map.1 h
 obtain⟨_,h2⟩:=List.mem_filter.1 hn
 simp only [Bool.and_eq_true,Bool.not_eq_true']at h2
 have hd:=of_decide_eq_false h2.2
 refine prim_ok ?_
 by_cases e:n.c.v-n.a.v=0
 ·left;intro e2;exact hd ⟨e,by grind⟩
 ·exact .inr e
theorem ht_args {x y u v:Rat}{L:Nat}(hx:ht x≤L) (hy:ht y≤L) (hu:ht u≤L) (hv:ht v≤L):ht (-(v-y))≤6*L+5∧ht (u-x)≤6*L+5∧ht (-(-(v-y)*x+(u-x)*y))≤6*L+5:=by
 have h1:=ht_sub u x
 have h2:=ht_sub v y
 have h3:=ht_neg (v-y)
 have h4:=ht_mul (-(v-y)) x
 have h5:=ht_mul (u-x) y
 have h6:=ht_add (-(v-y)*x) ((u-x)*y)
 have h7:=ht_neg (-(v-y)*x+(u-x)*y)
 omega
theorem hLs_le {ns:List Nd}{N:Nat}(hok:∀n∈ns,n.ok N) (hN:N≤10):∀l∈hLs ns,l.le 500:=fun l h=>by
 obtain⟨n,hn,rfl⟩:=List.mem_map.1 h
 obtain⟨a,b,c,d,e⟩:=hok n (List.mem_filter.1 hn).1
 have v1:=ht_v a
 have v2:=ht_v b
 have v3:=ht_v c
 have v4:=ht_v d
 obtain⟨h1,h2,h3⟩:=ht_args (L:=11) (by omega:ht n.a.v≤11) (by omega:ht n.b.v≤11) (by omega:ht n.c.v≤11) (by omega:ht n.e.v≤11)
 exact(prim_le h1 h2 h3).gr (by omega)
class Dis (g k:Nat):Prop where
 h:∃(a b:Addr) (T T':TypeId) (fz fz':Nat×Nat) (ca cb:Array Value) (ta tb:TypeId),
  Base.mem g=some (.cells #[.iface 514 (.pointer (some a))] T fz)∧Base.mem k=some (.cells #[.iface 514 (.pointer (some b))] T' fz')∧a≠b∧
  Base.mem a.block=some (.cells ca ta (0,0))∧Base.mem b.block=some (.cells cb tb (0,0))
theorem gaddr_eq {g:Nat}{a:Addr}{T:TypeId}{fz:Nat×Nat}(h:Base.mem g=some (.cells #[.iface 514 (.pointer (some a))] T fz)):gaddr g=a:=by
 unfold gaddr;rw [h];rfl
section
variable {F:Fr}{H:LH}{ty:TypeId}
theorem ov_idiff {g k:Nat} [hd:Dis g k]{x y:Operand}{T':TypeId}(hx:ev F x=lit (sent g)) (hy:ev F y=lit (sent k)):OpV Tryz.prog (.binOp .eql 41 x y T') ty F H (lit (.bool false)) :=
 OpV.pure fun m w o a ho _ hm _ h=>by
  have h0:=h x (by simp [Op.operands]);rw [hx,lit_p]at h0
  have h1:=h y (by simp [Op.operands]);rw [hy,lit_p]at h1
  obtain⟨p,q,_,_,_,_,ca,cb,ta,tb,e1,e2,hne,b1,b2⟩:=hd.h
  rw [sent,gaddr_eq e1]at h0
  rw [sent,gaddr_eq e2]at h1
  obtain⟨i,hi,hc⟩:=Option.map_eq_some_iff.1 (show((Tryz.prog).info? 514).map (·.comparable)=some true by kernel_rfl)
  obtain⟨j,hj,hz⟩:=Option.map_eq_some_iff.1 (show((Tryz.prog).info? 534).map (·.size)=some 1 by kernel_rfl)
  have hr:=run_eql_iface_ptr_other (w:=w) Tryz.underlying41 Tryz.underlying514 hi hc hj (by omega) hne (hm _ _ (hm.base _ _ b1)) (hm _ _ (hm.base _ _ b2))
  exact⟨.bool false,by simp [execOp,ho,h0,h1,hr,Go.eqGuard],lit_p.2 rfl⟩
theorem ov_lkIs {v:Value}{x:Operand}(hx:ev F x=lit (.iface 514 v)):OpV Tryz.prog (.typeAssert x 41 195 true) ty F H (Ab.tup [lit .nilIface,lit (.bool false)]) :=
 OpV.pure fun m w o a ho _ _ _ h=>by
  have h0:=h x (by simp [Op.operands]);rw [hx,lit_p]at h0
  have hrun:(Instr.typeAssert (.iface 514 v) 41 195 true).run Tryz.prog w = .ok (.tuple #[.nilIface, .bool false]) w:=run_typeAssert_lacksB Tryz.underlying195 (by kernel_rfl) (by kernel_rfl) v _ w
  refine⟨.tuple #[.nilIface, .bool false],by simp [execOp,ho,h0,hrun],?_⟩
  unfold Ab.tup
  exact⟨_,rfl,lit_p.2 rfl,lit_p.2 rfl,trivial⟩
theorem ov_lkUn {v:Value}{x:Operand}(hx:ev F x=lit (.iface 514 v)):OpV Tryz.prog (.typeAssert x 41 198 true) ty F H (Ab.tup [lit .nilIface,lit (.bool false)]) :=
 OpV.pure fun m w o a ho _ _ _ h=>by
  have h0:=h x (by simp [Op.operands]);rw [hx,lit_p]at h0
  have hrun:(Instr.typeAssert (.iface 514 v) 41 198 true).run Tryz.prog w = .ok (.tuple #[.nilIface, .bool false]) w:=run_typeAssert_lacksB Tryz.underlying198 (by kernel_rfl) (by kernel_rfl) v _ w
  refine⟨.tuple #[.nilIface, .bool false],by simp [execOp,ho,h0,hrun],?_⟩
  unfold Ab.tup
  exact⟨_,rfl,lit_p.2 rfl,lit_p.2 rfl,trivial⟩
theorem ov_lkUs {v:Value}{x:Operand}(hx:ev F x=lit (.iface 514 v)):OpV Tryz.prog (.typeAssert x 41 200 true) ty F H (Ab.tup [lit .nilIface,lit (.bool false)]) :=
 OpV.pure fun m w o a ho _ _ _ h=>by
  have h0:=h x (by simp [Op.operands]);rw [hx,lit_p]at h0
  have hrun:(Instr.typeAssert (.iface 514 v) 41 200 true).run Tryz.prog w = .ok (.tuple #[.nilIface, .bool false]) w:=run_typeAssert_lacksB Tryz.underlying200 (by kernel_rfl) (by kernel_rfl) v _ w
  refine⟨.tuple #[.nilIface, .bool false],by simp [execOp,ho,h0,hrun],?_⟩
  unfold Ab.tup
  exact⟨_,rfl,lit_p.2 rfl,lit_p.2 rfl,trivial⟩
end
theorem isF1_pu (g k:Nat) [Dis g k] (l c s:SV):Pu Tryz.prog 42 [erA g l c s,lit (sent k),lit (.bool true)] (lit (.bool false)):=by
 have c:=unwA_pu g l c s
 refine Pu.intro Tryz.func42 rfl (by kernel_rfl) fun C=>?_
 repeat(refine A1 ⟨?_⟩;intros)
 refine WP.unroll 3 ?_
 refine WPR.succ ?_
 repeat(refine A1 ⟨?_⟩;intros)
 refine WgE ?_
 refine Wo (ov_ieqT Tryz.underlying41 (by decide) rfl rfl) ?_
 repeat(refine A1 ⟨?_⟩;intros)
 refine Wo (ov_asIs rfl) ?_
 repeat(refine A1 ⟨?_⟩;intros)
 refine Wo (ov_asUn rfl) ?_
 repeat(refine A1 ⟨?_⟩;intros)
 refine Wo (ov_invoke unwM c rfl rfl) ?_
 repeat(refine A1 ⟨?_⟩;intros)
 refine WgE ?_
 refine Wo (ov_idiff (g:=g) (k:=k) rfl rfl) ?_
 repeat(refine A1 ⟨?_⟩;intros)
 refine Wo (ov_lkIs rfl) ?_
 repeat(refine A1 ⟨?_⟩;intros)
 refine Wo (ov_lkUn rfl) ?_
 repeat(refine A1 ⟨?_⟩;intros)
 refine Wo (ov_lkUs rfl) ?_
 repeat(refine A1 ⟨?_⟩;intros)
 exact E1
theorem isF_pu (g k:Nat) [Dis g k] (l c s:SV):Pu Tryz.prog 13 [erA g l c s,lit (sent k)] (lit (.bool false)):=by
 have c:=isF1_pu g k l c s
 refine Pu.intro Tryz.func13 rfl (by kernel_rfl) fun C=>?_
 repeat(refine A1 ⟨?_⟩;intros)
 refine Wo (ov_ieqA (s:=pt _) (by kernel_rfl) rfl) ?_
 repeat(refine A1 ⟨?_⟩;intros)
 refine Wo (ov_typeOf rfl) ?_
 refine Wo (ov_cmpble rfl) ?_
 repeat(first|(refine A1 ⟨?_⟩;intros)|refine W4 c ⟨?_⟩)
 exact E1
end Go.Ab
