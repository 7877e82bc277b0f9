/- Texts laid one behind the other: Ev31, EvBud, IsN, EvBudL, EvMkL, Open, RowKit, LaidKit, GInt. -/
import Derived.Test.YtpeidlcjlfkpcaaGreatDoorB40
import Derived.LaidSub
import Derived.Stop.LaidTwo
import Derived.ProofKit
import Derived.OpenShut
import Derived.ChangeOld
import Derived.Below
import Derived.OpenVars
import Derived.Deep.Slices
import Derived.Stop.LaidErr
import Derived.LaidMore
import Derived.Deep.DeepHandedRow
import Derived.Deep.DeepWitnessRowRef
set_option linter.all false
set_option maxHeartbeats 16000000
namespace Go.Ab
open Go.Proofs
variable [Base]
abbrev eT:TypeId:=45
abbrev zE:List SV:=[lit (.int .i64 0),lit (.int .i64 0),lit (.int .i64 0),str []]
abbrev erE (e:Nat) (n:Nd):List SV:=[lit (.int .i64 (e:Nat)),lit (.int .i64 n.ln),lit (.int .i64 n.cl),str (oU n)]
def rvR:Except (Nat×Nd) (List Tr)→SV
 | .ok out=>Ab.tup [sl (out.map rt) out.length,ag zE]
 | .error (e,n)=>Ab.tup [lit (.slice none 0 0),ag (erE e n)]
theorem uk {e:Nat}{n:Nd}:rvR (.error (e,n))=Ab.tup [lit (.slice none 0 0),ag (erE e n)]:=rfl
theorem EG {out:List Tr}:rvR (.ok out)=Ab.tup [sl (out.map rt) out.length,ag zE]:=rfl
theorem Gu {l:List Tr}{k:Nat}{t:Tr}(h:l[k]? = some t):((l.map rt).drop (k*1)).take 1=[rt t]:=by
 rw [cB,←p8,kw h];rfl
theorem EI {l:List Tr}{k j:Nat}{t:Tr}(h:l[k]? = some t):(l.map rt++List.replicate j top)[k]? = some (rt t):=by
 have hk:=(bI.1 h).1;rw [fD (by simpa using hk),jg,h];rfl
theorem KL {L:List Li}{nm:List (List UInt8)}{ts:List Tr}(h:EvE L 1 nm ts){ns:List Nd}{N:Nat}(hok:∀n∈ns,n.ok N) (hN:N≤1000) (hns:ns.length≤100) (hst:(stk ns 0 []).isSome=true) (hh:∀n∈ns,n.k=4→wi n=false→re n∈L) (bud:Int) :
  Pu Tryz.prog 10 [sl (ns.map ndx).flatten ns.length,ag [sl (nm.map str) nm.length,sl (ts.map rt) ts.length],lit (.int .i64 bud)] (rvR (kS nm ts false bud ns [])):=by
 have hsm:∀l∈L,l.sm:=fun l hl=>⟨h.ok l hl,h.le l hl⟩
 have hvv:=Ey hst (fun p hp=>by cases hp);generalize hR:kS nm ts false bud ns []=R;refine PuH.toPu ?_;refine PuH.intro Tryz.func10 rfl kr fun C hC=>?_
 repeat(first|(refine Wo (cF (sv:=ag _) rfl) ?_)|(refine Wdo (cF (sv:=ag _) rfl) ?_)|(refine A1 ⟨?_⟩;intros))
 rename_i b7
 refine WP.loopS (ι:=EvS) (fun y=>y.k≤ns.length∧y.out.length=y.k∧(∀t∈y.out,Gd L t)∧kS nm ts false bud (ns.drop y.k) y.out=R∧Own Ir 1 y.out.length (y.out.map rt) y.s y.Hs) (fun y=>ns.length-y.k)
  (fun y=>fm [(2,lit (.int .i64 bud)),(4,pt [sl (nm.map str) nm.length,sl (ts.map rt) ts.length]),(6,lit (.slice none 0 0)),(7,lit (.pointer (some ⟨b7,0,none⟩))),(8,y.s),(16,sl (ns.map ndx).flatten ns.length),(17,lit (.int .i64 ns.length)),(18,lit (.int .i64 y.k))])
  (fun y=>(b7,eT,zE)::y.Hs) ⟨0,[],lit (.slice none 0 0),[]⟩ ⟨an _,rfl,(fun t ht=>by cases ht),by rw [bD];exact hR,Own.nil _ _⟩ lfA Sr ?_
 rintro ⟨k,out,s,Hs⟩ ⟨hk,hol,hog,hgo,hown⟩ K hK;simp only at hk hol hog hgo hown⊢;have hco:=hown.co;by_cases hkl:k<ns.length
 ·obtain⟨n,hget,hmem,hat,hne⟩:=elt kq om hkl;have hn:=hok n hmem;have hv:=hvv k n hget;rw [aB,←hol]at hv;rw [kw hget]at hgo;have hnext:=fun t s' H1 (e:evP nm ts out n = .ok t) (h2:kS nm ts false bud (ns.drop (k+1)) (out++[t])=R) (h1:Own Ir 1 (out.length+1) (out.map rt++[rt t]) s' H1) F' H'=>hK F' H' ⟨k+1,out++[t],s',H1⟩ ⟨by simp only;omega,by simp only [ac,bH];omega,fun u hu=>(az.1 hu).elim (hog u) fun hu=>by rw [ar.1 hu];exact w8 h hog (hh n hmem) e,h2,Gt h1⟩ (by simp only;omega)
  have hsz:∀t,evP nm ts out n = .ok t→dG t≤100000000:=fun t e=>by
   have g:=(w8 h hog (hh n hmem) e).size h.ok;have hm:L.length*(1+L.length)≤100*101:=db h.len (by have:=h.len;omega);omega
  unfold kS at hgo;clear hK hst hok hR;refine A2 ⟨?_⟩;intros;refine Wo (ae (cs':=ndx n) rfl rfl om om hat hne) ?_;refine A2 ⟨?_⟩;intros;rename_i b10 b12;have hkk:n.k=1∨n.k=2∨n.k=3∨n.k=4∨n.k=5∨n.k=6:=by have:=(Au hv.ok).1;omega
  have hsub:=fun(t:Tr)=>@List.Sublist.refl (Nat×TypeId×List SV) ((b12,eT,erE 0 n)::(b7,eT,zE)::Hs)
  refine WP.viaB (fun F H=>∃t,evP nm ts out n = .ok t∧LeF F (fm [(2,lit (.int .i64 bud)),(4,pt [sl (nm.map str) nm.length,sl (ts.map rt) ts.length]),(6,lit (.slice none 0 0)),(7,lit (.pointer (some ⟨b7,0,none⟩))),(8,s),(11,rt t),(12,lit (.pointer (some ⟨b12,0,none⟩))),(16,sl (ns.map ndx).flatten ns.length),(17,lit (.int .i64 ns.length)),(18,lit (.int .i64 k))])∧((b12,eT,erE 0 n)::(b7,eT,zE)::Hs).Sublist H) ?_ ?_
  ·clear hnext hsz;rcases hkk with k1|k1|k1|k1|k1|k1
   ·refine WPd (fun _=>?_) (fun h=>absurd k1 h);have hlb:oU n=n.nm:=if_pos k1;have cx:=KK nm n.nm (by have:=h.ns;omega);rcases Hy nm n.nm with⟨hf,hf'⟩|⟨i,hf,hi⟩
    ·have hp:evP nm ts out n = .error 5:=by unfold evP;rw [if_pos k1,if_pos hf]
     rw [hp]at hgo;simp only at hgo;subst hgo;rw [hf']at cx;rw [uk];rw [←hlb]at cx⊢;clear hv hvv h hown hog hn hh;refine D1 cx ⟨?_⟩;intros;exact ct _ _ (eJ (RV.tmp rfl) RVa Lr) (av _) rfl
    ·have hit:i<ts.length:=by rw [←h.nl];exact hi
     have hti:=aA hit;have htm:=fg hit;generalize ts[i]=t at hti htm;have hgd:ts.getD i (.leaf false)=t:=by rw [List.getD,hti];rfl
     have hp:evP nm ts out n = .ok (dI t []):=by unfold evP;rw [if_pos k1,if_neg om,hf,dN,hgd]
     rw [hf]at cx;have d2:=nS t (Tr.lin.all hsm (h.tl t htm)) (by have:=h.dep t htm;omega);have hat2:=Gu hti;have hne2:ts.map rt≠[]:=fun e=>by rw [gE]at e;rw [e]at hit;simp at hit
     have hnl:=h.nl;have hns':=h.ns;rw [hp];clear hv hvv h hown hog hn hh hti htm hgd hgo hp;generalize dI t []=r at *;generalize rt t=rtt at *;rw [←hlb]at cx⊢;refine D1 cx ⟨?_⟩;intros;refine Wo (ae (cs':=[rtt]) rfl rfl om om hat2 hne2) ?_;refine D1 d2 ⟨?_⟩;intros;exact⟨r,rfl,lfA,Sw⟩
   ·refine WPd (p:=n.k=1) (fun h=>absurd h om) (fun _=>?_);have hp:evP nm ts out n = .ok (.leaf true):=by unfold evP;rw [if_neg om,if_neg om,if_neg om,if_neg om,a9 k1]
    have hlb:oU n=[97,108,108]:=by unfold oU;rw [if_neg om,if_pos k1]
    have c:=eS true;clear hv hvv h hown hog hn hh hgo;rw [hp,show erE 0 n=[lit (.int .i64 (0:Nat)),lit (.int .i64 n.ln),lit (.int .i64 n.cl),str [97,108,108]]from by rw [←hlb]];refine D1 c ⟨?_⟩;intros;exact⟨_,rfl,lfA,Sw⟩
   ·refine WPd (p:=n.k=1) (fun h=>absurd h om) (fun _=>?_);have hp:evP nm ts out n = .ok (.leaf false):=by unfold evP;rw [if_neg om,if_neg om,if_neg om,if_neg om,aa om]
    have hlb:oU n=[110,111,110,101]:=by unfold oU;rw [if_neg om,if_neg om,if_pos k1]
    have c:=eS false;clear hv hvv h hown hog hn hh hgo;rw [hp,show erE 0 n=[lit (.int .i64 (0:Nat)),lit (.int .i64 n.ln),lit (.int .i64 n.cl),str [110,111,110,101]]from by rw [←hlb]];refine D1 c ⟨?_⟩;intros;exact⟨_,rfl,lfA,Sw⟩
   ·refine WPd (p:=n.k=1) (fun h=>absurd h om) (fun _=>?_);have hlb:oU n=[104,97,108,102]:=by unfold oU;rw [if_neg om,if_neg om,if_neg om,if_pos k1]
    have p1:=KW hn.a hn.b om;have p2:=KW hn.c hn.e om;have v1:=qV hn.a;have v2:=qV hn.b;have v3:=qV hn.c;have v4:=qV hn.e;have l1:=eS true;have l2:=eS false;cases hd:wi n with
    |true =>
     have c:=Ia (L:=1001) om (by omega:ht n.a.v≤1001) (by omega:ht n.b.v≤1001) (by omega:ht n.c.v≤1001) (by omega:ht n.e.v≤1001) (fS hd);have hp:evP nm ts out n = .error 3:=by unfold evP;rw [if_neg om,if_pos k1,if_pos hd]
     rw [hp]at hgo;simp only at hgo;subst hgo;rw [uk,show erE 3 n=[lit (.int .i64 (3:Nat)),lit (.int .i64 n.ln),lit (.int .i64 n.cl),str [104,97,108,102]]from by rw [←hlb]];clear hv hvv h hown hog hn hh v1 v2 v3 v4 l1 l2 hd;refine D3 p1 p2 c ⟨?_⟩;intros;exact ct _ _ (eJ (RV.tmp rfl) RVa Lr) (av _) rfl
    |false =>
     have hm:=hh n hmem k1 hd
     have c:=tD (L:=1001) om (by omega:ht n.a.v≤1001) (by omega:ht n.b.v≤1001) (by omega:ht n.c.v≤1001) (by omega:ht n.e.v≤1001) (by
      have:=kX hd;by_cases e:n.c.v-n.a.v=0
      ·exact .inr fun e2=>this ⟨e,e2⟩
      ·exact .inl e)
     have hp:evP nm ts out n = .ok (.node (re n) (.leaf true) (.leaf false)):=by unfold evP;rw [if_neg om,if_pos k1,if_neg (by rw [hd];decide)]
     rw [show thr n.a.v n.b.v n.c.v n.e.v=re n from rfl]at c;rw [hp,show erE 0 n=[lit (.int .i64 (0:Nat)),lit (.int .i64 n.ln),lit (.int .i64 n.cl),str [104,97,108,102]]from by rw [←hlb]];generalize re n=l at *;clear hv hvv h hown hog hn hh v1 v2 v3 v4 hd hgo hp;have en:rt (.node l (.leaf true) (.leaf false))=pt (rc (.node l (.leaf true) (.leaf false))):=rfl;rw [ko]at en;repeat(first|(refine Wo (cF (sv:=ag _) rfl) ?_)|(refine Wdo (cF (sv:=ag _) rfl) ?_)|(refine A1 ⟨?_⟩;intros)|refine W4 p1 ⟨?_⟩|refine W4 p2 ⟨?_⟩|refine W4 c ⟨?_⟩|refine W4 l1 ⟨?_⟩|refine W4 l2 ⟨?_⟩)
     refine⟨_,rfl,?_,Sw⟩;rw [en];(repeat(first|exact LeF.nil _|refine LeF.cons Lr ?_|refine LeF.cons (Le.int om) ?_))
   ·refine WPd (p:=n.k=1) (fun h=>absurd h om) (fun _=>?_);have hlb:oU n=[126]:=by unfold oU;rw [if_neg om,if_neg om,if_neg om,if_neg om,if_pos k1]
    obtain⟨x1,x2⟩:=hv.x (.inl k1);obtain⟨x,hx⟩:∃x:Nat,n.x=(x:Int):=⟨n.x.toNat,om⟩
    rw [hx,dN]at x2;have hti:=aA x2;have htm:=fg x2;generalize out[x]=t at hti htm;have hgd:out.getD x (.leaf false)=t:=by rw [List.getD,hti];rfl
    have hp:evP nm ts out n = .ok (ml t):=by unfold evP;rw [if_neg om,if_neg om,if_pos k1,hx,dN,hgd]
    have c:=s8 t (Tr.lin.all hsm (hog t htm).1);obtain⟨b1,c1,hnc,hcm,rfl,rfl⟩:=hown.blk om;have hgt:(out.map rt++List.replicate (c1*1-out.length*1) top)[((x:Int)).toNat*1]? = some (rt t):=by rw [show((x:Int)).toNat*1=x from by omega];exact EI hti
    rw [hp,show erE 0 n=[lit (.int .i64 (0:Nat)),lit (.int .i64 n.ln),lit (.int .i64 n.cl),str [126]]from by rw [←hlb]];generalize ml t=r at *;generalize rt t=rtt at *;clear hv hvv h hown hog hn hh hti htm hgd hgo hp;refine A2 ⟨?_⟩;intros;rw [hx];refine Wo (eG rfl mmA hgt) ?_;refine D1 c ⟨?_⟩;intros;exact⟨r,rfl,lfA,Sw⟩
   ·refine WPd (p:=n.k=1) (fun h=>absurd h om) (fun _=>?_);have hop:=(Au hv.ok).2 k1;obtain⟨x1,x2⟩:=hv.x (.inr k1);obtain⟨y1,y2⟩:=hv.y k1;obtain⟨x,hx⟩:∃x:Nat,n.x=(x:Int):=⟨n.x.toNat,om⟩
    obtain⟨y,hy⟩:∃y:Nat,n.y=(y:Int):=⟨n.y.toNat,om⟩
    rw [hx,dN]at x2;rw [hy,dN]at y2;have hti:=aA x2;have htj:=aA y2;have m1:=hog _ (fg x2);have m2:=hog _ (fg y2);generalize out[x]=t at hti m1;generalize out[y]=u at htj m2;have hgd:out.getD x (.leaf false)=t:=by rw [List.getD,hti];rfl
    have hge:out.getD y (.leaf false)=u:=by rw [List.getD,htj];rfl
    have hp:evP nm ts out n = .ok (fk n.op t u []):=by unfold evP;rw [if_neg om,if_neg om,if_neg om,if_pos k1,hx,hy,dN,dN,hgd,hge]
    have c:=lO n.op hop u (Tr.lin.all hsm m2.1) t [] (Tr.lin.all hsm m1.1) (fun m h=>by cases h) (by have:=m1.dep;have:=m2.dep;have:=h.len;simp only [bq];omega);have c':=c.arg (l':=[lit (.int .i64 n.op),rt t,rt u,lit (.slice none 0 0)]) ⟨Le.refl _,Le.refl _,Le.refl _,i5,trivial⟩
    have hlt:([str [],str [43],str [42],str [45],str [94]]:List SV)[n.op.toNat*1]? = some (str (oU n)):=by
     unfold oU;rw [if_neg om,if_neg om,if_neg om,if_neg om,if_neg om];have:n.op=1∨n.op=2∨n.op=3∨n.op=4:=by omega
     rcases this with e|e|e|e <;> rw [e] <;> rfl
    obtain⟨b1,c1,hnc,hcm,rfl,rfl⟩:=hown.blk om;have hgt:(out.map rt++List.replicate (c1*1-out.length*1) top)[((x:Int)).toNat*1]? = some (rt t):=by rw [show((x:Int)).toNat*1=x from by omega];exact EI hti
    have hgu:(out.map rt++List.replicate (c1*1-out.length*1) top)[((y:Int)).toNat*1]? = some (rt u):=by rw [show((y:Int)).toNat*1=y from by omega];exact EI htj
    rw [hp];generalize fk n.op t u []=r at *;generalize rt t=rtt at *;generalize rt u=rtu at *;clear hv hvv h hown hog hn hh hti htj m1 m2 hgd hge hgo hp c;refine A2 ⟨?_⟩;intros;refine Wo (eG rfl mmA hlt) ?_;refine A2 ⟨?_⟩;intros;rw [hx];refine Wdo (eG rfl mmA hgt) ?_;refine A2 ⟨?_⟩;intros;rw [hy];refine Wdo (eG rfl mmA hgu) ?_;refine D1 c' ⟨?_⟩;intros;exact⟨r,rfl,lfA,Sw⟩
  ·rintro F H ⟨t,hp,hF,hH⟩;refine WP.sub hH (WP.le hF ?_);have cz:=rh t (by have:=hsz t hp;omega);have hz:=hsz t hp;rw [hp]at hgo;simp only at hgo;unfold Am at hgo;simp only [sO,aX,cC]at hgo;clear hF hH hsub hh hvv hv hn;by_cases hb:bud<(dG t:Nat)
   ·rw [if_pos hb]at hgo;subst hgo;rw [uk];clear hnext hsz hp hog h;generalize dG t=zt at *;refine D1 cz ⟨?_⟩;intros;exact ct _ _ (eJ (RV.tmp rfl) RVa Lr) (av _) rfl
   ·rw [if_neg hb]at hgo;have hx:=fun s' H1=>hnext t s' H1 hp hgo
    clear hnext hsz hgo hp hog h;generalize dG t=zt at *;refine D1 cz ⟨?_⟩;intros;refine ot hown om (fun s' H1 hown'=>?_) (hsp:=Tk.skip _ (Tk.skip _ (Tk.skip _ (Tk.same _))));have hco':=hown'.co;replace hx:=hx s' H1 hown';clear hown hown';simp only [ab,a8];refine A2 ⟨?_⟩;intros;exact hx _ _ lfA Sw
 ·have hke:k=ns.length:=by omega
  subst hke;rw [eL]at hgo;have hR2:R = .ok out:=hgo.symm;subst hR2;rw [EG];refine WP.rowS 8 hown rfl (aG (l₁:=[(b7,eT,zE)])) ?_;clear hK hown hvv hst hok hh h hgo hog;refine A2 ⟨?_⟩;intros;exact ct _ _ (eJ (RV.tmp rfl) RVa Lr) (av _) rfl
section
variable {F:Fr}{H:LH}{ty:TypeId}
end
theorem K8 {l:List Tr}{k:Nat}{t:Tr}(h:l[k]? = some t):((l.map szI).drop (k*1)).take 1=[szI t]:=by
 rw [cB,←p8,kw h];rfl
def evM (e:vr) (ns:List Nd):List Li:=e.L++hLs ns
theorem MF (e:vr){ns:List Nd}(hok:∀n∈ns,n.ok 10) (hl:ns.length≤9):S8 (evM e ns) 500 e.nm e.ts ns 10:=by
 have hll:=e.ll;have hhl:=Ht ns;refine⟨e.evE ?_ ?_ om (au _) ?_ (fun l hl=>cG _ hl),fun t ht=>?_,hok,om,om,fun n hn h4 hd=>cN _ (PG hn h4 hd)⟩
 ·intro l hl;rcases az.1 hl with h|h
  ·exact(e.sm l h).1
  ·exact Mt l h
 ·intro l hl;rcases az.1 hl with h|h
  ·exact(e.sm l h).2.gr om
  ·exact RG hok om l h
 ·show(e.L++hLs ns).length≤100
  rw [ac];omega
 ·have g:=(e.gd t ht).size (Bl e.sm);have hm:e.L.length*(1+e.L.length)≤36*37:=db hll om;omega
theorem PN (e:vr){ns:List Nd}(hok:∀n∈ns,n.ok 10) (hl:ns.length≤9){free:Bool}{bud:Int}{o:List Tr}(h:kS e.nm e.ts free bud ns [] = .ok o) (hn:1≤ns.length) :
  o.length=ns.length∧(∀t∈o,Gd (evM e ns) t)∧(∃t,o[o.length-1]? = some t∧t.all (fun l=>l.le 1000000)∧t.size≤1000000)∧∀u∈o,dG u≤10100:=by
 have hr:=MF e hok hl;obtain⟨h1,h2⟩:=HE hr.e hr.hh (fun t ht=>by cases ht) h;simp only [bq,aB]at h2;have hlt:o.length-1<o.length:=by omega
 have hz:∀u∈o,dG u≤10100:=fun u hu=>by
  have g:=(h1 u hu).size hr.e.ok;have hm:(evM e ns).length*(1+(evM e ns).length)≤100*101:=db hr.e.len (by have:=hr.e.len;omega);omega
 refine⟨h2,h1,⟨o[o.length-1],aA hlt,?_,?_⟩,hz⟩
 ·exact Tr.lin.all (fun l hl=>(hr.e.le l hl).gr om) (h1 _ (fg hlt)).1
 ·rw [ug];have:=hz _ (fg hlt);omega
theorem C8 [GV 1 errT] [iF 6] [iF 4] [iF 8]{c:Nat}(hc:c=5∨c=3∨c=7) (n:Nd) :
  Pu Tryz.prog 11 [erA (gOf 6 4 8 c) (lit (.int .i64 n.ln)) (lit (.int .i64 n.cl)) (str (oU n)),ag (erE c n)] (lit (.bool true)):=by
 rcases hc with rfl|rfl|rfl
 ·exact yU M8 n.ln n.cl (oU n)
 ·exact yU M9 n.ln n.cl (oU n)
 ·exact yU M7 n.ln n.cl (oU n)
theorem RO (e:vr){ns:List Nd}(hf:HfS ns) (hl:ns.length≤9):EvE (evM e ns) 1 e.nm e.ts:=by
 have hll:=e.ll;have hhl:=Ht ns;refine e.evE ?_ ?_ (au _) om ?_ (fun l hl=>cG _ hl)
 ·intro l hl;rcases az.1 hl with h|h
  ·exact(e.sm l h).1
  ·exact Mt l h
 ·intro l hl;rcases az.1 hl with h|h
  ·exact(e.sm l h).2
  ·obtain⟨n,hn,rfl⟩:=aj.1 h;obtain⟨h1,h2⟩:=cW.1 hn;simp only [bG,cC,fw]at h2;exact(hf n h1 h2.1 h2.2).2
 ·show(e.L++hLs ns).length≤100
  rw [ac];omega
theorem PM [iF 0] [iF 6] [iF 2] [iF 3] [iF 4] [iF 8] [GV 1 errT] (zs:List Int) (hz:zs.length≤9223372036854775807) (z:Int) (hz1 : -9223372036854775808≤z∧z≤9223372036854775807) :
  Pu Tryz.prog 3 [nsl .i64 zs,lit (.int .i64 z)] (lit (.bool true)):=by
 obtain⟨hz1,hz2⟩:=hz1;have hk:(zs.take (min zs.length 400)).length≤400:=by simp;omega
 have hnew:=Rm zs hz;generalize zs.take (min zs.length 400)=ys at *;have kn:=Ps;have henv:=RP ys hk;clear hz;obtain⟨B,hB⟩:∃B:Int,B=if z < -1∨20<z then 1000 else z:=⟨_,rfl⟩
 have hB1:B≤1000:=by rw [hB];split <;> omega
 refine Pi Tryz.func3 fun C=>?_
 refine A2 ⟨?_⟩;intros;refine WPL.callN hnew rfl rfl fun b=>?_
 refine A2 ⟨?_⟩;intros;refine Wtx henv mmA fun e=>?_
 refine A2 ⟨?_⟩;intros;rename_i b6;refine WfT (yV ys hk b) ?_;rintro s _ ⟨t,ns0,H1,rfl,hown,hw,hl0,hf0⟩;simp only [ab,a8];have hpos0:=hw.pos;have ho0:otx ns0≠none:=by rw [hw.otx];simp
 have hok:=QV (i:=0) hw.ok;have ho:=O6 (i:=0) ho0;have hf:=QW (i:=0) hf0;have hl:(plG 0 ns0).length≤9:=by rw [qu];exact hl0
 have hpos:1≤(plG 0 ns0).length:=by rw [qu];exact hpos0
 have cp:=ID om om hown;have hco:=hown.co;generalize plG 0 ns0=ns at *;clear ho0 hw hf0 hl0 hpos0;refine WfT cp ?_ (hs:=Tk.skip _ (Tk.skip _ (Tk.same _)));rintro _ H2 ⟨rfl,hown2⟩;simp only [ab,a8];obtain⟨b2,c2,hnc,hcm,hs2,rfl⟩:=hown2.blk om;refine WPL.pub (d:=27) (s':=sl (ns.map ndx).flatten ns.length) (aq.there _ (aq.there _ (aq.here _))) (by rw [←hs2];rfl) (fun m arr h1 h2=>pn h1 h2 hnc hcm) ?_;clear cp hown hown2 hs2 hco hnc hcm
 obtain⟨tx,htx⟩:∃tx,otx ns=some tx:=by
  cases h:otx ns with
  |none=>exact absurd h ho
  |some u=>exact⟨u,rfl⟩
 have hr:=MF e hok hl;have run:=fun bud free=>Kz hr bud free
 simp only [if_neg ho,e.nml]at run;have rv:=fun bud=>KL (RO e hf hl) hok om om (GY htx) hr.hh bud
 simp only [e.nml]at rv
 have hmost:kS e.nm e.ts false 9223372036854775807 ns []=kS e.nm e.ts true 0 ns []:=AW hr.e (by
  have h1:=hr.e.len;have h2:(evM e ns).length*((evM e ns).length+1)≤100*101:=db h1 om;omega) hr.hh (fun t ht=>by cases ht)
 have rvM:=rv 9223372036854775807;rw [hmost]at rvM;have rvB:=rv B;have rB:=run B false;have rT:=run 0 true;clear run rv hmost;(refine O1 ⟨?_⟩;intros)
 refine WPL.nil ?_;refine xW ?_;refine WP.seq' ?_;refine WP.via (fun F H=>LeF F (fm [(1,lit (.int .i64 B)),(6,lit (.pointer (some ⟨b6,0,none⟩))),(7,tqs e.ts),(8,sl (ns.map ndx).flatten ns.length)])∧[(b6,CX,[sl (e.nm.map str) e.ts.length,sl (e.ts.map rt) e.ts.length])].Sublist H) ?_ ?_
 ·clear rvM rvB rB rT;by_cases h1:z < -1
  ·rw [if_pos (.inl h1)]at hB;subst hB;refine A2 ⟨?_⟩;intros;exact⟨lfA,by repeat(first|exact Sr|exact List.Sublist.cons_cons _ (av _)|refine Sc ?_)⟩
  ·by_cases h2:20<z
   ·rw [if_pos (.inr h2)]at hB;subst hB;refine A2 ⟨?_⟩;intros;exact⟨lfA,by repeat(first|exact Sr|exact List.Sublist.cons_cons _ (av _)|refine Sc ?_)⟩
   ·rw [if_neg om]at hB;subst hB;refine A2 ⟨?_⟩;intros;exact⟨lfA,by repeat(first|exact Sr|exact List.Sublist.cons_cons _ (av _)|refine Sc ?_)⟩
 rintro F H ⟨hF,hH⟩;refine WP.sub hH (WP.le hF ?_);clear hF hH hB henv hnew hf;cases hR:kS e.nm e.ts true 0 ns []with
 |error p =>
  obtain⟨c,n⟩:=p;rw [hR]at rT rvM;cases hRb:kS e.nm e.ts false B ns []with
  |ok o =>
   have:=w9 (b0:=0) hRb;rw [hR]at this;cases this
  |error q =>
   obtain⟨c',n'⟩:=q;rw [hRb]at rB rvB;rw [sn]at rB rT;rw [uk]at rvB rvM;have hc:=uX hR;have hc':=uX hRb;have fA:=C8 hc n;have fB:=C8 hc' n';have hc0:3≤c:=by omega
   have hc0':3≤c':=by omega
   have ce:=E2 rB;have cs:=Ij rT;clear rB rT hc hc' hRb hR hr ho htx;refine D5 ce cs rvB rvM fA ⟨?_⟩;intros;refine WP.unroll 1 (WPR.succ ?_);exact Y2 kn fB
 |ok outs =>
  rw [hR]at rT rvM;rw [w7]at rT;rw [EG]at rvM;obtain⟨l1,l2,⟨t',t1,t2,t3⟩,l4⟩:=PN e hok hl hR hpos;have cs:=Kp om (fun u hu=>by have:=l4 u hu;omega) rT;cases hRb:kS e.nm e.ts false B ns []with
  |ok o =>
   obtain rfl:outs=o:=by
    have:=w9 (b0:=0) hRb;rw [hR]at this;exact Except.ok.inj this
   rw [hRb]at rB rvB;rw [w7]at rB;rw [EG]at rvB;have ce:=HC om t1 t2 t3 rB;clear rB rT hR hRb hr ho htx;refine D4 ce cs rvB rvM ⟨?_⟩;intros;rename_i b9 b14 b16
   refine WP.loopS (ι:=Nat) (fun k=>k≤outs.length) (fun k=>outs.length-k)
    (fun k=>fm [(9,lit (.pointer (some ⟨b9,0,none⟩))),(10,lit .nilIface),(11,sl (outs.map szI) outs.length),(13,sl (outs.map rt) outs.length),(14,lit (.pointer (some ⟨b14,0,none⟩))),(15,sl (outs.map rt) outs.length),(86,lit (.int .i64 outs.length)),(87,lit (.int .i64 k))])
    (fun _=>[(b14,eT,zE),(b9,37,tqx t')]) 0 (an _) lfA (by repeat(first|exact Sr|refine List.Sublist.cons_cons _ ?_|refine Sc ?_|exact av _)) ?_
   rintro k hk K hK;by_cases hkl:k<outs.length
   ·have hget:=aA hkl;generalize outs[k]=u at hget;have hat:=K8 hget;have hat2:=Gu hget;have hne:outs.map szI≠[]:=fun e=>by rw [gE]at e;rw [e]at hkl;simp at hkl
    have hne2:outs.map rt≠[]:=fun e=>by rw [gE]at e;rw [e]at hkl;simp at hkl
    have hu:=l4 u (bn hget);have cz:=rh u om;have hgo:=fun F' H'=>hK F' H' (k+1) om om
    clear hK hget l4 l2;refine A2 ⟨?_⟩;intros;refine Wdo (ae (cs':=[szI u]) rfl rfl om om hat hne) ?_;refine A2 ⟨?_⟩;intros;refine Wdo (ae (cs':=[rt u]) rfl rfl om om hat2 hne2) ?_;refine D1 cz ⟨?_⟩;intros;exact hgo _ _ lfA (by repeat(first|exact Sr|refine List.Sublist.cons_cons _ ?_|refine Sc ?_|exact av _))
   ·clear hK;have hke:k=outs.length:=by omega
    subst hke;have hat:=Gu t1;have hlt:=(bI.1 t1).1;have hne2:outs.map rt≠[]:=fun e=>by rw [gE]at e;rw [e]at hlt;simp at hlt
    have cw:=A5 t' t2 t3;have cs2:=Ku t' t2 t3;clear l2 l4 t1 t2 t3;refine D1 kn ⟨?_⟩;intros;refine fJ (ae (i:=((outs.length-1:Nat):Int)) (cs':=[rt t']) rfl (by show lit _=_;congr 2;omega) om om hat hne2) ?_;exact Y2 cw cs2
  |error q =>
   obtain⟨c',n'⟩:=q;rw [hRb]at rB rvB;rw [sn]at rB;rw [uk]at rvB;have hc':=uX hRb;have fB:=C8 hc' n';have hc0':3≤c':=by omega
   have ce:=E2 rB;clear rB rT hR hRb hr ho htx;refine D4 ce cs rvB rvM ⟨?_⟩;intros;rename_i b9 b14 b16
   refine WP.loopS (ι:=Nat) (fun k=>k≤outs.length) (fun k=>outs.length-k)
    (fun k=>fm [(9,lit (.pointer (some ⟨b9,0,none⟩))),(10,erA (gOf 6 4 8 c') (lit (.int .i64 n'.ln)) (lit (.int .i64 n'.cl)) (str (oU n'))),(11,sl (outs.map szI) outs.length),(13,lit (.slice none 0 0)),(14,lit (.pointer (some ⟨b14,0,none⟩))),(15,sl (outs.map rt) outs.length),(86,lit (.int .i64 outs.length)),(87,lit (.int .i64 k))])
    (fun _=>[(b14,eT,erE c' n'),(b9,37,[lit (.int .i64 0),lit (.slice none 0 0)])]) 0 (an _) lfA (by repeat(first|exact Sr|refine List.Sublist.cons_cons _ ?_|refine Sc ?_|exact av _)) ?_
   rintro k hk K hK;by_cases hkl:k<outs.length
   ·have hget:=aA hkl;generalize outs[k]=u at hget;have hat:=K8 hget;have hat2:=Gu hget;have hne:outs.map szI≠[]:=fun e=>by rw [gE]at e;rw [e]at hkl;simp at hkl
    have hne2:outs.map rt≠[]:=fun e=>by rw [gE]at e;rw [e]at hkl;simp at hkl
    have hu:=l4 u (bn hget);have cz:=rh u om;have hgo:=fun F' H'=>hK F' H' (k+1) om om
    clear hK hget l4 l2;refine A2 ⟨?_⟩;intros;refine Wdo (ae (cs':=[szI u]) rfl rfl om om hat hne) ?_;refine A2 ⟨?_⟩;intros;refine Wdo (ae (cs':=[rt u]) rfl rfl om om hat2 hne2) ?_;refine D1 cz ⟨?_⟩;intros;exact hgo _ _ lfA (by repeat(first|exact Sr|refine List.Sublist.cons_cons _ ?_|refine Sc ?_|exact av _))
   ·clear hK;have hke:k=outs.length:=by omega
    subst hke;clear l2 l4 t1 t2 t3;exact Y2 kn fB
open Go.ChangeShapes Go.WideShapes Go.ChangeAt Go.RowKit
section
variable {H:Type}{enc:TypeId×Value→H}{P:Program}{w:World}{sp:Nat→Bool}{held:Bool}
def uI (w:World):Mem:=fun b=>w.heap[b]?
theorem LR (w:World) (h:Base.mem.le (uI w)):dD (uI w) w:=⟨fun _ _ h=>h,h⟩
def Opn (enc:TypeId×Value→H) (P:Program) (w:World) (sp:Nat→Bool) (held:Bool) (T:TypeId) (G:List SV→Prop):Prop :=
 ∀fuel cs x,DataW.trod enc P w 0 sp held fuel T cs=some x→∃svs,G svs∧bk (uI w) svs cs
inductive Cat:List (List SV→Prop)→List SV→Prop
 |nil:Cat [] []
 |cons {G:List SV→Prop}{Gs:List (List SV→Prop)}{a b:List SV}(h:G a) (k:Cat Gs b):Cat (G::Gs) (a++b)
def GBool:List SV→Prop:=fun l=>∃b,l=[lit (.bool b)]
def GInt (k:IntKind):List SV→Prop:=fun l=>∃n,(Lit.int k n).wf=true∧l=[lit (.int k n)]
def GStr:List SV→Prop:=fun l=>∃s:ByteArray,s.size≤maxLen∧l=[lit (.string s)]
def GNat:List SV→Prop:=fun l=>∃xs,D xs∧l=[dg xs]
def Th (k:IntKind):List SV→Prop:=fun l=>∃zs:List Int,(∀z∈zs,(Lit.int k z).wf=true)∧zs.length≤maxLen∧l=[nsl k zs]
def GSl (k:Nat) (G:List SV→Prop):List SV→Prop:=fun l=>∃es:List (List SV),(∀e∈es,G e∧e.length=k)∧es.length≤maxLen∧l=[sl es.flatten es.length]
theorem rJ {m:Mem}{s:SV}{v:Value}(h:s.p m v) (f:v.oneCell'=true):bk m [s] [v]:=⟨⟨h,f⟩,trivial⟩
theorem LB {T:TypeId} [hT:TBo P T]:Opn enc P w sp held T GBool:=fun fuel cs x h=>by
 obtain⟨b,rfl,_⟩:=DataW.trod_bool hT.h h;exact⟨_,⟨b,rfl⟩,rJ (ap.2 rfl) rfl⟩
theorem oC {T:TypeId}{k:IntKind} [hT:TIn P T k]:Opn enc P w sp held T (GInt k):=fun fuel cs x h=>by
 obtain⟨n,rfl,_,hw⟩:=DataW.trod_int hT.h h;exact⟨_,⟨n,hw,rfl⟩,rJ (ap.2 rfl) rfl⟩
theorem OM {T:TypeId} [hT:TSr P T]:Opn enc P w sp held T GStr:=fun fuel cs x h=>by
 obtain⟨s,rfl,_,hw⟩:=DataW.trod_string hT.h h;exact⟨_,⟨s,hw,rfl⟩,rJ (ap.2 rfl) rfl⟩
def laid (P:Program):List Field→Nat→Nat→Bool
 | [],o,n=>Nat.beq o n
 |f::fs,o,n=>Nat.beq f.offset o&&laid P fs (o+P.cellsOf f.type) n
inductive Nq (enc:TypeId×Value→H) (P:Program) (w:World) (sp:Nat→Bool) (held:Bool):List TypeId→List (List SV→Prop)→Prop
 |nil:Nq enc P w sp held [] []
 |cons {T:TypeId}{G:List SV→Prop}{Ts:List TypeId}{Gs:List (List SV→Prop)}(h:Opn enc P w sp held T G) (k:Nq enc P w sp held Ts Gs):Nq enc P w sp held (T::Ts) (G::Gs)
theorem GZ {n:Nat}:∀{fs:List Field}{Gs:List (List SV→Prop)}{o:Nat}{cs:List Value},Nq enc P w sp held (fs.map (·.type)) Gs→laid P fs o cs.length=true→
  (∀(i:Nat) (f:Field),fs[i]? = some f→∃x,DataW.trod enc P w 0 sp held n f.type ((cs.drop f.offset).take (P.cellsOf f.type))=some x)→
  ∃svs,Cat Gs svs∧bk (uI w) svs (cs.drop o)
 | [],_,o,cs,h,hl,_=>by
  cases h;simp only [laid]at hl;have:=bA hl;subst this;exact⟨[], .nil,by rw [eL];trivial⟩
 |f::fs,_,o,cs,h,hl,hx=>by
  cases h with
  |cons h k =>
   simp only [laid,bG]at hl;have ho:=bA hl.1;obtain⟨x,hx0⟩:=hx 0 f rfl;rw [ho]at hx0;obtain⟨s0,g0,a0⟩:=h _ _ _ hx0;obtain⟨s1,g1,a1⟩:=GZ k hl.2 fun i f' hf=>hx (i+1) f' (by simpa using hf)
   refine⟨s0++s1, .cons g0 g1,?_⟩;have:=a0.append a1;rwa [←jP,gO]at this
theorem qx {T:TypeId}{fs:Array Field}{Gs:List (List SV→Prop)}(hT:P.underlying T=some (.struct fs)) (hl:laid P fs.toList 0 (P.cellsOf T)=true) (ho:Nq enc P w sp held (fs.toList.map (·.type)) Gs):Opn enc P w sp held T (Cat Gs):=fun fuel cs x h=>by
 obtain⟨xs,n,_,_,hc,hlen,hf⟩:=DataW.trod_struct hT h
 have:=GZ (n:=n) (cs:=cs) ho (by rw [hc];exact hl) fun i f hi=>by
  have h1:=hf i f (by simpa using hi)
  have h2:i<xs.length:=by
   have:=(bI.1 hi).1;simp at this;omega
  rw [aA h2]at h1;exact⟨_,h1⟩
 simpa using this
theorem sE {a:Addr}{n:Nat}{cs:List Value}(h:w.cells? 0 a n=some cs):cs.length=n∧∀j,j<n→w.cell? (a.add j)=cs[j]?:=by
 unfold World.cells? at h;rw [if_pos (an _)]at h;have hl:=mapM_some_length h;refine⟨by simpa using hl,fun j hj=>?_⟩;have:=mapM_some_get h j j (by simp [hj]);simpa using this
theorem yS {m:Mem}{f:Nat→List SV}{k:Nat}{vs:List Value}:∀{n:Nat},(∀i,i<n→(f i).length=k∧bk m (f i) ((vs.drop (i*k)).take k))→bk m ((List.range n).map f).flatten (vs.take (n*k))
 |0,_=>by simp [bk]
 |n+1,h=>by
  have h1:=yS (n:=n) fun i hi=>h i om
  have h2:=(h n om).2;have:=h1.append h2;rw [iU,aH,cH,show(n+1)*k=n*k+k from by rw [aT,aY],List.take_add];simpa using this
theorem Ar {T e:TypeId}{k:Nat}{G:List SV→Prop} [hT:TSl P T e] (hk:P.cellsOf e=k) (hk0:0<k) (hG:Opn enc P w sp held e G):Opn enc P w sp held T (GSl k G):=fun fuel cs x h=>by
 rcases Deep.open_slice hT.h h with⟨rfl,_⟩|⟨a,len,cap,m,n,Dd,Pl,rfl,_,hlc,hcm,hm,_,hx⟩
 ·exact⟨_,⟨[],by simp,by simp,rfl⟩,rJ (jq (by simp) (by simp [maxLen]) (.inl rfl)) rfl⟩
 ·have hlm:len≤m:=by rw [hm];split <;> omega
  have hcell:∀i,i<len→∃l,G l∧l.length=k∧∃cs',w.cells? 0 (a.add (i*k)) k=some cs'∧bk (uI w) l cs':=fun i hi=>by
   obtain⟨cs',h1,h2⟩:=hx i om;rw [hk]at h1;obtain⟨l,g1,g2⟩:=hG _ _ _ h2;exact⟨l,g1,by rw [←g2.length,(sE h1).1],cs',h1,g2⟩
  have hch:∀i:Nat,∃l,i<len→G l∧l.length=k∧∃cs',w.cells? 0 (a.add (i*k)) k=some cs'∧bk (uI w) l cs':=fun i=>by
   by_cases hi:i<len
   ·obtain⟨l,hl⟩:=hcell i hi;exact⟨l,fun _=>hl⟩
   ·exact⟨[],fun h=>absurd h hi⟩
  obtain⟨f,hf⟩:=Classical.axiomOfChoice hch;refine⟨_,⟨(List.range len).map f,fun l hl=>?_,by simp;omega,rfl⟩,rJ (v := .slice (some a) len cap) ?_ rfl⟩
  ·obtain⟨i,hi,rfl⟩:=aj.1 hl;have:=hf i (by simpa using hi);exact⟨this.1,this.2.1⟩
  ·rw [cK,List.length_range];refine jq hlc hcm ?_;rcases Nat.eq_zero_or_pos len with h0|h0
   ·left;subst h0;rfl
   ·right;obtain⟨_,hl0,cs0,hc0,_⟩:=hf 0 h0;have hcc:=(sE hc0).2 0 hk0;rw [bQ]at hcc;have hcl:=(sE hc0).1;rw [aA om]at hcc;obtain⟨b,off,spot⟩:=a;have hs:spot=none:=by simpa [Addr.add] using World.cell?_spot hcc
    subst hs;simp only [cE,cj]at hcc
    have hb:∃arr T fz,w.heap[b]? = some (.cells arr T fz):=by
     unfold World.cell? at hcc;cases hbb:w.heap[b]? with
     |none=>simp [hbb]at hcc
     |some o=>cases o with
      |cells arr T fz=>exact⟨arr,T,fz,rfl⟩
      |_=>simp [hbb]at hcc
    obtain⟨arr,T',fz,hb⟩:=hb;refine⟨b,off,rfl,arr,T',fz,hb,?_⟩
    have hfl:((List.range len).map f).flatten.length=len*k:=by
     have:∀n,n≤len→((List.range n).map f).flatten.length=n*k:=by
      intro n;induction n with
      |zero=>intro _;simp
      |succ n ih=>intro hn;rw [iU,aH,cH,ac,ih om];simp [(hf n om).2.1,aT]
     exact this len (au _)
    rw [hfl];refine yS fun i hi=>?_
    obtain⟨_,hl,cs',hc,ha⟩:=hf i hi;refine⟨hl,?_⟩
    have hcs:cs'=((arr.toList.drop off).drop (i*k)).take k:=by
     obtain⟨g1,g2⟩:=sE hc;apply qf;intro j;by_cases hj:j<k
     ·have h1:=g2 j hj;simp only [cE]at h1;rw [eB w b _ arr _ _ hb]at h1;rw [List.getElem?_take_of_lt hj,eD,eD,←h1];simp [jN]
     ·rw [df om,df (by rw [aC];omega)]
    rw [←hcs];exact ha
theorem Dm {T e:TypeId}{k:IntKind} [hT:TSl P T e] [hE:TIn P e k] (hk:P.cellsOf e=1):Opn enc P w sp held T (Th k):=fun fuel cs x h=>by
 obtain⟨svs,⟨es,hes,hl,rfl⟩,ha⟩:=Ar (k:=1) hk om (oC (k:=k)) fuel cs x h;refine⟨_,?_,ha⟩
 have:∃zs:List Int,(∀z∈zs,(Lit.int k z).wf=true)∧es=zs.map fun z=>[lit (.int k z)]:=by
  clear ha hl;induction es with
  |nil=>exact⟨[],by simp,rfl⟩
  |cons e es ih =>
   obtain⟨zs,h1,h2⟩:=ih fun x hx=>hes x (by simp [hx])
   obtain⟨⟨z,hz,rfl⟩,_⟩:=hes e (by simp);exact⟨z::zs,by simpa using ⟨hz,h1⟩,by rw [h2];rfl⟩
 obtain⟨zs,h1,rfl⟩:=this;refine⟨zs,h1,by simpa using hl,?_⟩
 have hfl:(zs.map fun z=>[lit (.int k z)]).flatten=zs.map fun z=>lit (.int k z):=by
  clear hl hes ha h1;induction zs with
  |nil=>rfl
  |cons z zs ih=>simp [ih]
 rw [hfl,cK];unfold nsl;rfl
theorem ON {T e:TypeId} [hT:TSl P T e] [hE:TIn P e .u32] (hk:P.cellsOf e=1):Opn enc P w sp held T GNat:=fun fuel cs x h=>by
 obtain⟨svs,⟨zs,hz,hl,rfl⟩,ha⟩:=Dm (k := .u32) hk fuel cs x h
 have:∃xs:List Nat,D xs∧zs=xs.map fun d:Nat=>(d:Int):=by
  clear ha hl;induction zs with
  |nil=>exact⟨[],D.nil,rfl⟩
  |cons z zs ih =>
   obtain⟨xs,h1,h2⟩:=ih fun x hx=>hz x (by simp [hx])
   have:=hz z (by simp);simp only [Lit.wf,IntKind.min,IntKind.max,IntKind.signed,IntKind.bits,bG,cC]at this;simp at this;exact⟨z.toNat::xs,D.cons om h1,by rw [h2];simp;omega⟩
 obtain⟨xs,hD,rfl⟩:=this;exact⟨_,⟨xs,hD,(wg xs).symm▸rfl⟩,ha⟩
end
end Go.Ab
namespace Go.Ab
open Go.Proofs
variable [Base]
open Go.ChangeShapes Go.WideShapes Go.ChangeAt Go.RowKit
theorem TI {m:Mem}{svs:List SV}{v:Value}(h:bk m svs v.cells.toList) (hl:2≤svs.length):(ag svs).p m v:=by
 have hlen:=h.length;unfold ag;cases v with
 |agg arr=>exact⟨arr,rfl,h⟩
 |_=>simp [Value.cells]at hlen;omega
theorem N4 {P:Program}{f:FuncId}{args:List SV}{W:World}{vs:List Value}(hB:Base.mem.le (uI W)) (h:Pu P f args (lit (.bool true))) (ha:dC (uI W) args vs) :
  Calls P f vs.toArray W fun e w'=>e = .returned (.bool true)∧Below W.heap.size W w':=by
 unfold Pu at h;refine(h.2 _ W vs (LR W hB) ha).mono ?_;rintro e w' ⟨v,m',rfl,hv,_,hr⟩;rw [ap]at hv;subst hv;exact⟨rfl,hr.os,hr.tape,hr.output.1,hr.size,fun k hk=>hr.block k hk (by simp)⟩
theorem TA:ownKnob Tryz.prog.godebug=none:=by kernel_rfl
theorem DI:laidOutB Tryz.prog=true:=by kernel_rfl
section
variable {H:Type}{enc:TypeId×Value→H}{W:World}{sp:Nat→Bool}{held:Bool}
abbrev GI:List SV→Prop:=Cat [GBool,GNat]
abbrev GR:List SV→Prop:=Cat [GI,GNat]
theorem Dl:Opn enc Tryz.prog W sp held 60 GNat:=ON kr
theorem Lz:Opn enc Tryz.prog W sp held 62 GI:=qx Tryz.underlying62 kr (.cons LB (.cons Dl .nil))
theorem Dj:Opn enc Tryz.prog W sp held 64 GR:=qx Tryz.underlying64 kr (.cons Lz (.cons Dl .nil))
end
theorem HV {l:List SV}(h:GR l):∃r:RQ,(D r.n∧D r.d)∧l=EZ r:=by
  cases h with
  |cons h k=>cases h with
    |cons hb hk=>cases hk with
      |cons hn hz=>cases hz;cases k with
        | cons hd hz => cases hz
                        obtain⟨b,rfl⟩:=hb;obtain⟨xs,hx,rfl⟩:=hn;obtain⟨ys,hy,rfl⟩:=hd;exact⟨⟨b,xs,ys⟩,⟨hx,hy⟩,rfl⟩
end Go.Ab
namespace Go.Ab
open Go.Proofs
variable [Base]
open Go.ChangeShapes Go.WideShapes Go.ChangeAt Go.RowKit
theorem Qh : "*" ++ "errors.errorString" = "*errors.errorString" := by decide
theorem Tn (u:TypeId) (h:(Tryz.prog).typeName? 3 u=some "*errors.errorString"):u=458 :=
 typeName_ptr_named (nm := "errors.errorString") (by rw [Qh];kernel_rfl) kr (by decide) u (by rw [Qh];exact h)
theorem ng {n:String}{text:List UInt8}{r:List (String×DataW Unit)}{W:World}{g:Nat}(h:laidMet Tryz.prog ((n, .iface "*errors.errorString" (.ptr (.agg [.lit (.string text)])))::r) W)
  (hg:(Tryz.prog).globalNamed n=some g) (ht:((Tryz.prog).globals[g]?).map (·.type)=some 39):∃(a:Addr) (T:TypeId) (fz:Nat×Nat),W.heap[g]? = some (.cells #[.iface 458 (.pointer (some a))] T fz):=by
 obtain⟨a,s,hv,_⟩:=laid_sentinel (tp:=458) h hg ht Tryz.underlying39 Tn Tryz.underlying458 Tryz.underlying478 rfl rfl Tryz.underlying9 kr kr;unfold World.var? at hv;rw [hg]at hv;simp only [vF]at hv;cases hh:W.heap[g]? with
 |none=>rw [hh]at hv;cases hv
 |some o =>
  rw [hh]at hv;cases o with
  |cells cs T fz =>
   simp only [bM]at hv;subst hv;exact⟨a,T,fz,rfl⟩
  |_=>cases hv
abbrev S1 (W:World):Base:=⟨uI W⟩
end Go.Ab
namespace Go.Ab
open Go.Proofs
variable [Base]
open Go.ChangeShapes Go.WideShapes Go.ChangeAt Go.RowKit
theorem oc {l:List SV}(h:GInt .i64 l):∃z:Int,(-9223372036854775808≤z∧z≤9223372036854775807)∧l=[lit (.int .i64 z)]:=by
 obtain⟨z,hz,rfl⟩:=h;refine⟨z,?_,rfl⟩;simp only [Lit.wf,IntKind.min,IntKind.max,IntKind.signed,IntKind.bits,bG,cC]at hz;simp at hz;omega
theorem RH {l:List SV}(h:GStr l):∃s:List UInt8,s.length≤9223372036854775807∧l=[str s]:=by
 obtain⟨s,hs,rfl⟩:=h;refine⟨s.data.toList,?_,?_⟩
 ·have:s.data.toList.length=s.size:=by rw [aN];rfl
  rw [this];simp only [maxLen]at hs;omega
 ·show _=[lit (.string ⟨s.data.toList.toArray⟩)]
  rw [rP]
end Go.Ab
