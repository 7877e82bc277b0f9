/- Texts laid one behind the other: ParseZ, ParseE, Read, BndA. -/
import Derived.Test.YthinbooccdccfaaGreatDoorB30
import Derived.Test.YthinbooccdccfaaGreatDoorB28
import Derived.Test.YthinbooccdccfaaGreatDoorB29
import Derived.Test.YthinbooccdccfaaGreatDoorB27
import Derived.LaidEql
set_option linter.unusedSectionVars false
set_option linter.unusedVariables false
set_option linter.unusedSimpArgs false
namespace Go.Ab
open Go.Proofs
variable [Base]
theorem prs_len : ∀ (f lv d i : Nat) (ts : List Tok) (acc : Option (List Nd × Ex)) (A : List Nd) (x : Ex) (ts' : List Tok), (1 ≤ lv ∧ lv ≤ 3) → (lv = 3 → acc = none) → TOk ts → (match acc with
      |some (A0,x0)=>Rn A0 i x0
      |none=>True)→prs f lv d i ts acc=some (A,x,ts')→A.length+ts'.length≤ts.length+(match acc with
      |some (A0,_)=>A0.length
      |none=>0):=by
  intro f
  induction f with
  |zero=>intro lv d i ts acc A x ts' _ _ _ _ h;unfold prs at h;cases h
  |succ f ih =>
    intro lv d i ts acc A x ts' hlv h3 hT hacc h
    cases acc with
    |none =>
      simp only [Nat.add_zero]
      unfold prs at h
      by_cases l3:lv=3
      · subst l3
        rw [if_pos rfl]at h
        have tl:∀s,tis ts s=true→TOk ts.tail∧ts.tail.length+1=ts.length:=fun s hs=>by
          obtain⟨a,r,rfl,ha,_⟩:=tis_ne hs
          exact⟨(hT.tail ha).1,by simp⟩
        by_cases c1:tis ts [126]=true
        · rw [if_pos c1]at h
          obtain⟨hT',hl'⟩:=tl _ c1
          by_cases hd':200≤d
          · rw [if_pos hd']at h;cases h
          · rw [if_neg hd']at h
            cases hp:prs f 3 (d+1) i ts.tail none with
            |none=>rw [hp]at h;cases h
            |some q =>
              obtain⟨A1,x1,t1⟩:=q
              rw [hp]at h
              simp only [Option.some.injEq,Prod.mk.injEq]at h
              obtain⟨rfl,rfl,rfl⟩:=h
              have:=ih 3 _ _ _ _ _ _ _ (by omega) (fun _=>rfl) hT' trivial hp
              simp at this⊢
              omega
        · rw [if_neg c1]at h
          by_cases c2:tis ts [40]=true
          · rw [if_pos c2]at h
            obtain⟨hT',hl'⟩:=tl _ c2
            by_cases hd':200≤d
            · rw [if_pos hd']at h;cases h
            · rw [if_neg hd']at h
              cases hp:prs f 1 (d+1) i ts.tail none with
              |none=>rw [hp]at h;cases h
              |some q =>
                obtain⟨A1,x1,t1⟩:=q
                rw [hp]at h
                simp only at h
                have:=ih 1 _ _ _ _ _ _ _ (by omega) (fun h=>by omega) hT' trivial hp
                by_cases c3:tis t1 [41]=true
                · rw [if_pos c3]at h
                  simp only [Option.some.injEq,Prod.mk.injEq]at h
                  obtain⟨rfl,rfl,rfl⟩:=h
                  simp at this⊢
                  omega
                · rw [if_neg c3]at h;cases h
          · rw [if_neg c2]at h
            have leafc:∀n:Nd,ts.tail.length+1=ts.length→(A,x,ts')=([n],Ex.leaf n,ts.tail)→A.length+ts'.length≤ts.length:=fun n hn e=>by
              simp only [Prod.mk.injEq]at e
              obtain⟨rfl,rfl,rfl⟩:=e
              simp only [List.length_cons,List.length_nil]
              omega
            by_cases c3:tis ts wAll=true
            · rw [if_pos c3]at h;exact leafc _ (tl _ c3).2 (Option.some.inj h).symm
            rw [if_neg c3]at h
            by_cases c4:tis ts wNone=true
            · rw [if_pos c4]at h;exact leafc _ (tl _ c4).2 (Option.some.inj h).symm
            rw [if_neg c4]at h
            by_cases c5:tis ts wHalf=true
            · rw [if_pos c5]at h;cases h
            rw [if_neg c5]at h
            by_cases c6:(hd ts).k=1∧resv (hd ts).t=false
            · rw [if_pos c6]at h
              cases ts with
              |nil=>exact hT.elim
              |cons a r=>exact leafc _ rfl (Option.some.inj h).symm
            rw [if_neg c6]at h;cases h
      · rw [if_neg l3]at h
        cases hp:prs f (lv+1) d i ts none with
        |none=>rw [hp]at h;cases h
        |some q =>
          obtain⟨A1,x1,t1⟩:=q
          rw [hp]at h
          simp only at h
          obtain⟨g1,g2,_⟩:=prs_ok _ _ _ _ _ _ _ _ _ (by omega) (fun _=>rfl) hT trivial hp
          have h4:=ih (lv+1) _ _ _ _ _ _ _ (by omega) (fun _=>rfl) hT trivial hp
          have h5:=ih lv _ _ _ _ _ _ _ hlv (fun e=>absurd e l3) g2 (by exact g1) h
          simp only at h4 h5
          omega
    |some q =>
      obtain⟨A0,x0⟩:=q
      simp only at hacc⊢
      have l3:lv≠3:=fun e=>by have:=h3 e;cases this
      unfold prs at h
      by_cases ho:opAt lv ts=0
      · rw [if_pos ho]at h
        simp only [Option.some.injEq,Prod.mk.injEq]at h
        obtain⟨rfl,rfl,rfl⟩:=h
        omega
      · rw [if_neg ho]at h
        obtain⟨⟨a,r,rfl,ha⟩,o1,o2⟩:=opAt_ne ho
        have hop:1≤opAt lv (a::r)∧opAt lv (a::r)≤4:=by
          by_cases h1:lv=1
          · rcases o1 h1 with e|e|e <;> rw [e] <;> decide
          · rw [o2 h1];decide
        cases hp:prs f (lv+1) d (i+A0.length) r none with
        |none=>simp only [List.tail_cons]at h;rw [hp]at h;cases h
        |some q =>
          obtain⟨B,y,t1⟩:=q
          simp only [List.tail_cons]at h
          rw [hp]at h
          simp only at h
          obtain⟨g1,g2,_⟩:=prs_ok _ _ _ _ _ _ _ _ _ (by omega) (fun _=>rfl) (hT.tail ha).1 trivial hp
          have h4:=ih (lv+1) _ _ _ _ _ _ _ (by omega) (fun _=>rfl) (hT.tail ha).1 trivial hp
          have h5:=ih lv _ _ _ _ _ _ _ hlv (fun e=>absurd e l3) g2 (hacc.bi g1 (okNB hop.1 hop.2) rfl rfl rfl) h
          simp at h4 h5⊢
          omega
theorem prs_some (f lv d i:Nat) (ts:List Tok) (A:List Nd) (x:Ex):prs (f+1) lv d i ts (some (A,x))=if opAt lv ts=0 then some (A,x,ts)
  else match prs f (lv+1) d (i+A.length) ts.tail none with
   |some (B,y,ts')=>prs f lv d i ts' (some (A++B++[ndB (opAt lv ts) ((i+A.length:Nat)-1) ((i+A.length+B.length:Nat)-1) (hd ts)], .bi (ndB (opAt lv ts) ((i+A.length:Nat)-1) ((i+A.length+B.length:Nat)-1) (hd ts)) x y))
   |none=>none:=rfl
theorem prs_lv {f lv d i : Nat} {ts : List Tok} (h : lv ≠ 3) : prs (f + 1) lv d i ts none = match prs f (lv + 1) d i ts none with
      |some (A,x,ts')=>prs f lv d i ts' (some (A,x))
      |none=>none:=by
  conv=>lhs;unfold prs
  rw [if_neg h]
  rfl
def ndB0 (op x y:Int):Nd:=⟨6,[],zz,zz,zz,zz,op,x,y,0,0⟩
theorem ndB0_at (op x y:Int) (a:Tok):(ndB0 op x y).at a=ndB op x y a:=rfl
set_option maxHeartbeats 4000000 in
theorem pbinary_pu (fo fops:FuncId) (p b f lv:Nat) (hlv:lv=1∨lv=2)
  (hops:∀(a:Tok) (r:List Tok) (d:Nat) (s:SV) (Hs:LH),CO s [s]→r.length≤1000000→a.ok→PuH Tryz.prog fops [ptrP b] ((b,bxT,[ptrP p])::(p,psT,psC (a::r) d s)::Hs) (fun v H=>v=lit (.int .i64 (opAt lv (a::r)))∧H=(b,bxT,[ptrP p])::(p,psT,psC (a::r) d s)::Hs) noX)
  (hopd:∀f',f'≤f→Lv fo p f' (lv+1)) (ts:List Tok) (d:Nat) (ns:List Nd) (H:LH) (hT:TOk ts) (hd:d≤200) (hn:ns.length+ts.length≤100000) (hf:8*ts.length+7≤f+1+2*lv) (h:Ps p ts d ns H) :
  PuH Tryz.prog 223 [ptrP p,fnv fo [ptrP p] [],fnv fops [] [ptrP b]] ((b,bxT,[ptrP p])::H) (fun v H'=>∃H2,H'=(b,bxT,[ptrP p])::H2∧LvR p (f+1) lv d ts ns v H2) (LvX (f+1) lv d ts ns):=by
 have hl3:lv≠3:=by omega
 have c0:=hopd f (Nat.le_refl _) ts d ns H hT hd hn (by omega) h
 unfold LvR LvX at *
 rw [prs_lv hl3]
 refine PuH.intro Tryz.func223 rfl (by kernel_rfl) fun C hC=>?_
 repeat(refine A1 ⟨?_⟩;intros)
 refine WvX c0 ?_ ?_ (Tk.skip _ (Tk.same _))
 case refine_2 =>
  rintro _ _ ⟨hp,hx⟩
  rw [hC,hp]
  exact⟨rfl,hx⟩
 rintro _ _ ⟨A,x,ts1,hp,rfl,s1,H1,hown1,rfl⟩
 rw [hp]at hC⊢
 simp only [List.cons_append,List.nil_append]at hC⊢
 obtain⟨g1,g2,g3⟩:=prs_ok _ _ _ _ _ _ _ _ _ (by omega) (fun _=>rfl) hT trivial hp
 have g4:=prs_len _ _ _ _ _ _ _ _ _ (by omega) (fun _=>rfl) hT trivial hp
 simp only [Option.isNone_none,if_true,Nat.add_zero]at g3 g4
 obtain⟨a1,r1,rfl,ha1⟩:=g2.cons
 have hco1:=hown1.co
 have hlr:(a1::r1).length=r1.length+1:=rfl
 repeat(refine A1 ⟨?_⟩;intros)
 refine WvT (hops a1 r1 d s1 H1 hco1 (by omega) ha1) ?_
 rintro _ _ ⟨rfl,rfl⟩
 simp only [List.nil_append]
 repeat(refine A1 ⟨?_⟩;intros)
 refine WP.loopS (ι:=Nat×List Nd×Ex×List Tok×SV×LH) (fun z=>Own exPT 19 (ns++z.2.1).length ((ns++z.2.1).map ndx).flatten z.2.2.2.2.1 z.2.2.2.2.2∧TOk z.2.2.2.1∧Rn z.2.1 ns.length z.2.2.1∧z.2.1.length+z.2.2.2.1.length≤ts.length∧8*z.2.2.2.1.length+1≤z.1∧z.1≤f∧
   prs f lv d ns.length (a1::r1) (some (A,x))=prs z.1 lv d ns.length z.2.2.2.1 (some (z.2.1,z.2.2.1))) (fun z=>z.2.2.2.1.length)
  (fun z=>fm [(0,ptrP p),(1,fnv fo [ptrP p] []),(2,fnv fops [] [ptrP b]),(7,lit (.int .i64 ((ns.length+z.2.1.length:Nat)-1))),(8,lit (.int .i64 (opAt lv z.2.2.2.1)))])
  (fun z=>(b,bxT,[ptrP p])::(p,psT,psC z.2.2.2.1 d z.2.2.2.2.1)::z.2.2.2.2.2) (f,A,x,a1::r1,s1,H1) ⟨hown1,g2,g1,g4,by simp only;omega,Nat.le_refl _,rfl⟩ lfA (List.Sublist.refl _) ?_
 clear hown1 g1 g2 g3 g4 hp hlr c0 h ha1
 rintro ⟨f1,Aa,x1,ts2,s2,H2⟩ ⟨hown,hT2,hR,hlen,hf1,hff,hpe⟩ K hK
 simp only at hown hT2 hR hlen hf1 hff hpe⊢
 obtain⟨a,r,rfl,ha⟩:=hT2.cons
 obtain⟨f1,rfl⟩:∃f',f1=f'+1:=⟨f1-1,by omega⟩
 have hlr:(a::r).length=r.length+1:=rfl
 have e1:(ns++Aa).length=ns.length+Aa.length:=List.length_append
 have hco2:=hown.co
 rw [prs_some]at hpe
 by_cases ho:opAt lv (a::r)=0
 ·rw [if_pos ho]at hpe
  clear hK hops hopd
  repeat(refine A1 ⟨?_⟩;intros)
  exact endHR _ _ (end1 (RV.tmp rfl) (Le.refl _)) (List.Sublist.refl _) ⟨_,rfl,Aa,x1,a::r,hpe,rfl,s2,H2,hown,rfl⟩
 ·rw [if_neg ho,List.tail_cons,←e1]at hpe
  obtain⟨⟨_,_,he,hak⟩,o1,o2⟩:=opAt_ne ho
  obtain⟨rfl,rfl⟩:=List.cons.inj he
  have hTr:=(hT2.tail hak).1
  have hop:1≤opAt lv (a::r)∧opAt lv (a::r)≤4:=by
   rcases hlv with h1|h1
   ·rcases o1 h1 with e|e|e <;> rw [e] <;> decide
   ·rw [o2 (by omega)];decide
  have c1:=hopd f1 (by omega) r d (ns++Aa) _ hTr hd (by omega) (by omega) ⟨s2,H2,hown,rfl⟩
  unfold LvR LvX at c1
  have hl1:1≤lv:=by omega
  have hl2:lv≤2:=by omega
  clear o1 o2 he hlv
  repeat(refine A1 ⟨?_⟩;intros)
  refine WfT (ptake_pu s2 hco2 p a r d (by omega)) ?_ (hs:=Tk.skip _ (Tk.cons (HDel.here _) (Tk.nil _)))
  rintro _ _ ⟨rfl,rfl⟩
  refine WPL.perm List.perm_append_comm ?_
  refine WPL.perm (List.Perm.swap _ _ _) ?_
  repeat(refine A1 ⟨?_⟩;intros)
  refine WvX c1 ?_ ?_ (Tk.skip _ (Tk.skip _ (Tk.same _)))
  case refine_2 =>
   rintro _ _ ⟨hp2,hx⟩
   rw [hC,hpe,hp2]
   exact⟨rfl,hx⟩
  rintro _ _ ⟨B,y,ts3,hp2,rfl,s3,H3,hown3,rfl⟩
  rw [hp2]at hpe
  simp only at hpe
  simp only [List.cons_append,List.nil_append]
  obtain⟨g1,g2,g3⟩:=prs_ok _ _ _ _ _ _ _ _ _ (by omega) (fun _=>rfl) hTr trivial hp2
  have g4:=prs_len _ _ _ _ _ _ _ _ _ (by omega) (fun _=>rfl) hTr trivial hp2
  simp only [Option.isNone_none,if_true,Nat.add_zero]at g3 g4
  obtain⟨a3,r3,rfl,ha3⟩:=g2.cons
  have hlr3:(a3::r3).length=r3.length+1:=rfl
  have e2:(ns++Aa++B).length=ns.length+Aa.length+B.length:=by rw [List.length_append,e1]
  rw [e1]at hpe g1
  have hco3:=hown3.co
  have hR2:=hR.bi g1 (okNB (x:=((ns.length+Aa.length:Nat):Int)-1) (y:=((ns.length+Aa.length+B.length:Nat):Int)-1) (a:=a) hop.1 hop.2) rfl rfl rfl
  have hgo:=fun s' H' hw F' H''=>hK F' H'' (f1,Aa++B++[ndB (opAt lv (a::r)) ((ns.length+Aa.length:Nat)-1) ((ns.length+Aa.length+B.length:Nat)-1) a], .bi (ndB (opAt lv (a::r)) ((ns.length+Aa.length:Nat)-1) ((ns.length+Aa.length+B.length:Nat)-1) a) x1 y,a3::r3,s',H')
   ⟨hw,g2,hR2,by simp only [List.length_append,List.length_singleton];omega,by simp only;omega,by simp only;omega,hpe⟩ (by simp only;omega)
  simp only at hgo
  have c2:=prsadd_pu p (a3::r3) d (ns++Aa++B) s3 H3 hown3 (by omega) (ndB0 (opAt lv (a::r)) ((ns.length+Aa.length:Nat)-1) ((ns.length+Aa.length+B.length:Nat)-1)) a
  rw [ndB0_at]at c2
  clear hK hpe c1 hR2 hopd
  repeat(refine A1 ⟨?_⟩;intros)
  refine WPL.low 27 rfl (Le.ag (b:=ndx (ndB0 (opAt lv (a::r)) ((ns.length+Aa.length:Nat)-1) ((ns.length+Aa.length+B.length:Nat)-1))) ?_) ?_
  ·simp only [ndB0]
   repeat(first|exact trivial|refine⟨?_,?_⟩|exact Le.refl _|exact le_nil|exact Le.int (show _=((ns.length+Aa.length+B.length:Nat):Int)-1 by rw [e1]))
  refine WfT c2 ?_ (hs:=Tk.skip _ (Tk.skip _ (Tk.same _)))
  rintro _ _ ⟨rfl,s4,H4,hown4,rfl⟩
  simp only [List.cons_append,List.nil_append]
  have hco4:=hown4.co
  repeat(refine A1 ⟨?_⟩;intros)
  refine WvT (hops a3 r3 d s4 H4 hco4 (by omega) ha3) ?_ (hs:=Tk.skip _ (Tk.same _))
  rintro _ _ ⟨rfl,rfl⟩
  simp only [List.cons_append,List.nil_append]
  repeat(refine A1 ⟨?_⟩;intros)
  exact hgo s4 H4 (by rw [←List.append_assoc,←List.append_assoc];exact hown4) _ _ (LeF.cons (Le.refl _) (LeF.cons (Le.refl _) (LeF.cons (Le.refl _) (LeF.cons (Le.int (by simp only [List.length_append,List.length_singleton];omega)) (LeF.cons (Le.refl _) (LeF.nil _)))))) (List.sublist_cons_self _ _)
theorem psum_of [Sent 5] [Sent 6]{p f:Nat}(h:∀f',f'≤f→Lv 224 p f' 2):Lv 167 p (f+1) 1:=by
 intro ts d ns H hT hd hn hf hps
 have c:=fun b=>pbinary_pu 224 225 p b f 1 (.inl rfl) (fun a r d s Hs hco hr ha=>psum1_pu p b a r d s hco Hs hr ha) h ts d ns H hT hd hn hf hps
 clear h hT hf
 refine PuH.intro Tryz.func167 rfl (by kernel_rfl) fun C hC=>?_
 repeat(refine A1 ⟨?_⟩;intros)
 refine WfX (c _) ?_ ?_
 ·rintro _ _ ⟨H2,rfl,A,x,ts',hp,rfl,hps'⟩
  simp only [List.cons_append,List.nil_append,List.append_nil]
  repeat(refine A1 ⟨?_⟩;intros)
  exact endHR _ _ (end1 (RV.tmp rfl) (Le.refl _)) (List.sublist_cons_self _ _) ⟨A,x,ts',hp,rfl,hps'⟩
 ·rintro _ _ hx
  rw [hC]
  exact hx
theorem pprod_of [Sent 5] [Sent 6]{p f:Nat}(h:∀f',f'≤f→Lv 285 p f' 3):Lv 224 p (f+1) 2:=by
 intro ts d ns H hT hd hn hf hps
 have c:=fun b=>pbinary_pu 285 286 p b f 2 (.inr rfl) (fun a r d s Hs hco hr ha=>pprod1_pu p b a r d s hco Hs hr ha) h ts d ns H hT hd hn hf hps
 clear h hT hf
 refine PuH.intro Tryz.func224 rfl (by kernel_rfl) fun C hC=>?_
 repeat(refine A1 ⟨?_⟩;intros)
 refine WfX (c _) ?_ ?_
 ·rintro _ _ ⟨H2,rfl,A,x,ts',hp,rfl,hps'⟩
  simp only [List.cons_append,List.nil_append,List.append_nil]
  repeat(refine A1 ⟨?_⟩;intros)
  exact endHR _ _ (end1 (RV.tmp rfl) (Le.refl _)) (List.sublist_cons_self _ _) ⟨A,x,ts',hp,rfl,hps'⟩
 ·rintro _ _ hx
  rw [hC]
  exact hx
theorem prs_3 (f d i : Nat) (ts : List Tok) : prs (f + 1) 3 d i ts none = if tis ts [126] = true then
        (if 200≤d then none else match prs f 3 (d+1) i ts.tail none with
          |some (A,x,ts')=>some (A++[ndU ((i+A.length:Nat)-1) (hd ts)], .un (ndU ((i+A.length:Nat)-1) (hd ts)) x,ts')
          |none=>none)
      else if tis ts [40]=true then
        (if 200≤d then none else match prs f 1 (d+1) i ts.tail none with
          |some (A,x,ts')=>if tis ts' [41]=true then some (A,x,ts'.tail)else none
          |none=>none)
      else if tis ts wAll=true then some ([ndA 2 (hd ts)], .leaf (ndA 2 (hd ts)),ts.tail)
      else if tis ts wNone=true then some ([ndA 3 (hd ts)], .leaf (ndA 3 (hd ts)),ts.tail)
      else if tis ts wHalf=true then none
      else if(hd ts).k=1∧resv (hd ts).t=false then some ([ndN (hd ts)], .leaf (ndN (hd ts)),ts.tail)
      else none:=by
  conv=>lhs;unfold prs
  rfl
section
variable {P:Program}{C:Ctx}{n:Nat}{F:Fr}{H:LH}{ops:Array Oper}{K:Fr→LH→Prop}{rest:List Oper}{ty:TypeId}{pos:String}{aft:Array Edge}
theorem WfE {f:FuncId}{d:Nat}{l:List Operand}{tys:Array TypeId}{svs:List SV}{Hin Rs Hout H2:LH}{res:SV}(hc:PuH P f svs Hin (fun v H'=>v=res∧H'=Hout) noX) (hs:Tk H Hin Rs) (hp:(Rs++Hout).Perm H2) (k:WPL P C n ops rest K (upd F d res) H2)
  (ha:l.map (ev F)=svs:=by exact rfl) (hd:Nat.blt d n=true:=by exact rfl):WPL P C n ops (⟨some d, .call ⟨.value (.func f),l.toArray,tys⟩,ty,pos,aft,none⟩::rest) K F H :=
 WfT hc (fun _ _ ⟨e1,e2⟩=>by subst e1;subst e2;exact WPL.perm hp k) ha hs hd
end
def ndU0 (x:Int):Nd:=⟨5,[],zz,zz,zz,zz,0,x,0,0,0⟩
def ndA0 (k:Int):Nd:=⟨k,[],zz,zz,zz,zz,0,0,0,0,0⟩
def ndN0 (t:List UInt8):Nd:=⟨1,t,zz,zz,zz,zz,0,0,0,0,0⟩
set_option maxHeartbeats 4000000 in
theorem pfactor_of [Sent 5] [Sent 6]{p f:Nat}(hF:Lv 285 p f 3) (hS:Lv 167 p f 1):Lv 285 p (f+1) 3:=by
 intro ts d ns H hT hd hn hf hps
 obtain⟨a,r,rfl,ha⟩:=hT.cons
 have hlr:(a::r).length=r.length+1:=rfl
 obtain⟨s,Hs,hown,rfl⟩:=hps
 have hco:=hown.co
 have c0:=pnext_pu s hco a r d (by omega)
 have c1:=pis_pu s hco a r d (by omega) ha [126] (by decide)
 have c2:=pis_pu s hco a r d (by omega) ha [40] (by decide)
 have hprs:=prs_3 f d ns.length (a::r)
 simp only [List.tail_cons,Ab.hd,List.headD_cons]at hprs
 unfold LvR LvX
 cases t1:tis (a::r) [126]with
 |true =>
  rw [t1]at c1
  rw [t1,if_pos rfl]at hprs
  have c3:=pnested_pu 285 p f 3 a r d ns _ hd (by omega) ⟨s,Hs,hown,rfl⟩ (fun hd' H1 h1=>hF r (d+1) ns H1 (hT.next t1) (by omega) (by omega) (by omega) h1)
  have hlen:=fun A x ts' h=>prs_len f 3 (d+1) ns.length r none A x ts' (by omega) (fun _=>rfl) (hT.next t1) trivial h
  clear hF hS c2 ha
  refine PuH.intro Tryz.func285 rfl (by kernel_rfl) fun C hC=>?_
  repeat(refine A1 ⟨?_⟩;intros)
  refine Wo (ov_callT c0 rfl mmA) ?_
  repeat(refine A1 ⟨?_⟩;intros)
  refine Wo (ov_callT c1 rfl mmA) ?_
  repeat(refine A1 ⟨?_⟩;intros)
  refine WfX c3 ?_ ?_ (hs:=Tk.skip _ (Tk.same _))
  ·rintro _ _ ⟨hd2,A,x,ts',hp,rfl,s1,H1,hown1,rfl⟩
   have hlA:=hlen _ _ _ hp
   simp only [Nat.add_zero]at hlA
   rw [if_neg (by omega),hp]at hprs
   simp only at hprs
   have e1:(ns++A).length=ns.length+A.length:=List.length_append
   have hco1:=hown1.co
   have c4:=prsadd_pu p ts' d (ns++A) s1 H1 hown1 (by omega) (ndU0 ((ns.length+A.length:Nat)-1)) a
   rw [show(ndU0 ((ns.length+A.length:Nat)-1)).at a=ndU ((ns.length+A.length:Nat)-1) a from rfl]at c4
   simp only [List.cons_append,List.nil_append]
   clear hlen c3 hp
   repeat(refine A1 ⟨?_⟩;intros)
   refine WPL.low 18 rfl (Le.ag (b:=ndx (ndU0 ((ns.length+A.length:Nat)-1))) (by repeat(first|exact trivial|refine⟨?_,?_⟩|exact Le.refl _|exact le_nil|exact Le.int (by omega)))) ?_
   refine WfT c4 ?_ (hs:=Tk.skip _ (Tk.same _))
   rintro _ _ ⟨rfl,s4,H4,hown4,rfl⟩
   simp only [List.cons_append,List.nil_append]
   repeat(refine A1 ⟨?_⟩;intros)
   exact endHR _ _ (end1 (RV.tmp (s:=lit (.int .i64 (ns++A).length)) rfl) (Le.refl _)) (List.sublist_cons_self _ _) ⟨_,_,_,hprs,by rw [List.length_append,List.length_append,List.length_singleton];exact congrArg (fun z=>lit (.int .i64 z)) (by omega),s4,H4,by rw [←List.append_assoc];exact hown4,rfl⟩
  ·rintro _ _ ⟨hp,hx⟩
   rw [hC]
   refine⟨?_,hx⟩
   rw [hprs]
   rcases hp with hp|hp
   ·rw [if_pos hp]
   ·rw [hp];split <;> rfl
 |false =>
  rw [t1]at c1
  rw [t1,if_neg (by decide)]at hprs
  cases t2:tis (a::r) [40]with
  |true =>
   rw [t2]at c2
   rw [t2,if_pos rfl]at hprs
   have c3:=pnested_pu 167 p f 1 a r d ns _ hd (by omega) ⟨s,Hs,hown,rfl⟩ (fun hd' H1 h1=>hS r (d+1) ns H1 (hT.next t2) (by omega) (by omega) (by omega) h1)
   have hok:=fun A x ts' h=>prs_ok f 1 (d+1) ns.length r none A x ts' (by omega) (fun h=>by omega) (hT.next t2) trivial h
   clear hF hS ha
   refine PuH.intro Tryz.func285 rfl (by kernel_rfl) fun C hC=>?_
   repeat(refine A1 ⟨?_⟩;intros)
   refine Wo (ov_callT c0 rfl mmA) ?_
   repeat(refine A1 ⟨?_⟩;intros)
   refine Wo (ov_callT c1 rfl mmA) ?_
   repeat(refine A1 ⟨?_⟩;intros)
   refine Wo (ov_callT c2 rfl mmA) ?_
   repeat(refine A1 ⟨?_⟩;intros)
   refine WfX c3 ?_ ?_ (hs:=Tk.skip _ (Tk.same _))
   ·rintro _ _ ⟨hd2,A,x,ts',hp,rfl,s1,H1,hown1,rfl⟩
    obtain⟨_,hT',hl'⟩:=hok _ _ _ hp
    simp only [Option.isNone_none,if_true]at hl'
    rw [if_neg (by omega),hp]at hprs
    simp only at hprs
    obtain⟨a1,r1,rfl,ha1⟩:=hT'.cons
    have hlr1:(a1::r1).length=r1.length+1:=rfl
    have hco1:=hown1.co
    have c4:=pexpect_pu s1 hco1 p a1 r1 d (by omega) ha1 [41] (by decide)
    clear hok c3 hp hT' ha1
    simp only [List.cons_append,List.nil_append]
    repeat(refine A1 ⟨?_⟩;intros)
    refine WfX c4 ?_ ?_ (hs:=Tk.skip _ (Tk.cons (HDel.here _) (Tk.nil _)))
    ·rintro _ _ ⟨t3,rfl,rfl⟩
     rw [t3,if_pos rfl,List.tail_cons]at hprs
     refine WPL.perm List.perm_append_comm ?_
     simp only [List.cons_append,List.nil_append]
     repeat(refine A1 ⟨?_⟩;intros)
     exact endHR _ _ (end1 (RV.tmp rfl) (Le.refl _)) (List.Sublist.cons_cons _ (List.sublist_cons_self _ _)) ⟨_,_,_,hprs,rfl,s1,H1,hown1,rfl⟩
    ·rintro _ _ ⟨t3,hx⟩
     rw [t3,if_neg (by decide)]at hprs
     rw [hC]
     exact⟨hprs,hx⟩
   ·rintro _ _ ⟨hp,hx⟩
    rw [hC]
    refine⟨?_,hx⟩
    rw [hprs]
    rcases hp with hp|hp
    ·rw [if_pos hp]
    ·rw [hp];split <;> rfl
  |false =>
   rw [t2]at c2
   rw [t2,if_neg (by decide)]at hprs
   clear hF hS
   have c3:=paccept_pu s hco p a r d (by omega) ha wAll (by decide)
   have c4:=paccept_pu s hco p a r d (by omega) ha wNone (by decide)
   have c5:=paccept_pu s hco p a r d (by omega) ha wHalf (by decide)
   cases t3:tis (a::r) wAll with
   |true =>
    rw [t3,if_pos rfl]at c3
    rw [t3,if_pos rfl]at hprs
    have c6:=prsadd_pu p r d ns s Hs hown (by omega) (ndA0 2) a
    rw [show(ndA0 2).at a=ndA 2 a from rfl]at c6
    clear ha c4 c5
    refine PuH.intro Tryz.func285 rfl (by kernel_rfl) fun C hC=>?_
    repeat(refine A1 ⟨?_⟩;intros)
    refine Wo (ov_callT c0 rfl mmA) ?_
    repeat(refine A1 ⟨?_⟩;intros)
    refine Wo (ov_callT c1 rfl mmA) ?_
    repeat(refine A1 ⟨?_⟩;intros)
    refine Wo (ov_callT c2 rfl mmA) ?_
    repeat(refine A1 ⟨?_⟩;intros)
    refine WfT c3 ?_ (hs:=Tk.skip _ (Tk.cons (HDel.here _) (Tk.nil _)))
    rintro _ _ ⟨rfl,rfl⟩
    refine WPL.perm List.perm_append_comm ?_
    refine WPL.perm (List.Perm.swap _ _ _) ?_
    repeat(refine A1 ⟨?_⟩;intros)
    refine WPL.low 35 rfl (Le.ag (b:=ndx (ndA0 2)) (by repeat(first|exact trivial|refine⟨?_,?_⟩|exact Le.refl _|exact le_nil|exact Le.int (by omega)))) ?_
    refine WfT c6 ?_ (hs:=Tk.skip _ (Tk.same _))
    rintro _ _ ⟨rfl,s4,H4,hown4,rfl⟩
    simp only [List.cons_append,List.nil_append]
    repeat(refine A1 ⟨?_⟩;intros)
    exact endHR _ _ (end1 (RV.tmp (s:=lit (.int .i64 ns.length)) rfl) (Le.refl _)) (List.sublist_cons_self _ _) ⟨_,_,_,hprs,by rw [List.length_singleton];exact congrArg (fun z=>lit (.int .i64 z)) (by omega),s4,H4,hown4,rfl⟩
   |false =>
    rw [t3,if_neg (by decide)]at c3
    rw [t3,if_neg (by decide)]at hprs
    cases t4:tis (a::r) wNone with
    |true =>
     rw [t4,if_pos rfl]at c4
     rw [t4,if_pos rfl]at hprs
     have c6:=prsadd_pu p r d ns s Hs hown (by omega) (ndA0 3) a
     rw [show(ndA0 3).at a=ndA 3 a from rfl]at c6
     clear ha c5
     refine PuH.intro Tryz.func285 rfl (by kernel_rfl) fun C hC=>?_
     repeat(refine A1 ⟨?_⟩;intros)
     refine Wo (ov_callT c0 rfl mmA) ?_
     repeat(refine A1 ⟨?_⟩;intros)
     refine Wo (ov_callT c1 rfl mmA) ?_
     repeat(refine A1 ⟨?_⟩;intros)
     refine Wo (ov_callT c2 rfl mmA) ?_
     repeat(refine A1 ⟨?_⟩;intros)
     refine WfT c3 ?_ (hs:=Tk.skip _ (Tk.cons (HDel.here _) (Tk.nil _)))
     rintro _ _ ⟨rfl,rfl⟩
     refine WPL.perm List.perm_append_comm ?_
     refine WPL.perm (List.Perm.swap _ _ _) ?_
     repeat(refine A1 ⟨?_⟩;intros)
     refine WfT c4 ?_ (hs:=Tk.skip _ (Tk.cons (HDel.here _) (Tk.nil _)))
     rintro _ _ ⟨rfl,rfl⟩
     refine WPL.perm List.perm_append_comm ?_
     refine WPL.perm (List.Perm.swap _ _ _) ?_
     repeat(refine A1 ⟨?_⟩;intros)
     refine WPL.low 42 rfl (Le.ag (b:=ndx (ndA0 3)) (by repeat(first|exact trivial|refine⟨?_,?_⟩|exact Le.refl _|exact le_nil|exact Le.int (by omega)))) ?_
     refine WfT c6 ?_ (hs:=Tk.skip _ (Tk.same _))
     rintro _ _ ⟨rfl,s4,H4,hown4,rfl⟩
     simp only [List.cons_append,List.nil_append]
     repeat(refine A1 ⟨?_⟩;intros)
     exact endHR _ _ (end1 (RV.tmp (s:=lit (.int .i64 ns.length)) rfl) (Le.refl _)) (List.sublist_cons_self _ _) ⟨_,_,_,hprs,by rw [List.length_singleton];exact congrArg (fun z=>lit (.int .i64 z)) (by omega),s4,H4,hown4,rfl⟩
    |false =>
     rw [t4,if_neg (by decide)]at c4
     rw [t4,if_neg (by decide)]at hprs
     cases t5:tis (a::r) wHalf with
     |true =>
      rw [t5,if_pos rfl]at c5
      rw [t5,if_pos rfl]at hprs
      have c6:=ppoint_pu s hco p r (hT.next t5) d (by omega)
      clear ha
      refine PuH.intro Tryz.func285 rfl (by kernel_rfl) fun C hC=>?_
      repeat(refine A1 ⟨?_⟩;intros)
      refine Wo (ov_callT c0 rfl mmA) ?_
      repeat(refine A1 ⟨?_⟩;intros)
      refine Wo (ov_callT c1 rfl mmA) ?_
      repeat(refine A1 ⟨?_⟩;intros)
      refine Wo (ov_callT c2 rfl mmA) ?_
      repeat(refine A1 ⟨?_⟩;intros)
      refine WfT c3 ?_ (hs:=Tk.skip _ (Tk.cons (HDel.here _) (Tk.nil _)))
      rintro _ _ ⟨rfl,rfl⟩
      refine WPL.perm List.perm_append_comm ?_
      refine WPL.perm (List.Perm.swap _ _ _) ?_
      repeat(refine A1 ⟨?_⟩;intros)
      refine WfT c4 ?_ (hs:=Tk.skip _ (Tk.cons (HDel.here _) (Tk.nil _)))
      rintro _ _ ⟨rfl,rfl⟩
      refine WPL.perm List.perm_append_comm ?_
      refine WPL.perm (List.Perm.swap _ _ _) ?_
      repeat(refine A1 ⟨?_⟩;intros)
      refine WfT c5 ?_ (hs:=Tk.skip _ (Tk.cons (HDel.here _) (Tk.nil _)))
      rintro _ _ ⟨rfl,rfl⟩
      refine WPL.perm List.perm_append_comm ?_
      refine WPL.perm (List.Perm.swap _ _ _) ?_
      repeat(refine A1 ⟨?_⟩;intros)
      refine WfX c6 ?_ ?_ (hs:=Tk.skip _ (Tk.cons (HDel.here _) (Tk.nil _)))
      ·rintro _ _ ⟨⟩
      ·rintro _ _ hx
       rw [hC]
       exact⟨hprs,hx⟩
     |false =>
      rw [t5,if_neg (by decide)]at c5
      rw [t5,if_neg (by decide)]at hprs
      clear ha
      have c6:=pname_pu s hco p a r d (by omega)
      by_cases hnm:a.k=1∧resv a.t=false
      case neg =>
       replace hprs:prs (f+1) 3 d ns.length (a::r) none=none:=by rw [hprs];exact if_neg hnm
       replace c6:=c6.mono (R':=fun _ _=>False) (X':=fun pv _=>isE pv) (fun _ _ h=>hnm h.1) (fun _ _ h=>h.2)
       clear hnm
       refine PuH.intro Tryz.func285 rfl (by kernel_rfl) fun C hC=>?_
       repeat(refine A1 ⟨?_⟩;intros)
       refine Wo (ov_callT c0 rfl mmA) ?_
       repeat(refine A1 ⟨?_⟩;intros)
       refine Wo (ov_callT c1 rfl mmA) ?_
       repeat(refine A1 ⟨?_⟩;intros)
       refine Wo (ov_callT c2 rfl mmA) ?_
       repeat(refine A1 ⟨?_⟩;intros)
       refine WfT c3 ?_ (hs:=Tk.skip _ (Tk.cons (HDel.here _) (Tk.nil _)))
       rintro _ _ ⟨rfl,rfl⟩
       refine WPL.perm List.perm_append_comm ?_
       refine WPL.perm (List.Perm.swap _ _ _) ?_
       repeat(refine A1 ⟨?_⟩;intros)
       refine WfT c4 ?_ (hs:=Tk.skip _ (Tk.cons (HDel.here _) (Tk.nil _)))
       rintro _ _ ⟨rfl,rfl⟩
       refine WPL.perm List.perm_append_comm ?_
       refine WPL.perm (List.Perm.swap _ _ _) ?_
       repeat(refine A1 ⟨?_⟩;intros)
       refine WfT c5 ?_ (hs:=Tk.skip _ (Tk.cons (HDel.here _) (Tk.nil _)))
       rintro _ _ ⟨rfl,rfl⟩
       refine WPL.perm List.perm_append_comm ?_
       refine WPL.perm (List.Perm.swap _ _ _) ?_
       repeat(first|(refine AS ⟨?_⟩;intros)|(refine O1 ⟨?_⟩;intros))
       refine WdA ?_
       repeat' (first|(refine A1 ⟨?_⟩;intros)|exact WPI.nil|refine And.intro ?_ ?_|refine WfX c6 (fun _ _ h=>h.elim) (fun _ _ hx=>by rw [hC];exact⟨hprs,hx⟩) (hs:=Tk.skip _ (Tk.cons (HDel.here _) (Tk.nil _))))
      replace hprs:prs (f+1) 3 d ns.length (a::r) none=some ([ndN a], .leaf (ndN a),r):=by rw [hprs];exact if_pos hnm
      replace c6:=c6.mono (R':=fun v H=>v=str a.t∧H=[(p,psT,psC r d s)]) (X':=noX) (fun _ _ h=>h.2) (fun _ _ h=>h.1 hnm)
      have c7:=prsadd_pu p r d ns s Hs hown (by omega) (ndN0 a.t) a
      rw [show(ndN0 a.t).at a=ndN a from rfl]at c7
      clear hnm
      refine PuH.intro Tryz.func285 rfl (by kernel_rfl) fun C hC=>?_
      repeat(refine A1 ⟨?_⟩;intros)
      refine Wo (ov_callT c0 rfl mmA) ?_
      repeat(refine A1 ⟨?_⟩;intros)
      refine Wo (ov_callT c1 rfl mmA) ?_
      repeat(refine A1 ⟨?_⟩;intros)
      refine Wo (ov_callT c2 rfl mmA) ?_
      repeat(refine A1 ⟨?_⟩;intros)
      refine WfT c3 ?_ (hs:=Tk.skip _ (Tk.cons (HDel.here _) (Tk.nil _)))
      rintro _ _ ⟨rfl,rfl⟩
      refine WPL.perm List.perm_append_comm ?_
      refine WPL.perm (List.Perm.swap _ _ _) ?_
      repeat(refine A1 ⟨?_⟩;intros)
      refine WfT c4 ?_ (hs:=Tk.skip _ (Tk.cons (HDel.here _) (Tk.nil _)))
      rintro _ _ ⟨rfl,rfl⟩
      refine WPL.perm List.perm_append_comm ?_
      refine WPL.perm (List.Perm.swap _ _ _) ?_
      repeat(refine A1 ⟨?_⟩;intros)
      refine WfT c5 ?_ (hs:=Tk.skip _ (Tk.cons (HDel.here _) (Tk.nil _)))
      rintro _ _ ⟨rfl,rfl⟩
      refine WPL.perm List.perm_append_comm ?_
      refine WPL.perm (List.Perm.swap _ _ _) ?_
      repeat(first|(refine AS ⟨?_⟩;intros)|(refine O1 ⟨?_⟩;intros))
      refine WdA ?_
      repeat' (first|(refine A1 ⟨?_⟩;intros)|exact WPI.nil|refine And.intro ?_ ?_|refine WfE c6 (Tk.skip _ (Tk.cons (HDel.here _) (Tk.nil _))) (List.perm_append_comm.trans (List.Perm.swap _ _ _)) ?_)
      all_goals
       refine WPL.low 60 rfl (Le.ag (b:=ndx (ndN0 a.t)) (by repeat(first|exact trivial|refine⟨?_,?_⟩|exact Le.refl _|exact le_nil|exact Le.int (by omega)))) ?_
       refine WfT c7 ?_ (hs:=Tk.skip _ (Tk.same _))
       rintro _ _ ⟨rfl,s4,H4,hown4,rfl⟩
       simp only [List.cons_append,List.nil_append]
       repeat' (first|(refine A1 ⟨?_⟩;intros)|exact WPI.nil|refine And.intro ?_ ?_)
       exact endHR _ _ (end1 (RV.tmp (s:=lit (.int .i64 ns.length)) rfl) (Le.refl _)) (List.sublist_cons_self _ _) ⟨_,_,_,hprs,by rw [List.length_singleton];exact congrArg (fun z=>lit (.int .i64 z)) (by omega),s4,H4,hown4,rfl⟩
theorem plevels [Sent 5] [Sent 6] (p:Nat):∀f,Lv 167 p f 1∧Lv 224 p f 2∧Lv 285 p f 3:=by
 intro f
 induction f using Nat.strongRecOn with
 |_ f ih =>
  cases f with
  |zero =>
   refine⟨fun ts d ns H hT _ _ hf _=>?_,fun ts d ns H hT _ _ hf _=>?_,fun ts d ns H hT _ _ hf _=>?_⟩ <;>
   ·have:=hT.pos
    omega
  |succ f=>exact⟨psum_of fun f' h=>(ih f' (by omega)).2.1,pprod_of fun f' h=>(ih f' (by omega)).2.2,pfactor_of (ih f (by omega)).2.2 (ih f (by omega)).1⟩
theorem pexpression_pu [Sent 5] [Sent 6] (p:Nat) (ts:List Tok) (hT:TOk ts) (hl:ts.length≤100000) :
  PuH Tryz.prog 99 [ptrP p] [(p,psT,psC ts 0 (lit (.slice none 0 0)))]
   (fun v H'=>∃A x ts' Hs,prs (8*ts.length+8) 1 0 0 ts none=some (A,x,ts')∧Own exPT 19 A.length (A.map ndx).flatten v Hs∧H'=(p,psT,psC ts' 0 v)::Hs)
   (fun pv _=>prs (8*ts.length+8) 1 0 0 ts none=none∧isE pv):=by
 have c:=(plevels p (8*ts.length+8)).1 ts 0 [] _ hT (by omega) (by simp;omega) (by omega) ⟨_,_,Own.nil exPT 19,rfl⟩
 unfold LvR LvX at c
 simp only [List.length_nil,List.nil_append]at c
 refine PuH.intro Tryz.func99 rfl (by kernel_rfl) fun C hC=>?_
 repeat(refine A1 ⟨?_⟩;intros)
 refine WfX c ?_ ?_
 ·rintro _ _ ⟨A,x,ts',hp,rfl,s,Hs,hown,rfl⟩
  have hco:=hown.co
  simp only [List.cons_append,List.nil_append,List.append_nil]
  repeat(refine A1 ⟨?_⟩;intros)
  exact endHR _ _ (end1 (RV.tmp rfl) (Le.refl _)) (List.Sublist.refl _) ⟨A,x,ts',Hs,hp,hown,rfl⟩
 ·rintro _ _ hx
  rw [hC]
  exact hx
section
variable {P:Program}{C:Ctx}{n:Nat}{F:Fr}{H:LH}{Post:Exit→Act→World→Prop}
def onR (C:Ctx) (n:Nat) (Post:Exit→Act→World→Prop) (K:Fr→LH→Prop):Exit→Fr→LH→Prop
 | .normal,F,H=>K F H
 | .ret,F,H=>∀a w,St C n F H a w→Post .ret a w
 |_,_,_=>False
theorem onR.i {K:Fr→LH→Prop}(h:K F H):onR C n Post K .normal F H:=h
theorem onR.r {K:Fr→LH→Prop}(h:∀a w,St C n F H a w→Post .ret a w):onR C n Post K .ret F H:=h
theorem WPT.seqR {x y:Code}(hpan:∀pv H,¬C.pan pv H) (h:WP P C n x (onR C n Post fun F H=>WPT P C n y Post F H) F H):WPT P C n (.seq x y) Post F H:=by
 intro a w hs
 unfold WP at h
 refine wp_seq (wp_mono (h a w hs) ?_)
 rintro e a' w' (⟨F',H',hs',hq⟩|⟨ch,rfl,_,m,v,pv,H',_,_,_,_,_,_,hx⟩)
 ·cases e with
  |normal=>exact hq a' w' hs'
  |ret=>exact hq a' w' hs'
  |_=>exact hq.elim
 ·exact absurd hx (hpan _ _)
theorem WPT.into {x z:Code}(h:WPT P C n x (Exit.then (z.wp P Post) Post) F H):WPT P C n (.seq x z) Post F H:=fun a w hs=>wp_seq (h a w hs)
theorem WPT.region {id:Nat}{l:List Oper}(h:WTL P C n l.toArray l Post F H):WPT P C n (.region id l.toArray false) Post F H:=fun a w hs=>wp_region_lit (h a w hs)
theorem WTL.wpl {ops:Array Oper}{l:List Oper}{y:Code}(hpan:∀pv H,¬C.pan pv H) (h:WPL P C n ops l (fun F H=>WPT P C n y Post F H) F H):WTL P C n ops l (Exit.then (y.wp P Post) Post) F H:=by
 unfold WPL at h
 intro a w hs
 refine h a w hs _ ⟨fun a' w' F' H' hs' hk=>hk a' w' hs',fun ch a' w' hp=>?_⟩
 obtain⟨_,_,_,_,_,_,_,_,_,_,_,hx⟩:=hp
 exact absurd hx (hpan _ _)
theorem WPT.cond {c:Operand}{x y:Code}{t:Bool}(hc:ev F c=lit (.bool t)) (h:WPT P C n (if t then x else y) Post F H):WPT P C n (.cond c x y) Post F H:=by
 intro a w hs
 obtain⟨m,_,hp⟩:=hs.evp
 have e:=hp c
 rw [hc,lit_p]at e
 exact wp_cond e (h a w hs)
theorem dret {fn:Func}{R:SV→LH→Prop}(hC:C.dfs=[]){res:SV}{H2:LH}(he:Ends P fn.results.toList res F H) (hsub:H2.Sublist H) (hR:R res H2):∀a w,St C n F H a w→bodyPostD P fn (dRes C R) .ret a w:=by
 rintro a w ⟨hdef,_,m',hm',hH',hr',h4',hp'⟩
 obtain⟨v,hv,hpv⟩:=run_end rfl he hm' hH' hp'
 show Leaves P fn a.tmps (dRes C R) a.defers .returning w
 rw [hdef,hC]
 exact⟨v,hv,m',H2,hm',hH'.sub' hsub,hr',fun e he=>h4' e (hsub.subset he),v,res,rfl,hpv,hR⟩
end
abbrev readF:FuncId:=98
abbrev readC:FuncId:=164
theorem rcatch_idle (p q:Addr) (w:World):CallsD Tryz.prog readC #[.pointer (some p), .pointer (some q)] .returning w fun e u' w'=>(∃v,e = .returned v)∧u' = .returning∧w'=w:=by
 refine callsD_of_wpS Tryz.func164 rfl fun c₀ cs hu=>?_
 apply wpS_seq
 apply wpS_region
 simp [wpOpsS,go_sem,recoverD,hu,Exit.thenS]
 apply wpS_seq
 apply wpS_region
 simp [wpOpsS,go_sem,Exit.thenS]
 refine wpS_cond (t:=false) (by simp [Act.eval,Array.replicate]) ?_
 simp only [Bool.false_eq_true,if_false]
 refine wpS_of_wp (wp_skip ?_)
 cases c₀
 simp_all [bodyPostS,results,Exit.thenS]
theorem ov_assertE {F:Fr}{H:LH}{ty:TypeId}{x:Operand}{b:Nat}(hx:ev F x=lit (.iface 141 (.pointer (some ⟨b,0,none⟩)))):OpV Tryz.prog (.typeAssert x 20 141 true) ty F H (Ab.tup [lit (.pointer (some ⟨b,0,none⟩)),lit (.bool true)]) :=
 OpV.pure fun m w o a ho _ _ _ h=>by
  have h0:=h x (by simp [Op.operands]);rw [hx,lit_p]at h0
  have hrun:(Instr.typeAssert (.iface 141 (.pointer (some ⟨b,0,none⟩))) 20 141 true).run Tryz.prog w = .ok (.tuple #[.pointer (some ⟨b,0,none⟩), .bool true]) w:=by kernel_rfl
  refine⟨.tuple #[.pointer (some ⟨b,0,none⟩), .bool true],by simp [execOp,ho,h0,hrun],?_⟩
  unfold Ab.tup
  exact⟨_,rfl,lit_p.2 rfl,lit_p.2 rfl,trivial⟩
theorem rcatch_rec {b2 b3 be:Nat}{w:World}{m:Mem}{s0 e0:SV}{v:Value}(hm:MemIn m w) (hv:(lit (.iface 141 (.pointer (some ⟨be,0,none⟩)))).p m v) (hH:HOk m w [(b3,41,[e0]),(b2,22,[s0])]) :
  CallsD Tryz.prog readC #[.pointer (some ⟨b2,0,none⟩), .pointer (some ⟨b3,0,none⟩)] (.panicking [{v:=v,recovered:=false}]) w fun e u' w'=>(∃v',e = .returned v')∧u' = .panicking [{v:=v,recovered:=true}]∧
   ∃m',MemIn m' w'∧HOk m' w' [(b3,41,[lit (.iface 141 (.pointer (some ⟨be,0,none⟩)))]),(b2,22,[lit (.slice none 0 0)])]∧Rel [b3,b2] m w m' w':=by
 have hv':=lit_p.1 hv
 subst hv'
 refine callsD_of_wpS Tryz.func164 rfl fun c₀ cs hu=>?_
 apply wpS_seq
 apply wpS_region
 simp [wpOpsS,go_sem,recoverD,hu,Exit.thenS]
 refine wpS_eng (C:=⟨[b3,b2],m,w,noX,[]⟩) (n:=20) (F:=fm [(0,lit (.pointer (some ⟨b2,0,none⟩))),(1,lit (.pointer (some ⟨b3,0,none⟩))),(2,lit (.iface 141 (.pointer (some ⟨be,0,none⟩))))]) (H:=[(b3,41,[e0]),(b2,22,[s0])])
  (Q:=fun e _ H'=>e = .normal∧[(b3,41,[lit (.iface 141 (.pointer (some ⟨be,0,none⟩)))]),(b2,22,[lit (.slice none 0 0)])].Sublist H') ?_ ⟨rfl,by simp,m,hm,hH,Rel.refl _ _ _,fun e he => .inl (by simp at he⊢;rcases he with rfl|rfl <;> simp),fm_ok _ ?_⟩ ?_
 ·repeat(refine A1 ⟨?_⟩;intros)
  refine Wo (ov_assertE rfl) ?_
  repeat(refine A1 ⟨?_⟩;intros)
  exact⟨rfl,by repeat(first|exact List.Sublist.refl _|refine List.Sublist.cons _ ?_)⟩
 ·intro e he
  simp only [List.mem_cons,List.not_mem_nil,or_false]at he
  rcases he with rfl|rfl|rfl
  ·rw [lit_p];simp
  ·rw [lit_p];simp
  ·rw [lit_p];simp
 ·rintro e a' w' (⟨F',H',⟨hdef,_,m',hm',hH',hr',h4',hp'⟩,rfl,hsub⟩|⟨ch,rfl,_,_,_,_,_,_,_,_,_,_,_,hx⟩)
  ·refine⟨hdef,_,rfl, .tuple #[],?_,⟨_,rfl⟩,rfl,m',hm',hH'.sub' hsub,hr'⟩
   simp [results]
  ·exact hx.elim
theorem lexF_len:∀(f:Nat) (l:List UInt8) (c:Nat) (ts:List Tok),lexF f l c=some ts→ts.length≤f:=by
 intro f
 induction f with
 |zero=>intro l c ts h;unfold lexF at h;cases h
 |succ f ih =>
  intro l c ts h
  unfold lexF at h
  split at h
  ·obtain rfl:=Option.some.inj h
   simp
  ·split at h
   ·split at h
    ·cases h
    ·split at h
     ·rename_i e
      obtain rfl:=Option.some.inj h
      have:=ih _ _ _ e
      simp only [List.length_cons];omega
     ·cases h
   ·split at h
    ·rename_i e
     obtain rfl:=Option.some.inj h
     have:=ih _ _ _ e
     simp only [List.length_cons];omega
    ·cases h
theorem read_pan {C:Ctx}{b4 b5:Nat}{a':Act}{w':World}{m':Mem}{F:Fr}{Hx:LH}{s0 e0 pv:SV}{v:Value}{R:SV→LH→Prop}(hdef:a'.defers=[⟨.fn (.func readC) #[.pointer (some ⟨b4,0,none⟩), .pointer (some ⟨b5,0,none⟩)],#[]⟩]) (hm':MemIn m' w')
  (hH:HOk m' w' Hx) (hs:[(b5,41,[e0]),(b4,22,[s0])].Sublist Hx) (hrel:Rel C.ks C.m C.w m' w') (hown:∀e∈Hx,e.1∈C.ks∨C.w.heap.size≤e.1) (hE:isE pv) (hpv:pv.p m' v) (hF:∀t,(F t).p m' (a'.tmps.getD t undef))
  (h4:F 4=lit (.pointer (some ⟨b4,0,none⟩))) (h5:F 5=lit (.pointer (some ⟨b5,0,none⟩))) (hR:R (Ab.tup [lit (.slice none 0 0),errE]) []):bodyPostD Tryz.prog Tryz.f98 (dRes C R) (.panic [{v:=v,recovered:=false}]) a' w':=by
 obtain⟨be,rfl⟩:=hE
 refine dpan (g:=readC) (cv := #[.pointer (some ⟨b4,0,none⟩), .pointer (some ⟨b5,0,none⟩)]) (by kernel_rfl) hdef ?_
 refine(rcatch_rec hm' hpv (hH.sub' hs)).mono ?_
 rintro e u' w2 ⟨he,hu,m2,g1,g2,g3⟩
 refine⟨he,hu,?_⟩
 have hFt:∀t,(F t).p m2 (a'.tmps.getD t undef):=fun x=>SV.mono _ g3.le (hF x)
 obtain⟨v2,hv2,hp2⟩:=run_end (fn:=Tryz.f98) (tmps:=a'.tmps) (P:=Tryz.prog) rfl (end2 (RV.cell1 (b:=b4) h4 (List.mem_cons_of_mem _ List.mem_cons_self) rfl) (RV.cell1 (b:=b5) h5 List.mem_cons_self rfl) (Le.refl _)) g1 g2 hFt
 refine⟨v2,hv2,m2,[],g1,⟨by simp,fun e he=>by cases he⟩,hrel.trans g3 fun x hx hk=>?_,(fun e he=>by cases he),v2,_,rfl,Le.tup2 (Le.refl _) Le.ifcL _ _ hp2,hR⟩
 have:x∈C.ks∨C.w.heap.size≤x:=by
  simp only [List.mem_cons,List.not_mem_nil,or_false]at hk
  rcases hk with rfl|rfl
  ·exact hown _ (hs.subset List.mem_cons_self)
  ·exact hown _ (hs.subset (List.mem_cons_of_mem _ List.mem_cons_self))
 rcases this with h|h
 ·exact h
 ·exact absurd hx (Nat.not_lt.2 h)
def prR (l:List UInt8):SV→LH→Prop:=fun r H'=>match lexT l with
 |none=>r=Ab.tup [lit (.slice none 0 0),errE]
 |some ts=>match prsAll ts with
  |some (A,x)=>∃s,r=Ab.tup [s,lit .nilIface]∧Own exPT 19 A.length (A.map ndx).flatten s H'
  |none=>r=Ab.tup [lit (.slice none 0 0),errE]
set_option maxHeartbeats 4000000 in
theorem read_pu [Sent 5] [Sent 6] (l:List UInt8) (hok:∀b∈l,okC b=true) (hl:l.length≤65536) :
  PuH Tryz.prog readF [str l,lit (.func (.func 99) #[] #[])] [] (prR l) noX:=by
 have c0:=tokens_pu l hok hl
 unfold prR
 cases hlx:lexT l with
 |none =>
  rw [hlx]at c0
  change Pu _ _ _ (Ab.tup [lit (.slice none 0 0),errE])at c0
  refine PuH.introD Tryz.func98 rfl (by kernel_rfl) fun C hC0 hC1=>?_
  refine WPT.seqR hC0 ?_
  repeat(refine A1 ⟨?_⟩;intros)
  rename_i b4 b5
  refine onR.i ?_
  refine WPT.seqR hC0 ?_
  repeat(first|(refine A1 ⟨?_⟩;intros)|refine W4 c0 ⟨?_⟩)
  refine Ss ?_
  refine Ws (sv:=errE) ?_
  repeat(refine A1 ⟨?_⟩;intros)
  refine onR.i ?_
  refine WPT.seqR hC0 ?_
  repeat(refine A1 ⟨?_⟩;intros)
  refine Wo (ov_ineF (s:=Ab.top) (by kernel_rfl) rfl) ?_
  repeat(first|(refine AS ⟨?_⟩;intros)|(refine O1 ⟨?_⟩;intros))
  refine WdA ?_
  repeat' (first|(refine A1 ⟨?_⟩;intros)|exact WPI.nil|refine And.intro ?_ ?_|(refine Ss ?_;refine Ws (sv:=errE) ?_))
  all_goals
   refine onR.r ?_
   exact dret hC1 (end2 (RV.cell1 (b:=b4) rfl (List.mem_cons_of_mem _ List.mem_cons_self) rfl) (RV.cell1 (b:=b5) rfl List.mem_cons_self rfl) (Le.refl _)) (List.nil_sublist _) rfl
 |some ts =>
  rw [hlx]at c0
  change Pu _ _ _ (Ab.tup [toks ts,lit .nilIface])at c0
  refine PuH.introD Tryz.func98 rfl (by kernel_rfl) fun C hC0 hC1=>?_
  refine WPT.seqR hC0 ?_
  repeat(refine A1 ⟨?_⟩;intros)
  rename_i b4 b5
  refine onR.i ?_
  refine WPT.seqR hC0 ?_
  repeat(first|(refine A1 ⟨?_⟩;intros)|refine W4 c0 ⟨?_⟩)
  refine onR.i ?_
  refine WPT.seqR hC0 ?_
  repeat(refine A1 ⟨?_⟩;intros)
  refine onR.i ?_
  refine WPT.defer (cv:=[.pointer (some ⟨b4,0,none⟩), .pointer (some ⟨b5,0,none⟩)]) (X1:=noX) rfl rfl fun C1 hC=>?_
  rw [hC1]at hC
  have hC2:∀pv H,¬C1.pan pv H:=fun pv H h=>by rw [hC]at h;exact h
  refine WPT.seq hC2 ?_
  repeat(refine A1 ⟨?_⟩;intros)
  rename_i p
  refine onN.i ?_
  refine WPT.reg ?_
  refine WTL.val (op := .move _) Ov0 ?_ rfl
  refine WTL.val (op := .move _) Ov0 ?_ rfl
  have hT:TOk ts:=(lexF_ok _ _ _ _ hlx).1
  have ce:=pexpression_pu p ts hT (by have:=lexF_len _ _ _ _ hlx;omega)
  refine WTL.call (s:=lit (.func (.func 99) #[] #[])) (l:=[.tmp 22]) rfl ce (Tk.perm (Tk.cons (HDel.here _) (Tk.nil _))) rfl rfl ?_ ?_
  ·rintro v H' ⟨A,x,ts',Hs,hp,hown,rfl⟩
   have hco:=hown.co
   obtain⟨hr,hT',hl'⟩:=prs_ok _ _ _ _ _ _ _ _ _ (by omega) (fun h=>by omega) hT trivial hp
   obtain⟨a,r,rfl,ha⟩:=hT'.cons
   have hlen:=lexF_len _ _ _ _ hlx
   simp only [List.length_cons]at hl'
   have c1:=pnext_pu v hco a r 0 (by omega)
   refine WTL.wpl hC2 ?_
   refine WPL.perm (H':=(p,psT,psC (a::r) 0 v)::(b5,41,[lit Value.nilIface])::(b4,22,[lit (Value.slice none 0 0)])::Hs) (List.Perm.cons _ List.perm_append_comm) ?_
   refine Ss ?_
   refine Ws (sv:=v) ?_
   repeat(refine A1 ⟨?_⟩;intros)
   by_cases hk:a.k=0
   ·refine WPT.fin (Q:=endH Tryz.prog Tryz.f98.results _) ?_ (dfin ⟨_,hC⟩ (by kernel_rfl) hC2 fun w=>rcatch_idle _ _ w)
    repeat(refine A1 ⟨?_⟩;intros)
    refine Wo (ov_callT c1 rfl mmA) ?_
    repeat(refine A1 ⟨?_⟩;intros)
    refine Ss ?_
    refine Ws (sv:=v) ?_
    repeat(refine A1 ⟨?_⟩;intros)
    refine endHR _ Hs (end2 (RV.cell1 (b:=b4) rfl (List.mem_cons_of_mem _ (List.mem_cons_of_mem _ List.mem_cons_self)) rfl) (RV.cell1 (b:=b5) rfl (List.mem_cons_of_mem _ List.mem_cons_self) rfl) (Le.refl _)) (by repeat(first|exact List.Sublist.refl _|refine List.Sublist.cons _ ?_)) ?_
    have hpa:prsAll ts=some (A,x):=by
     unfold prsAll
     rw [hp]
     exact if_pos hk
    simp only [hpa]
    exact⟨v,rfl,hown⟩
   ·refine WPT.into ?_
    refine WPT.seq hC2 ?_
    repeat(refine A1 ⟨?_⟩;intros)
    refine Wo (ov_callT c1 rfl mmA) ?_
    repeat(refine A1 ⟨?_⟩;intros)
    refine onN.i ?_
    refine WPT.cond (t:=true) rfl ?_
    refine WPT.region ?_
    refine WTL.val (op := .move _) Ov0 ?_ rfl
    refine WTL.val (op := .load _ _) Ov0 ?_ rfl
    refine WTL.call (s:=lit (.func (.func 166) #[] #[])) (l:=[.tmp 28, .tmp 29]) rfl (pfail_pu v hco p a r 0 (by omega) _) (Tk.perm (Tk.cons (HDel.here _) (Tk.nil _))) rfl rfl ?_ ?_
    ·rintro _ _ ⟨⟩
    ·subst hC
     rintro v1 pv H' m' a' w' hE hdef hm' hH' hrel hown hpv hF
     simp only [Exit.then]
     refine read_pan (b4:=b4) (b5:=b5) (s0:=v) (e0:=lit .nilIface) hdef hm' hH' (List.Sublist.trans ?_ (List.sublist_append_right _ _)) hrel hown hE hpv hF rfl rfl ?_
     ·exact List.Sublist.cons_cons _ (List.Sublist.cons_cons _ (List.nil_sublist _))
     ·have hpa:prsAll ts=none:=by
       unfold prsAll
       rw [hp]
       exact if_neg hk
      simp only [hpa]
  ·subst hC
   rintro v pv H' m' a' w' ⟨hn,hE⟩ hdef hm' hH' hrel hown hpv hF
   refine read_pan (b4:=b4) (b5:=b5) (s0:=lit (.slice none 0 0)) (e0:=lit .nilIface) hdef hm' hH' (List.Sublist.trans ?_ (List.sublist_append_right _ _)) hrel hown hE hpv hF rfl rfl ?_
   ·exact List.Sublist.cons_cons _ (List.Sublist.cons_cons _ (List.nil_sublist _))
   ·have hpa:prsAll ts=none:=by
     unfold prsAll
     rw [hn]
    simp only [hpa]
theorem prR_two {l:List UInt8}{r:SV}{H:LH}(h:prR l r H):r=Ab.tup [lit (.slice none 0 0),errE]∨∃s,r=Ab.tup [s,lit .nilIface]∧CO s [s]:=by
 unfold prR at h
 split at h
 ·exact .inl h
 ·split at h
  ·obtain⟨s,rfl,hown⟩:=h
   exact .inr ⟨s,rfl,hown.co⟩
  ·exact .inl h
theorem gexpr_pu [Sent 5] [Sent 6] (l:List UInt8) (hok:∀b∈l,okC b=true) (hl:l.length≤65536):PuH Tryz.prog 46 [str l] [] (prR l) noX:=by
 have c:=read_pu l hok hl
 refine PuH.intro Tryz.func46 rfl (by kernel_rfl) fun C hC=>?_
 repeat(refine A1 ⟨?_⟩;intros)
 refine WfT c ?_
 rintro r H' hr
 rcases prR_two hr with rfl|⟨s,rfl,hco⟩
 ·repeat(refine A1 ⟨?_⟩;intros)
  exact endHR _ H' (end2 (RV.tmp rfl) (RV.tmp rfl) (Le.refl _)) (List.Sublist.refl _) hr
 ·repeat(refine A1 ⟨?_⟩;intros)
  exact endHR _ H' (end2 (RV.tmp rfl) (RV.tmp rfl) (Le.refl _)) (List.Sublist.refl _) hr
theorem parseExpr_pu [Sent 5] [Sent 6] (l:List UInt8) (hok:∀b∈l,okC b=true) (hl:l.length≤65536):PuH Tryz.prog 18 [str l] [] (prR l) noX:=by
 have c:=gexpr_pu l hok hl
 refine PuH.intro Tryz.func18 rfl (by kernel_rfl) fun C hC=>?_
 repeat(refine A1 ⟨?_⟩;intros)
 refine WfT c ?_
 rintro r H' hr
 rcases prR_two hr with rfl|⟨s,rfl,hco⟩
 ·repeat(refine A1 ⟨?_⟩;intros)
  exact endHR _ H' (end2 (RV.tmp rfl) (RV.tmp rfl) (Le.refl _)) (List.Sublist.refl _) hr
 ·repeat(refine A1 ⟨?_⟩;intros)
  exact endHR _ H' (end2 (RV.tmp rfl) (RV.tmp rfl) (Le.refl _)) (List.Sublist.refl _) hr
theorem ov_ieqNL {F:Fr}{H:LH}{ty T':TypeId}{x y:Operand}{u:TypeId}{v:Value}(hx:ev F x=lit .nilIface) (hy:ev F y=lit (.iface u v)):OpV Tryz.prog (.binOp .eql 41 x y T') ty F H (lit (.bool false)) :=
 ov_bin hx hy (fun w=>run_eql_iface_nil_left w u v Tryz.underlying41) (fun w=>by simp [Go.eqGuard])
theorem isNil_pu (g:Nat):Pu Tryz.prog 13 [lit .nilIface,lit (sent g)] (lit (.bool false)):=by
 refine Pu.intro Tryz.func13 rfl (by kernel_rfl) fun C=>?_
 repeat(refine A1 ⟨?_⟩;intros)
 refine Wo (ov_ieqNL rfl rfl) ?_
 repeat(refine A1 ⟨?_⟩;intros)
 exact E1
abbrev itT:TypeId:=3
def ints (l:List Nat):List SV:=l.map fun n:Nat=>lit (.int .i64 (n:Int))
structure BSt where
 k:Nat
 vs:List Nat
 out:List Nat
 s1:SV
 H1:LH
 s2:SV
 H2:LH
def BSt.ok (ns:List Nd) (env:List UInt8→Option Nat) (x:BSt):Prop :=
 x.k≤ns.length∧x.out.length=x.k∧(∃st,BS x.out st x.vs∧(stk (ns.drop x.k) x.k st).isSome=true)∧brun env (ns.drop x.k) x.vs x.out=brun env ns [] []∧
  Own itT 1 x.vs.length (ints x.vs.reverse) x.s1 x.H1∧Own itT 1 x.out.length (ints x.out) x.s2 x.H2∧(∀v∈x.vs,v≤9223372036854775807)∧(∀v∈x.out,v≤9223372036854775807)∧x.vs.length≤x.k
end Go.Ab
