/- Texts laid one behind the other: ExprOpen, OpenB. -/
import Derived.Test.YtpeidlcjlfkpcaaGreatDoorB41
set_option linter.all false
namespace Go.Ab
open Go.Proofs
variable [Base]
open Go.ChangeShapes Go.WideShapes Go.ChangeAt Go.RowKit
section
variable {H:Type}{enc:TypeId×Value→H}{W:World}{sp:Nat→Bool}{held:Bool}
abbrev GPt:List SV→Prop:=Cat [GR,GR]
abbrev GEx:List SV→Prop:=Cat [GInt .i64,GStr,GPt,GPt,GInt .i64,GInt .i64,GInt .i64,GInt .i64,GInt .i64]
theorem Ly:Opn enc Tryz.prog W sp held 66 GPt:=qx Tryz.underlying66 kr (.cons Dj (.cons Dj .nil))
theorem LA:Opn enc Tryz.prog W sp held 68 GEx :=
 qx Tryz.underlying68 kr (.cons oC (.cons OM (.cons Ly (.cons Ly (.cons oC (.cons oC (.cons oC (.cons oC (.cons oC .nil)))))))))
theorem S9:Opn enc Tryz.prog W sp held 32 (GSl 19 GEx):=Ar kr om LA
end
theorem MZ {l:List SV}(h:GPt l):∃x y:RQ,(D x.n∧D x.d)∧(D y.n∧D y.d)∧l=EZ x++(EZ y++[]):=by
  cases h with
  |cons h1 k=>cases k with
    | cons h2 k => cases k
                   obtain⟨x,hx,rfl⟩:=HV h1;obtain⟨y,hy,rfl⟩:=HV h2;exact⟨x,y,hx,hy,rfl⟩
def Nd.raw (n:Nd):Prop:=((D n.a.n∧D n.a.d)∧(D n.b.n∧D n.b.d)∧(D n.c.n∧D n.c.d)∧(D n.e.n∧D n.e.d))∧n.nm.length≤9223372036854775807∧(Jg n.k∧Jg n.op∧Jg n.x∧Jg n.y)
theorem N3 {l:List SV}(h:GEx l):∃n:Nd,n.raw∧l=ndx n:=by
  cases h with
  |cons h1 k=>cases k with
    |cons h2 k=>cases k with
      |cons h3 k=>cases k with
        |cons h4 k=>cases k with
          |cons h5 k=>cases k with
            |cons h6 k=>cases k with
              |cons h7 k=>cases k with
                |cons h8 k=>cases k with
                  | cons h9 k => cases k
                                 obtain⟨z1,r1,rfl⟩:=oc h1;obtain⟨s,r2,rfl⟩:=RH h2;obtain⟨a,b,ha,hb,rfl⟩:=MZ h3;obtain⟨c,e,hc,he,rfl⟩:=MZ h4;obtain⟨z5,r5,rfl⟩:=oc h5;obtain⟨z6,r6,rfl⟩:=oc h6;obtain⟨z7,r7,rfl⟩:=oc h7;obtain⟨z8,r8,rfl⟩:=oc h8;obtain⟨z9,r9,rfl⟩:=oc h9;exact⟨⟨z1,s,a,b,c,e,z5,z6,z7,z8,z9⟩,⟨⟨ha,hb,hc,he⟩,r2,r1,r5,r6,r7⟩,rfl⟩
theorem LS {α β:Type}{p:α→Prop}{f:α→β}:∀(es:List β),(∀e∈es,∃n,p n∧e=f n)→∃ns:List α,(∀n∈ns,p n)∧es=ns.map f
 | [],_=>⟨[],by simp,rfl⟩
 |e::es,h=>by
  obtain⟨n,h1,rfl⟩:=h e (by simp);obtain⟨ns,h2,rfl⟩:=LS es fun x hx=>h x (by simp [hx])
  exact⟨n::ns,by simpa using ⟨h1,h2⟩,rfl⟩
theorem Sd {l:List SV}(h:GSl 19 GEx l):∃ns:List Nd,(∀n∈ns,n.raw)∧ns.length≤9223372036854775807∧l=[sl (ns.map ndx).flatten ns.length]:=by
 obtain⟨es,hes,hl,rfl⟩:=h;obtain⟨ns,h1,rfl⟩:=LS (f:=ndx) es fun e he=>N3 (hes e he).1
 rw [cK]at hl⊢;exact⟨ns,h1,by simp only [maxLen]at hl;omega,rfl⟩
end Go.Ab
namespace Go.Ab
open Go.Proofs
variable [Base]
open Go.ChangeShapes Go.WideShapes Go.ChangeAt Go.RowKit
theorem Ti {l:List SV}(h:GInt .u8 l):∃z,(0≤z∧z≤255)∧l=[lit (.int .u8 z)]:=by
 obtain⟨z,hz,rfl⟩:=h;refine⟨z,?_,rfl⟩;simp only [Lit.wf,IntKind.min,IntKind.max,IntKind.signed,IntKind.bits,bG,cC]at hz;simp at hz;omega
theorem SM {zs:List Int}(h:∀z∈zs,Lit.wf (.int .i64 z)=true):∀z∈zs,Jg z:=by
 intro z hm;have hz:=h z hm;simp only [Lit.wf,IntKind.min,IntKind.max,IntKind.signed,IntKind.bits,bG,cC]at hz;unfold Jg;simp at hz;omega
end Go.Ab
