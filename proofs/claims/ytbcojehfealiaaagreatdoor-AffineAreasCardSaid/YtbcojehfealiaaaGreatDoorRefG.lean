/- The reference's numbers: shifts. -/
import Derived.Test.YtbcojehfealiaaaGreatDoorB08
set_option linter.all false
set_option maxHeartbeats 16000000
namespace Go.Ab
open Go.Proofs
variable [Base]
theorem L6 {a b:Int}(h:Nat) (ha:a=0) (hb:b=(h:Int)) (hh:h<4294967296):IntKind.u32.wrap ((BitVec.ofInt (IntKind.bits .u32) a ||| BitVec.ofInt (IntKind.bits .u32) b).toNat:Int)=(h:Int):=by
 have:=Ke (a:=a) (b:=b) 0 h 0 ha (by rw [hb,Nat.pow_zero,Nat.one_mul]) (by simp) (by rw [Nat.pow_zero,Nat.one_mul];exact hh);rw [this,Nat.pow_zero,Nat.one_mul,Nat.add_zero]
theorem Ca (k:Nat):2^k=4294967296^(k/32)*2^(k%32):=by
 conv=>lhs;rw [←Nat.div_add_mod k 32]
 rw [Nat.pow_add,Nat.pow_mul]
theorem r6 (a k:Nat) (hla:(dgs a).length+k/32≤100000000):Pu Tryz.prog 219 [nat a,lit (.int .i64 k)] (nat (a*2^k)):=by
 have hs:k%32<32:=by omega
 have hP:=aR a
 suffices h:Pu Tryz.prog 219 [dg (dgs a),lit (.int .i64 k)] (nat (val (dgs a)*(4294967296^(k/32)*2^(k%32)))) by
  rw [au]at h;rw [Ca k];exact h
 obtain⟨w1,w2,w3⟩:=tu hs;generalize dgs a=p at *;refine Pi Tryz.func219 fun C=>?_
 repeat(refine A1 ⟨?_⟩;intros)
 refine oM (k/32+p.length+1) rfl rfl om om fun bb=>?_
 repeat(refine A1 ⟨?_⟩;intros)
 refine WP.loop (ι:=Nat×List Nat) (fun st=>st.1≤p.length∧st.2.length=k/32+p.length+1∧D st.2∧val st.2=4294967296^(k/32)*(val (p.take st.1)*2^(k%32))∧st.2.getD (k/32+st.1) 0<2^(k%32)∧∀j,k/32+st.1<j→st.2.getD j 0=0) (fun st=>p.length-st.1)
  (fun st=>fm [(1,lit (.int .i64 k)),(6,lit (.int .u64 ((k%32:Nat):Int))),(5,lit (.slice (some ⟨bb,0,none⟩) (k/32+p.length+1) (k/32+p.length+1))),(20,dg p),(21,lit (.int .i64 p.length)),(22,lit (.int .i64 st.1))])
  (fun st=>[(bb,188,ax st.2)]) (0,List.replicate (k/32+p.length+1) 0) ⟨Nat.zero_le _,by simp,D.rep _,by simp [val,nA],by simp [List.getD,List.getElem?_replicate];split <;> simp [w2],fun j _=>by simp [List.getD,List.getElem?_replicate];split <;> simp⟩ lfA rfl ?_
 rintro ⟨i,os⟩ ⟨hi,hol,hO,hval,hlo,hz⟩ K hK;simp only at hi hol hO hval hlo hz⊢;by_cases hil:i<p.length
 ·have hx:=hP.get i;obtain⟨a1,a2,y,a3,a4⟩:=qU (d:=p.getD i 0) hs hx;have hz1:=hz (k/32+i+1) om;have hlo':Hid (os.getD (k/32+i) 0<2^(k%32)):=hlo;have hvh:Hid (val os=4294967296^(k/32)*(val (p.take i)*2^(k%32))):=hval;clear hval hlo;repeat(refine A1 ⟨?_⟩;intros)
  rw [KZ (p.getD i 0) (k%32) om a1];repeat(refine A1 ⟨?_⟩;intros)
  refine Wo (kE rfl rfl (Ke (os.getD (k/32+i) 0) y (k%32) rfl (by rw [←a3,Int.natCast_emod];rfl) hlo'.out (by have:=hlo'.out;omega))) ?_;repeat(refine A1 ⟨?_⟩;intros)
  refine f8 (2^(k%32)*y+os.getD (k/32+i) 0) rfl rfl rfl (ay.here _) om ?_;have hl1:(os.set (k/32+i) (2^(k%32)*y+os.getD (k/32+i) 0)).length=k/32+p.length+1:=by simpa using hol
  repeat(refine A1 ⟨?_⟩;intros)
  rw [bq _ _ _ _ om,hz1];refine Wo (kE rfl rfl (L6 (p.getD i 0*2^(k%32)/4294967296) rfl rfl om)) ?_;repeat(refine A1 ⟨?_⟩;intros)
  refine f8 (p.getD i 0*2^(k%32)/4294967296) rfl rfl rfl (ay.here _) om ?_;repeat(refine A1 ⟨?_⟩;intros)
  have hlo:=hlo'.out;refine hK _ _ (i+1,(os.set (k/32+i) (2^(k%32)*y+os.getD (k/32+i) 0)).set (k/32+i+1) (p.getD i 0*2^(k%32)/4294967296)) ⟨by simp only;omega,by simpa using hol,(hO.set _ om).set _ om,?_,?_,?_⟩ (by simp only;omega) lfA rfl
  ·simp only;have e1:=eP os (k/32+i) (2^(k%32)*y+os.getD (k/32+i) 0) om;have e2:=eP (os.set (k/32+i) (2^(k%32)*y+os.getD (k/32+i) 0)) (k/32+i+1) (p.getD i 0*2^(k%32)/4294967296) (by simp;omega);rw [bq _ _ _ _ om,hz1,Nat.mul_zero,Nat.add_zero]at e2;rw [e2,aA,Nat.add_mul,Nat.mul_add,←hvh.out,←Nat.mul_assoc,←Nat.mul_assoc,←Nat.pow_add,Nat.mul_assoc (4294967296^(k/32+i))];have e3:=Nat.div_add_mod (p.getD i 0*2^(k%32)) 4294967296
   have e4:4294967296^(k/32+i)*(p.getD i 0*2^(k%32))=4294967296^(k/32+i+1)*(p.getD i 0*2^(k%32)/4294967296)+4294967296^(k/32+i)*(2^(k%32)*y):=by
    conv=>lhs;rw [←e3]
    rw [Nat.mul_add,a3,Nat.pow_succ,Nat.mul_assoc]
   rw [e4];rw [Nat.mul_add]at e1;omega
  ·simp only
   rw [show((os.set (k/32+i) (2^(k%32)*y+os.getD (k/32+i) 0)).set (k/32+i+1) (p.getD i 0*2^(k%32)/4294967296)).getD (k/32+(i+1)) 0=p.getD i 0*2^(k%32)/4294967296 from by
    have:k/32+i+1<os.length:=by omega
    rw [←Nat.add_assoc];simp [List.getD,this]]
   exact a2
  ·intro j hj;simp only at hj⊢;rw [bq _ _ _ _ om,bq _ _ _ _ om];exact hz j om
 ·have hie:i=p.length:=by omega
  subst hie;rw [List.take_length]at hval;have hvh:Hid (val os=4294967296^(k/32)*(val p*2^(k%32))):=hval;clear hval hlo;repeat(refine A1 ⟨?_⟩;intros)
  refine g9 (ds:=os) 56 rfl (ak.here _) hol om om ?_;refine Wc (cS os om hO) ?_;rw [hvh.out,Nat.mul_left_comm];exact Z1
theorem BV (a s:Nat) (hla:(dgs a).length≤100000000) (hs:s<32):Pu Tryz.prog 220 [nat a,lit (.int .i64 s)] (nat (a/2^s)):=by
 have hP:=aR a;suffices h:Pu Tryz.prog 220 [dg (dgs a),lit (.int .i64 s)] (nat (val (dgs a)/2^s)) by rw [au]at h;exact h
 obtain⟨w1,w2,w3⟩:=tu hs;generalize dgs a=p at *;have hq0:s/32=0:=by omega
 have hr0:s%32=s:=by omega
 by_cases h0:p=[]
 ·subst h0;refine Pi Tryz.func220 fun C=>?_
  repeat(refine A1 ⟨?_⟩;intros)
  refine aS (aJ (RV.tmp rfl) ?_);simp only [val,Nat.zero_div];rw [show nat 0=dg []from by show dg (dgs 0)=_;rw [aT]];exact eC
 ·have hpos:=List.length_pos_iff.2 h0;refine Pi Tryz.func220 fun C=>?_
  repeat(refine A1 ⟨?_⟩;intros)
  rw [hr0];refine Wo (tC (i:=0) (j:=p.length) (ds':=p) rfl (fun y h=>⟨_,_,by cases h;exact rfl,om⟩) (fun h=>by cases h) (fun y h=>by cases h) (fun _=>rfl) om om (by simp)) ?_;repeat(refine A1 ⟨?_⟩;intros)
  refine oM p.length rfl rfl om om fun bb=>?_
  repeat(refine A1 ⟨?_⟩;intros)
  refine WP.loop (ι:=Nat×List Nat) (fun st=>st.1≤p.length∧st.2.length=p.length∧D st.2∧Hid (val (st.2.take st.1)=val p/2^s%4294967296^st.1)) (fun st=>p.length-st.1)
   (fun st=>fm [(5,lit (.int .u64 s)),(6,dg p),(7,lit (.slice (some ⟨bb,0,none⟩) p.length p.length)),(26,dg p),(27,lit (.int .i64 p.length)),(28,lit (.int .i64 st.1))])
   (fun st=>[(bb,188,ax st.2)]) (0,List.replicate p.length 0) ⟨Nat.zero_le _,by simp,D.rep _,by simp [val,Nat.mod_one,Hid]⟩ lfA rfl ?_
  rintro ⟨k,os⟩ ⟨hk,hol,hO,hval⟩ K hK;simp only at hk hol hO hval⊢;by_cases hkl:k<p.length
  ·have hx:=hP.get k;have hx1:=hP.get (k+1);repeat(refine A1 ⟨?_⟩;intros)
   refine WP.via (fun F H=>LeF F (fm [(5,lit (.int .u64 s)),(6,dg p),(7,lit (.slice (some ⟨bb,0,none⟩) p.length p.length)),(8,lit (.int .i64 k)),(10,lit (.int .u64 (p.getD k 0+p.getD (k+1) 0*4294967296:Nat))),(26,dg p),(27,lit (.int .i64 p.length)),(28,lit (.int .i64 k))])∧H=[(bb,188,ax os)]) ?_ ?_
   ·refine WPd (fun h=>?_) (fun h=>?_)
    ·repeat(refine A1 ⟨?_⟩;intros)
     refine Wo (kE rfl rfl (EI (p.getD (k+1) 0) (p.getD k 0) rfl rfl hx1 hx)) ?_;repeat(refine A1 ⟨?_⟩;intros)
     exact⟨lfA,rfl⟩
    ·have h0:p.getD (k+1) 0=0:=by simp [List.getD,List.getElem?_eq_none (show p.length≤k+1 by omega)]
     repeat(refine A1 ⟨?_⟩;intros)
     exact⟨lfA,rfl⟩
   ·rintro F H ⟨hF,rfl⟩;refine WP.le hF ?_;repeat(refine A1 ⟨?_⟩;intros)
    rw [KU _ s om];refine f8 ((p.getD k 0+p.getD (k+1) 0*4294967296)/2^s%4294967296) rfl rfl (by rw [Int.natCast_emod];rfl) (ay.here _) om ?_;repeat(refine A1 ⟨?_⟩;intros)
    refine hK _ _ (k+1,os.set k ((p.getD k 0+p.getD (k+1) 0*4294967296)/2^s%4294967296)) ⟨by simp only;omega,by simpa using hol,hO.set _ om,?_⟩ (by simp only;omega) lfA rfl;simp only [Hid];rw [dr _ _ _ om,hval.out,Nat.mod_pow_succ,ti k hs ((pI p hP k hk).trans (si p k hkl))]
  ·have hke:k=p.length:=by omega
   subst hke;have hval:=hval.out;rw [Nat.mod_eq_of_lt (Nat.lt_of_le_of_lt (Nat.div_le_self _ _) (bP hP)),List.take_of_length_le om]at hval;have hval:Hid _:=hval;repeat(refine A1 ⟨?_⟩;intros)
   refine g9 (ds:=os) 57 rfl (ak.here _) hol om om ?_;refine Wc (cS os om hO) ?_;rw [hval.out];exact Z1
end Go.Ab
