/- Texts laid one behind the other: Res, Name, RName, Txt, TxtB. -/
import Derived.Test.YthinbooccdccfaaGreatDoorB22
import Derived.Test.YthinbooccdccfaaGreatDoorB08
import Derived.Test.YthinbooccdccfaaGreatDoorB20
import Derived.Test.YthinbooccdccfaaGreatDoorRefL
import Derived.Test.YthinbooccdccfaaGreatDoorB10
import Derived.Laws.IdiomStrings
import Derived.Test.YthinbooccdccfaaGreatDoorB11
set_option linter.unusedSectionVars false
set_option linter.unusedVariables false
set_option linter.unusedSimpArgs false
namespace Go.Ab
open Go.Proofs
variable [Base]
theorem clsN_3 (b:Nat):decide (clsN b=3)=letterN b:=by
 unfold clsN letterN
 by_cases h1:b=32∨b=9∨b=13∨b=10
 ·rw [if_pos h1,decide_eq_false (by omega),decide_eq_false (by omega)]
 ·rw [if_neg h1]
  by_cases h2:b=35
  ·rw [if_pos h2,decide_eq_false (by omega),decide_eq_false (by omega)]
  ·rw [if_neg h2]
   by_cases h3:48≤b∧b≤57
   ·rw [if_pos h3,decide_eq_false (by omega),decide_eq_false (by omega)]
   ·rw [if_neg h3]
    by_cases h4:97≤b∧b≤122∨65≤b∧b≤90∨b=95
    ·rw [if_pos h4,decide_eq_true rfl,decide_eq_true h4]
    ·rw [if_neg h4,decide_eq_false h4]
     split <;> rfl
theorem letter_pu {b:Nat}(hb:b<256):Pu Tryz.prog 274 [u8 b] (lit (.bool (letterN b))):=by
 rw [←clsN_3]
 have c:=classOf_pu hb
 generalize clsN b=z at *
 refine Pu.intro Tryz.func274 rfl (by kernel_rfl) fun C=>?_
 repeat(first|(refine A1 ⟨?_⟩;intros)|refine W4 c ⟨?_⟩)
 exact E1
theorem rletter_pu {b:Nat}(hb:b<256):Pu Tryz.prog 210 [u8 b] (lit (.bool (letterN b))):=by
 unfold letterN
 by_cases h6:b=95
 ·rw [decide_eq_true (.inr (.inr h6))]
  subst h6
  refine Pu.intro Tryz.func210 rfl (by kernel_rfl) fun C=>?_
  repeat(refine A1 ⟨?_⟩;intros)
  exact E1
 ·by_cases h4:97≤b∧b≤122
  ·rw [decide_eq_true (.inl h4)]
   obtain⟨h4,h5⟩:=h4
   refine Pu.intro Tryz.func210 rfl (by kernel_rfl) fun C=>?_
   repeat(refine A1 ⟨?_⟩;intros)
   exact E1
  ·by_cases h5:65≤b∧b≤90
   ·rw [decide_eq_true (.inr (.inl h5))]
    obtain⟨h5,h7⟩:=h5
    clear h4
    refine Pu.intro Tryz.func210 rfl (by kernel_rfl) fun C=>?_
    repeat(refine A1 ⟨?_⟩;intros)
    exact E1
   ·rw [decide_eq_false (by omega)]
    have key:b<65∨(90<b∧b<97)∨122<b:=by omega
    clear h4 h5
    rcases key with P1|⟨P1,P2⟩|P1
    all_goals
     refine Pu.intro Tryz.func210 rfl (by kernel_rfl) fun C=>?_
     repeat(refine A1 ⟨?_⟩;intros)
     exact E1
def words:List (List UInt8):=[[98,117,100,103,101,116],[114,105,110,103],[114,101,103,105,111,110],[101,118,101,110,111,100,100],[110,111,110,122,101,114,111],[111,117,116,108,105,110,101],[102,97,114],[99,104,97,105,110],[108,101,116],[97,114,101,97],[99,101,110,116,114,111,105,100],[99,108,97,115,115,105,102,121],[101,109,112,116,121],[101,113,117,97,108],[115,117,98,115,101,116],[99,101,108,108,115],[110,111,100,101,115],[112,97,114,116,115],[101,120,112,111,114,116],[97,108,108],[110,111,110,101],[104,97,108,102]]
def resv (s:List UInt8):Bool:=decide (s∈words)
theorem resv_t {s w:List UInt8}(h:s=w) (hw:decide (w∈words)=true:=by decide +kernel):lit (.bool true)=lit (.bool (resv s)):=by subst h;unfold resv;rw [hw]
theorem resv_f {s:List UInt8}(h0:¬s=[98,117,100,103,101,116]) (h1:¬s=[114,105,110,103]) (h2:¬s=[114,101,103,105,111,110]) (h3:¬s=[101,118,101,110,111,100,100]) (h4:¬s=[110,111,110,122,101,114,111]) (h5:¬s=[111,117,116,108,105,110,101]) (h6:¬s=[102,97,114]) (h7:¬s=[99,104,97,105,110]) (h8:¬s=[108,101,116]) (h9:¬s=[97,114,101,97]) (h10:¬s=[99,101,110,116,114,111,105,100]) (h11:¬s=[99,108,97,115,115,105,102,121]) (h12:¬s=[101,109,112,116,121]) (h13:¬s=[101,113,117,97,108]) (h14:¬s=[115,117,98,115,101,116]) (h15:¬s=[99,101,108,108,115]) (h16:¬s=[110,111,100,101,115]) (h17:¬s=[112,97,114,116,115]) (h18:¬s=[101,120,112,111,114,116]) (h19:¬s=[97,108,108]) (h20:¬s=[110,111,110,101]) (h21:¬s=[104,97,108,102]):lit (.bool false)=lit (.bool (resv s)):=by
 unfold resv words
 rw [decide_eq_false (by simp only [List.mem_cons,List.not_mem_nil,or_false,not_or];exact⟨h0,h1,h2,h3,h4,h5,h6,h7,h8,h9,h10,h11,h12,h13,h14,h15,h16,h17,h18,h19,h20,h21⟩)]
set_option maxHeartbeats 4000000 in
theorem reserved_pu (s:List UInt8):Pu Tryz.prog 275 [str s] (lit (.bool (resv s))):=by
 refine Pu.intro Tryz.func275 rfl (by kernel_rfl) fun C=>?_
 repeat(refine A1 ⟨?_⟩;intros)
 by_cases h0:s=[98,117,100,103,101,116]
 ·refine Wo (ov_seql (b:=[98,117,100,103,101,116]) rfl rfl (decide_eq_true h0)) ?_
  repeat(refine A1 ⟨?_⟩;intros)
  refine E1 (h:=Le.of_eq ?_)
  exact resv_t h0
 refine Wo (ov_seql (b:=[98,117,100,103,101,116]) rfl rfl (decide_eq_false h0)) ?_
 repeat(refine A1 ⟨?_⟩;intros)
 by_cases h1:s=[114,105,110,103]
 ·refine Wo (ov_seql (b:=[114,105,110,103]) rfl rfl (decide_eq_true h1)) ?_
  repeat(refine A1 ⟨?_⟩;intros)
  refine E1 (h:=Le.of_eq ?_)
  exact resv_t h1
 refine Wo (ov_seql (b:=[114,105,110,103]) rfl rfl (decide_eq_false h1)) ?_
 repeat(refine A1 ⟨?_⟩;intros)
 by_cases h2:s=[114,101,103,105,111,110]
 ·refine Wo (ov_seql (b:=[114,101,103,105,111,110]) rfl rfl (decide_eq_true h2)) ?_
  repeat(refine A1 ⟨?_⟩;intros)
  refine E1 (h:=Le.of_eq ?_)
  exact resv_t h2
 refine Wo (ov_seql (b:=[114,101,103,105,111,110]) rfl rfl (decide_eq_false h2)) ?_
 repeat(refine A1 ⟨?_⟩;intros)
 by_cases h3:s=[101,118,101,110,111,100,100]
 ·refine Wo (ov_seql (b:=[101,118,101,110,111,100,100]) rfl rfl (decide_eq_true h3)) ?_
  repeat(refine A1 ⟨?_⟩;intros)
  refine E1 (h:=Le.of_eq ?_)
  exact resv_t h3
 refine Wo (ov_seql (b:=[101,118,101,110,111,100,100]) rfl rfl (decide_eq_false h3)) ?_
 repeat(refine A1 ⟨?_⟩;intros)
 by_cases h4:s=[110,111,110,122,101,114,111]
 ·refine Wo (ov_seql (b:=[110,111,110,122,101,114,111]) rfl rfl (decide_eq_true h4)) ?_
  repeat(refine A1 ⟨?_⟩;intros)
  refine E1 (h:=Le.of_eq ?_)
  exact resv_t h4
 refine Wo (ov_seql (b:=[110,111,110,122,101,114,111]) rfl rfl (decide_eq_false h4)) ?_
 repeat(refine A1 ⟨?_⟩;intros)
 by_cases h5:s=[111,117,116,108,105,110,101]
 ·refine Wo (ov_seql (b:=[111,117,116,108,105,110,101]) rfl rfl (decide_eq_true h5)) ?_
  repeat(refine A1 ⟨?_⟩;intros)
  refine E1 (h:=Le.of_eq ?_)
  exact resv_t h5
 refine Wo (ov_seql (b:=[111,117,116,108,105,110,101]) rfl rfl (decide_eq_false h5)) ?_
 repeat(refine A1 ⟨?_⟩;intros)
 by_cases h6:s=[102,97,114]
 ·refine Wo (ov_seql (b:=[102,97,114]) rfl rfl (decide_eq_true h6)) ?_
  repeat(refine A1 ⟨?_⟩;intros)
  refine E1 (h:=Le.of_eq ?_)
  exact resv_t h6
 refine Wo (ov_seql (b:=[102,97,114]) rfl rfl (decide_eq_false h6)) ?_
 repeat(refine A1 ⟨?_⟩;intros)
 by_cases h7:s=[99,104,97,105,110]
 ·refine Wo (ov_seql (b:=[99,104,97,105,110]) rfl rfl (decide_eq_true h7)) ?_
  repeat(refine A1 ⟨?_⟩;intros)
  refine E1 (h:=Le.of_eq ?_)
  exact resv_t h7
 refine Wo (ov_seql (b:=[99,104,97,105,110]) rfl rfl (decide_eq_false h7)) ?_
 repeat(refine A1 ⟨?_⟩;intros)
 by_cases h8:s=[108,101,116]
 ·refine Wo (ov_seql (b:=[108,101,116]) rfl rfl (decide_eq_true h8)) ?_
  repeat(refine A1 ⟨?_⟩;intros)
  refine E1 (h:=Le.of_eq ?_)
  exact resv_t h8
 refine Wo (ov_seql (b:=[108,101,116]) rfl rfl (decide_eq_false h8)) ?_
 repeat(refine A1 ⟨?_⟩;intros)
 by_cases h9:s=[97,114,101,97]
 ·refine Wo (ov_seql (b:=[97,114,101,97]) rfl rfl (decide_eq_true h9)) ?_
  repeat(refine A1 ⟨?_⟩;intros)
  refine E1 (h:=Le.of_eq ?_)
  exact resv_t h9
 refine Wo (ov_seql (b:=[97,114,101,97]) rfl rfl (decide_eq_false h9)) ?_
 repeat(refine A1 ⟨?_⟩;intros)
 by_cases h10:s=[99,101,110,116,114,111,105,100]
 ·refine Wo (ov_seql (b:=[99,101,110,116,114,111,105,100]) rfl rfl (decide_eq_true h10)) ?_
  repeat(refine A1 ⟨?_⟩;intros)
  refine E1 (h:=Le.of_eq ?_)
  exact resv_t h10
 refine Wo (ov_seql (b:=[99,101,110,116,114,111,105,100]) rfl rfl (decide_eq_false h10)) ?_
 repeat(refine A1 ⟨?_⟩;intros)
 by_cases h11:s=[99,108,97,115,115,105,102,121]
 ·refine Wo (ov_seql (b:=[99,108,97,115,115,105,102,121]) rfl rfl (decide_eq_true h11)) ?_
  repeat(refine A1 ⟨?_⟩;intros)
  refine E1 (h:=Le.of_eq ?_)
  exact resv_t h11
 refine Wo (ov_seql (b:=[99,108,97,115,115,105,102,121]) rfl rfl (decide_eq_false h11)) ?_
 repeat(refine A1 ⟨?_⟩;intros)
 by_cases h12:s=[101,109,112,116,121]
 ·refine Wo (ov_seql (b:=[101,109,112,116,121]) rfl rfl (decide_eq_true h12)) ?_
  repeat(refine A1 ⟨?_⟩;intros)
  refine E1 (h:=Le.of_eq ?_)
  exact resv_t h12
 refine Wo (ov_seql (b:=[101,109,112,116,121]) rfl rfl (decide_eq_false h12)) ?_
 repeat(refine A1 ⟨?_⟩;intros)
 by_cases h13:s=[101,113,117,97,108]
 ·refine Wo (ov_seql (b:=[101,113,117,97,108]) rfl rfl (decide_eq_true h13)) ?_
  repeat(refine A1 ⟨?_⟩;intros)
  refine E1 (h:=Le.of_eq ?_)
  exact resv_t h13
 refine Wo (ov_seql (b:=[101,113,117,97,108]) rfl rfl (decide_eq_false h13)) ?_
 repeat(refine A1 ⟨?_⟩;intros)
 by_cases h14:s=[115,117,98,115,101,116]
 ·refine Wo (ov_seql (b:=[115,117,98,115,101,116]) rfl rfl (decide_eq_true h14)) ?_
  repeat(refine A1 ⟨?_⟩;intros)
  refine E1 (h:=Le.of_eq ?_)
  exact resv_t h14
 refine Wo (ov_seql (b:=[115,117,98,115,101,116]) rfl rfl (decide_eq_false h14)) ?_
 repeat(refine A1 ⟨?_⟩;intros)
 by_cases h15:s=[99,101,108,108,115]
 ·refine Wo (ov_seql (b:=[99,101,108,108,115]) rfl rfl (decide_eq_true h15)) ?_
  repeat(refine A1 ⟨?_⟩;intros)
  refine E1 (h:=Le.of_eq ?_)
  exact resv_t h15
 refine Wo (ov_seql (b:=[99,101,108,108,115]) rfl rfl (decide_eq_false h15)) ?_
 repeat(refine A1 ⟨?_⟩;intros)
 by_cases h16:s=[110,111,100,101,115]
 ·refine Wo (ov_seql (b:=[110,111,100,101,115]) rfl rfl (decide_eq_true h16)) ?_
  repeat(refine A1 ⟨?_⟩;intros)
  refine E1 (h:=Le.of_eq ?_)
  exact resv_t h16
 refine Wo (ov_seql (b:=[110,111,100,101,115]) rfl rfl (decide_eq_false h16)) ?_
 repeat(refine A1 ⟨?_⟩;intros)
 by_cases h17:s=[112,97,114,116,115]
 ·refine Wo (ov_seql (b:=[112,97,114,116,115]) rfl rfl (decide_eq_true h17)) ?_
  repeat(refine A1 ⟨?_⟩;intros)
  refine E1 (h:=Le.of_eq ?_)
  exact resv_t h17
 refine Wo (ov_seql (b:=[112,97,114,116,115]) rfl rfl (decide_eq_false h17)) ?_
 repeat(refine A1 ⟨?_⟩;intros)
 by_cases h18:s=[101,120,112,111,114,116]
 ·refine Wo (ov_seql (b:=[101,120,112,111,114,116]) rfl rfl (decide_eq_true h18)) ?_
  repeat(refine A1 ⟨?_⟩;intros)
  refine E1 (h:=Le.of_eq ?_)
  exact resv_t h18
 refine Wo (ov_seql (b:=[101,120,112,111,114,116]) rfl rfl (decide_eq_false h18)) ?_
 repeat(refine A1 ⟨?_⟩;intros)
 by_cases h19:s=[97,108,108]
 ·refine Wo (ov_seql (b:=[97,108,108]) rfl rfl (decide_eq_true h19)) ?_
  repeat(refine A1 ⟨?_⟩;intros)
  refine E1 (h:=Le.of_eq ?_)
  exact resv_t h19
 refine Wo (ov_seql (b:=[97,108,108]) rfl rfl (decide_eq_false h19)) ?_
 repeat(refine A1 ⟨?_⟩;intros)
 by_cases h20:s=[110,111,110,101]
 ·refine Wo (ov_seql (b:=[110,111,110,101]) rfl rfl (decide_eq_true h20)) ?_
  repeat(refine A1 ⟨?_⟩;intros)
  refine E1 (h:=Le.of_eq ?_)
  exact resv_t h20
 refine Wo (ov_seql (b:=[110,111,110,101]) rfl rfl (decide_eq_false h20)) ?_
 repeat(refine A1 ⟨?_⟩;intros)
 by_cases h21:s=[104,97,108,102]
 ·refine Wo (ov_seql (b:=[104,97,108,102]) rfl rfl (decide_eq_true h21)) ?_
  repeat(refine A1 ⟨?_⟩;intros)
  refine E1 (h:=Le.of_eq ?_)
  exact resv_t h21
 refine Wo (ov_seql (b:=[104,97,108,102]) rfl rfl (decide_eq_false h21)) ?_
 repeat(refine A1 ⟨?_⟩;intros)
 refine E1 (h:=Le.of_eq ?_)
 exact resv_f h0 h1 h2 h3 h4 h5 h6 h7 h8 h9 h10 h11 h12 h13 h14 h15 h16 h17 h18 h19 h20 h21
set_option maxRecDepth 20000 in
set_option maxHeartbeats 8000000 in
theorem rreserved_pu (s:List UInt8):Pu Tryz.prog 211 [str s] (lit (.bool (resv s))):=by
 refine Pu.intro Tryz.func211 rfl (by kernel_rfl) fun C=>?_
 repeat(refine A1 ⟨?_⟩;intros)
 refine WP.unroll 23 ?_
 refine WPR.succ ?_
 repeat(refine A1 ⟨?_⟩;intros)
 by_cases h0:s=[98,117,100,103,101,116]
 ·refine Wo (ov_seql (b:=[98,117,100,103,101,116]) rfl rfl (decide_eq_true h0)) ?_
  repeat(refine A1 ⟨?_⟩;intros)
  refine E1 (h:=Le.of_eq ?_)
  exact resv_t h0
 refine Wo (ov_seql (b:=[98,117,100,103,101,116]) rfl rfl (decide_eq_false h0)) ?_
 repeat(refine A1 ⟨?_⟩;intros)
 by_cases h1:s=[114,105,110,103]
 ·refine Wo (ov_seql (b:=[114,105,110,103]) rfl rfl (decide_eq_true h1)) ?_
  repeat(refine A1 ⟨?_⟩;intros)
  refine E1 (h:=Le.of_eq ?_)
  exact resv_t h1
 refine Wo (ov_seql (b:=[114,105,110,103]) rfl rfl (decide_eq_false h1)) ?_
 repeat(refine A1 ⟨?_⟩;intros)
 by_cases h2:s=[114,101,103,105,111,110]
 ·refine Wo (ov_seql (b:=[114,101,103,105,111,110]) rfl rfl (decide_eq_true h2)) ?_
  repeat(refine A1 ⟨?_⟩;intros)
  refine E1 (h:=Le.of_eq ?_)
  exact resv_t h2
 refine Wo (ov_seql (b:=[114,101,103,105,111,110]) rfl rfl (decide_eq_false h2)) ?_
 repeat(refine A1 ⟨?_⟩;intros)
 by_cases h3:s=[101,118,101,110,111,100,100]
 ·refine Wo (ov_seql (b:=[101,118,101,110,111,100,100]) rfl rfl (decide_eq_true h3)) ?_
  repeat(refine A1 ⟨?_⟩;intros)
  refine E1 (h:=Le.of_eq ?_)
  exact resv_t h3
 refine Wo (ov_seql (b:=[101,118,101,110,111,100,100]) rfl rfl (decide_eq_false h3)) ?_
 repeat(refine A1 ⟨?_⟩;intros)
 by_cases h4:s=[110,111,110,122,101,114,111]
 ·refine Wo (ov_seql (b:=[110,111,110,122,101,114,111]) rfl rfl (decide_eq_true h4)) ?_
  repeat(refine A1 ⟨?_⟩;intros)
  refine E1 (h:=Le.of_eq ?_)
  exact resv_t h4
 refine Wo (ov_seql (b:=[110,111,110,122,101,114,111]) rfl rfl (decide_eq_false h4)) ?_
 repeat(refine A1 ⟨?_⟩;intros)
 by_cases h5:s=[111,117,116,108,105,110,101]
 ·refine Wo (ov_seql (b:=[111,117,116,108,105,110,101]) rfl rfl (decide_eq_true h5)) ?_
  repeat(refine A1 ⟨?_⟩;intros)
  refine E1 (h:=Le.of_eq ?_)
  exact resv_t h5
 refine Wo (ov_seql (b:=[111,117,116,108,105,110,101]) rfl rfl (decide_eq_false h5)) ?_
 repeat(refine A1 ⟨?_⟩;intros)
 by_cases h6:s=[102,97,114]
 ·refine Wo (ov_seql (b:=[102,97,114]) rfl rfl (decide_eq_true h6)) ?_
  repeat(refine A1 ⟨?_⟩;intros)
  refine E1 (h:=Le.of_eq ?_)
  exact resv_t h6
 refine Wo (ov_seql (b:=[102,97,114]) rfl rfl (decide_eq_false h6)) ?_
 repeat(refine A1 ⟨?_⟩;intros)
 by_cases h7:s=[99,104,97,105,110]
 ·refine Wo (ov_seql (b:=[99,104,97,105,110]) rfl rfl (decide_eq_true h7)) ?_
  repeat(refine A1 ⟨?_⟩;intros)
  refine E1 (h:=Le.of_eq ?_)
  exact resv_t h7
 refine Wo (ov_seql (b:=[99,104,97,105,110]) rfl rfl (decide_eq_false h7)) ?_
 repeat(refine A1 ⟨?_⟩;intros)
 by_cases h8:s=[108,101,116]
 ·refine Wo (ov_seql (b:=[108,101,116]) rfl rfl (decide_eq_true h8)) ?_
  repeat(refine A1 ⟨?_⟩;intros)
  refine E1 (h:=Le.of_eq ?_)
  exact resv_t h8
 refine Wo (ov_seql (b:=[108,101,116]) rfl rfl (decide_eq_false h8)) ?_
 repeat(refine A1 ⟨?_⟩;intros)
 by_cases h9:s=[97,114,101,97]
 ·refine Wo (ov_seql (b:=[97,114,101,97]) rfl rfl (decide_eq_true h9)) ?_
  repeat(refine A1 ⟨?_⟩;intros)
  refine E1 (h:=Le.of_eq ?_)
  exact resv_t h9
 refine Wo (ov_seql (b:=[97,114,101,97]) rfl rfl (decide_eq_false h9)) ?_
 repeat(refine A1 ⟨?_⟩;intros)
 by_cases h10:s=[99,101,110,116,114,111,105,100]
 ·refine Wo (ov_seql (b:=[99,101,110,116,114,111,105,100]) rfl rfl (decide_eq_true h10)) ?_
  repeat(refine A1 ⟨?_⟩;intros)
  refine E1 (h:=Le.of_eq ?_)
  exact resv_t h10
 refine Wo (ov_seql (b:=[99,101,110,116,114,111,105,100]) rfl rfl (decide_eq_false h10)) ?_
 repeat(refine A1 ⟨?_⟩;intros)
 by_cases h11:s=[99,108,97,115,115,105,102,121]
 ·refine Wo (ov_seql (b:=[99,108,97,115,115,105,102,121]) rfl rfl (decide_eq_true h11)) ?_
  repeat(refine A1 ⟨?_⟩;intros)
  refine E1 (h:=Le.of_eq ?_)
  exact resv_t h11
 refine Wo (ov_seql (b:=[99,108,97,115,115,105,102,121]) rfl rfl (decide_eq_false h11)) ?_
 repeat(refine A1 ⟨?_⟩;intros)
 by_cases h12:s=[101,109,112,116,121]
 ·refine Wo (ov_seql (b:=[101,109,112,116,121]) rfl rfl (decide_eq_true h12)) ?_
  repeat(refine A1 ⟨?_⟩;intros)
  refine E1 (h:=Le.of_eq ?_)
  exact resv_t h12
 refine Wo (ov_seql (b:=[101,109,112,116,121]) rfl rfl (decide_eq_false h12)) ?_
 repeat(refine A1 ⟨?_⟩;intros)
 by_cases h13:s=[101,113,117,97,108]
 ·refine Wo (ov_seql (b:=[101,113,117,97,108]) rfl rfl (decide_eq_true h13)) ?_
  repeat(refine A1 ⟨?_⟩;intros)
  refine E1 (h:=Le.of_eq ?_)
  exact resv_t h13
 refine Wo (ov_seql (b:=[101,113,117,97,108]) rfl rfl (decide_eq_false h13)) ?_
 repeat(refine A1 ⟨?_⟩;intros)
 by_cases h14:s=[115,117,98,115,101,116]
 ·refine Wo (ov_seql (b:=[115,117,98,115,101,116]) rfl rfl (decide_eq_true h14)) ?_
  repeat(refine A1 ⟨?_⟩;intros)
  refine E1 (h:=Le.of_eq ?_)
  exact resv_t h14
 refine Wo (ov_seql (b:=[115,117,98,115,101,116]) rfl rfl (decide_eq_false h14)) ?_
 repeat(refine A1 ⟨?_⟩;intros)
 by_cases h15:s=[99,101,108,108,115]
 ·refine Wo (ov_seql (b:=[99,101,108,108,115]) rfl rfl (decide_eq_true h15)) ?_
  repeat(refine A1 ⟨?_⟩;intros)
  refine E1 (h:=Le.of_eq ?_)
  exact resv_t h15
 refine Wo (ov_seql (b:=[99,101,108,108,115]) rfl rfl (decide_eq_false h15)) ?_
 repeat(refine A1 ⟨?_⟩;intros)
 by_cases h16:s=[110,111,100,101,115]
 ·refine Wo (ov_seql (b:=[110,111,100,101,115]) rfl rfl (decide_eq_true h16)) ?_
  repeat(refine A1 ⟨?_⟩;intros)
  refine E1 (h:=Le.of_eq ?_)
  exact resv_t h16
 refine Wo (ov_seql (b:=[110,111,100,101,115]) rfl rfl (decide_eq_false h16)) ?_
 repeat(refine A1 ⟨?_⟩;intros)
 by_cases h17:s=[112,97,114,116,115]
 ·refine Wo (ov_seql (b:=[112,97,114,116,115]) rfl rfl (decide_eq_true h17)) ?_
  repeat(refine A1 ⟨?_⟩;intros)
  refine E1 (h:=Le.of_eq ?_)
  exact resv_t h17
 refine Wo (ov_seql (b:=[112,97,114,116,115]) rfl rfl (decide_eq_false h17)) ?_
 repeat(refine A1 ⟨?_⟩;intros)
 by_cases h18:s=[101,120,112,111,114,116]
 ·refine Wo (ov_seql (b:=[101,120,112,111,114,116]) rfl rfl (decide_eq_true h18)) ?_
  repeat(refine A1 ⟨?_⟩;intros)
  refine E1 (h:=Le.of_eq ?_)
  exact resv_t h18
 refine Wo (ov_seql (b:=[101,120,112,111,114,116]) rfl rfl (decide_eq_false h18)) ?_
 repeat(refine A1 ⟨?_⟩;intros)
 by_cases h19:s=[97,108,108]
 ·refine Wo (ov_seql (b:=[97,108,108]) rfl rfl (decide_eq_true h19)) ?_
  repeat(refine A1 ⟨?_⟩;intros)
  refine E1 (h:=Le.of_eq ?_)
  exact resv_t h19
 refine Wo (ov_seql (b:=[97,108,108]) rfl rfl (decide_eq_false h19)) ?_
 repeat(refine A1 ⟨?_⟩;intros)
 by_cases h20:s=[110,111,110,101]
 ·refine Wo (ov_seql (b:=[110,111,110,101]) rfl rfl (decide_eq_true h20)) ?_
  repeat(refine A1 ⟨?_⟩;intros)
  refine E1 (h:=Le.of_eq ?_)
  exact resv_t h20
 refine Wo (ov_seql (b:=[110,111,110,101]) rfl rfl (decide_eq_false h20)) ?_
 repeat(refine A1 ⟨?_⟩;intros)
 by_cases h21:s=[104,97,108,102]
 ·refine Wo (ov_seql (b:=[104,97,108,102]) rfl rfl (decide_eq_true h21)) ?_
  repeat(refine A1 ⟨?_⟩;intros)
  refine E1 (h:=Le.of_eq ?_)
  exact resv_t h21
 refine Wo (ov_seql (b:=[104,97,108,102]) rfl rfl (decide_eq_false h21)) ?_
 repeat(refine A1 ⟨?_⟩;intros)
 refine E1 (h:=Le.of_eq ?_)
 exact resv_f h0 h1 h2 h3 h4 h5 h6 h7 h8 h9 h10 h11 h12 h13 h14 h15 h16 h17 h18 h19 h20 h21
def okB (b:UInt8):Bool:=letterN b.toNat||decide (48≤b.toNat∧b.toNat≤57)
def nmOk (s:List UInt8):Bool:=decide (1≤s.length)&&decide (s.length≤24)&&letterN (s.getD 0 0).toNat && !resv s&&s.all okB
theorem all_false {s:List UInt8}{p:UInt8→Bool}{k:Nat}(hk:k<s.length) (h:p (s.getD k 0)=false):s.all p=false:=by
 rw [List.all_eq_false]
 exact⟨s.getD k 0,by simp [List.getD,hk],by rw [h];exact Bool.false_ne_true⟩
theorem take_get {s:List UInt8}{k:Nat}(hk:k<s.length):s.take (k+1)=s.take k++[s.getD k 0]:=by
 rw [List.take_add_one]
 simp [List.getD,hk]
theorem all_true {s:List UInt8}{p:UInt8→Bool}(h:∀b∈s,p b=true):s.all p=true:=List.all_eq_true.2 h
theorem u8_lt (b:UInt8):b.toNat<256:=b.toNat_lt
theorem name_pu {a:SV}{w:Nat}(ha:a=fresh∨a=self w){l:List UInt8}{sb:SV}{Hb:LH}(hb:Byt l sb Hb) (s:List UInt8) (hs:s.length≤1000) (hl:l.length≤100000000) (d:Nat) (lg:Bool) :
  PuH Tryz.prog 215 [lit (.pointer (some ⟨w,0,none⟩)),str s] ((w,289,wrC a sb d lg)::Hb)
   (fun r H=>nmOk s=true∧∃s' Hb',Byt (l++s) s' Hb'∧r=Ab.tup []∧H=(w,289,wrC (self w) s' d lg)::Hb') (fun pv _=>nmOk s=false∧pv=inval):=by
 by_cases h1:1≤s.length
 case neg =>
  refine PuH.intro Tryz.func215 rfl (by kernel_rfl) fun C hC=>?_
  repeat(refine A1 ⟨?_⟩;intros)
  refine WneedF ?_
  rw [hC]
  exact⟨by unfold nmOk;rw [decide_eq_false h1];rfl,rfl⟩
 by_cases h2:s.length≤24
 case neg =>
  refine PuH.intro Tryz.func215 rfl (by kernel_rfl) fun C hC=>?_
  repeat(refine A1 ⟨?_⟩;intros)
  refine WneedF ?_
  rw [hC]
  exact⟨by unfold nmOk;rw [decide_eq_false h2,Bool.and_false];rfl,rfl⟩
 have c1:=letter_pu (u8_lt (s.getD 0 0))
 have c2:=reserved_pu s
 have e0:nmOk s=(letterN (s.getD 0 0).toNat && !resv s&&s.all okB):=by unfold nmOk;rw [decide_eq_true h1,decide_eq_true h2,Bool.true_and,Bool.true_and]
 cases hq:letterN (s.getD 0 0).toNat with
 |false =>
  rw [hq]at c1 e0
  refine PuH.intro Tryz.func215 rfl (by kernel_rfl) fun C hC=>?_
  repeat(refine A1 ⟨?_⟩;intros)
  refine WgE ?_
  refine Wo (ov_sidx (i:=0) rfl rfl (by omega)) ?_
  repeat(first|(refine A1 ⟨?_⟩;intros)|refine W4 c1 ⟨?_⟩)
  refine WneedF ?_
  rw [hC]
  exact⟨e0,rfl⟩
 |true =>
  rw [hq]at c1 e0
  cases hr:resv s with
  |true =>
   rw [hr]at c2 e0
   refine PuH.intro Tryz.func215 rfl (by kernel_rfl) fun C hC=>?_
   repeat(refine A1 ⟨?_⟩;intros)
   refine WgE ?_
   refine Wo (ov_sidx (i:=0) rfl rfl (by omega)) ?_
   repeat(first|(refine A1 ⟨?_⟩;intros)|refine W4 c1 ⟨?_⟩|refine W4 c2 ⟨?_⟩)
   refine WneedF ?_
   rw [hC]
   exact⟨e0,rfl⟩
  |false =>
   rw [hr]at c2 e0
   have e1:nmOk s=s.all okB:=e0
   clear e0
   refine PuH.intro Tryz.func215 rfl (by kernel_rfl) fun C hC=>?_
   repeat(refine A1 ⟨?_⟩;intros)
   refine WgE ?_
   refine Wo (ov_sidx (i:=0) rfl rfl (by omega)) ?_
   repeat(first|(refine A1 ⟨?_⟩;intros)|refine W4 c1 ⟨?_⟩|refine W4 c2 ⟨?_⟩)
   refine WneedT ?_
   repeat(refine A1 ⟨?_⟩;intros)
   refine WP.loopS (ι:=Nat) (fun k=>k≤s.length∧∀b∈s.take k,okB b=true) (fun k=>s.length-k) (fun k=>fm [(0,lit (.pointer (some ⟨w,0,none⟩))),(1,str s),(25,lit (.int .i64 s.length)),(26,lit (.int .i64 k))]) (fun _=>(w,289,wrC a sb d lg)::Hb) 0
    ⟨Nat.zero_le _,by simp⟩ lfA (List.Sublist.refl _) ?_
   rintro k ⟨hk,hr⟩ K hK
   by_cases hkl:k<s.length
   ·have ck:=letter_pu (u8_lt (s.getD k 0))
    have hlt:=u8_lt (s.getD k 0)
    have hok:okB (s.getD k 0)=(letterN (s.getD k 0).toNat||decide (48≤(s.getD k 0).toNat∧(s.getD k 0).toNat≤57)):=rfl
    have good:okB (s.getD k 0)=true→k+1≤s.length∧∀b∈s.take (k+1),okB b=true:=fun h=>⟨by omega,by
     rw [take_get hkl]
     intro b hb
     rcases List.mem_append.1 hb with hb|hb
     ·exact hr b hb
     ·rw [List.mem_singleton]at hb;subst hb;exact h⟩
    have bad:okB (s.getD k 0)=false→nmOk s=false:=fun h=>e1.trans (all_false hkl h)
    clear hr c1 c2 hq
    generalize letterN (s.getD k 0).toNat=lt at *
    cases lt with
    |true =>
     repeat(first|(refine A1 ⟨?_⟩;intros)|refine W4 ck ⟨?_⟩)
     refine WneedT ?_
     repeat(refine A1 ⟨?_⟩;intros)
     exact hK _ _ (k+1) (good hok) (by omega) lfA (List.Sublist.refl _)
    |false =>
     rw [Bool.false_or]at hok
     by_cases h3:48≤(s.getD k 0).toNat
     ·by_cases h4:(s.getD k 0).toNat≤57
      ·rw [decide_eq_true ⟨h3,h4⟩]at hok
       repeat(first|(refine A1 ⟨?_⟩;intros)|refine W4 ck ⟨?_⟩)
       refine WneedT ?_
       repeat(refine A1 ⟨?_⟩;intros)
       exact hK _ _ (k+1) (good hok) (by omega) lfA (List.Sublist.refl _)
      ·rw [decide_eq_false (fun h=>h4 h.2)]at hok
       repeat(first|(refine A1 ⟨?_⟩;intros)|refine W4 ck ⟨?_⟩)
       refine WneedF ?_
       rw [hC]
       exact⟨bad hok,rfl⟩
     ·rw [decide_eq_false (fun h=>h3 h.1)]at hok
      repeat(first|(refine A1 ⟨?_⟩;intros)|refine W4 ck ⟨?_⟩)
      refine WneedF ?_
      rw [hC]
      exact⟨bad hok,rfl⟩
   ·have hke:k=s.length:=by omega
    subst hke
    rw [List.take_length]at hr
    have hall:=e1.trans (all_true hr)
    clear hr c1 c2 hq e1
    repeat(refine A1 ⟨?_⟩;intros)
    refine WfT (put1_pu ha hb s (by omega) d lg) ?_
    rintro _ _ ⟨s',Hb',hb',rfl,rfl⟩
    simp only [List.cons_append,List.nil_append]
    repeat(refine A1 ⟨?_⟩;intros)
    exact endHN _ _ end0 (List.Sublist.refl _) ⟨hall,s',Hb',hb',rfl,rfl⟩
abbrev wC (bad lg:Bool):List SV:=[str [],lit (.bool bad),lit (.bool lg)]
def nmPre (s:List UInt8):Bool:=decide (1≤s.length)&&decide (s.length≤24)&&letterN (s.getD 0 0).toNat && !resv s
theorem nmOk_pre (s:List UInt8):nmOk s=(nmPre s&&(s.take s.length).all okB):=by unfold nmOk nmPre;rw [List.take_length]
theorem all_next {s:List UInt8}{p:UInt8→Bool}{k:Nat}(hk:k<s.length) (q:Bool):(q&&(s.take (k+1)).all p)=(q&&(s.take k).all p&&p (s.getD k 0)):=by
 rw [take_get hk,List.all_append,Bool.and_assoc]
 simp
theorem rname_pu (w:Nat) (s:List UInt8) (hs:s.length≤1000) (bad lg:Bool) :
  PuH Tryz.prog 153 [lit (.pointer (some ⟨w,0,none⟩)),str s] [(w,105,wC bad lg)]
   (fun r H=>r=str s∧H=[(w,105,wC (bad || !nmOk s) lg)]) noX:=by
 have hE:=nmOk_pre s
 have c1:=rletter_pu (u8_lt (s.getD 0 0))
 have c2:=rreserved_pu s
 refine PuH.intro Tryz.func153 rfl (by kernel_rfl) fun C hC=>?_
 refine WP.seq' ?_
 refine WP.reg ?_
 (refine O1 ⟨?_⟩;intros)
 refine WPL.nil ?_
 refine thenN ?_
 refine WP.seq' ?_
 refine WP.via (fun F H=>LeF F (fm [(0,lit (.pointer (some ⟨w,0,none⟩))),(1,str s),(5,lit (.bool (nmPre s)))])∧H=[(w,105,wC bad lg)]) ?_ ?_
 ·by_cases h1:s=[]
  ·subst h1
   repeat(refine A1 ⟨?_⟩;intros)
   exact⟨lfA,rfl⟩
  ·have hl:1≤s.length:=List.length_pos_iff.2 h1
   have e1:nmPre s=(decide (s.length≤24)&&letterN (s.getD 0 0).toNat && !resv s):=by unfold nmPre;rw [decide_eq_true hl,Bool.true_and]
   rw [e1]
   by_cases h2:s.length≤24
   ·rw [decide_eq_true h2,Bool.true_and]
    generalize letterN (s.getD 0 0).toNat=lt at *
    generalize resv s=rs at *
    clear hE e1
    cases lt with
    |false =>
     repeat(refine A1 ⟨?_⟩;intros)
     refine WgE ?_
     refine Wo (ov_sidx (i:=0) rfl rfl (by omega)) ?_
     repeat(first|(refine A1 ⟨?_⟩;intros)|refine W4 c1 ⟨?_⟩|refine W4 c2 ⟨?_⟩)
     exact⟨lfA,rfl⟩
    |true =>
     cases rs with
     |false =>
      repeat(refine A1 ⟨?_⟩;intros)
      refine WgE ?_
      refine Wo (ov_sidx (i:=0) rfl rfl (by omega)) ?_
      repeat(first|(refine A1 ⟨?_⟩;intros)|refine W4 c1 ⟨?_⟩|refine W4 c2 ⟨?_⟩)
      exact⟨lfA,rfl⟩
     |true =>
      repeat(refine A1 ⟨?_⟩;intros)
      refine WgE ?_
      refine Wo (ov_sidx (i:=0) rfl rfl (by omega)) ?_
      repeat(first|(refine A1 ⟨?_⟩;intros)|refine W4 c1 ⟨?_⟩|refine W4 c2 ⟨?_⟩)
      exact⟨lfA,rfl⟩
   ·rw [decide_eq_false h2,Bool.false_and,Bool.false_and]
    clear hE e1
    repeat(refine A1 ⟨?_⟩;intros)
    exact⟨lfA,rfl⟩
 ·rintro F H ⟨hF,rfl⟩
  refine WP.le hF ?_
  clear hF c1 c2
  generalize nmPre s=pre at *
  repeat(refine A1 ⟨?_⟩;intros)
  refine WP.loopS (ι:=Nat) (fun k=>k≤s.length) (fun k=>s.length-k) (fun k=>fm [(0,lit (.pointer (some ⟨w,0,none⟩))),(1,str s),(5,lit (.bool (pre&&(s.take k).all okB))),(6,lit (.int .i64 k))]) (fun _=>[(w,105,wC bad lg)]) 0
   (Nat.zero_le _) (by rw [List.take_zero,List.all_nil,Bool.and_true];(repeat(first|exact LeF.nil _|refine LeF.cons (Le.refl _) ?_|refine LeF.cons (Le.int (by omega)) ?_))) (List.Sublist.refl _) ?_
  rintro k hk K hK
  by_cases hkl:k<s.length
  ·have ck:=rletter_pu (u8_lt (s.getD k 0))
   have hlt:=u8_lt (s.getD k 0)
   have hok:okB (s.getD k 0)=(letterN (s.getD k 0).toNat||decide (48≤(s.getD k 0).toNat∧(s.getD k 0).toNat≤57)):=rfl
   have hnx:=all_next (p:=okB) hkl pre
   generalize letterN (s.getD k 0).toNat=lt at *
   generalize okB (s.getD k 0)=ok at *
   have hK':∀F' H',LeF F' (fm [(0,lit (.pointer (some ⟨w,0,none⟩))),(1,str s),(5,lit (.bool (pre&&(s.take k).all okB&&ok))),(6,lit (.int .i64 ((k+1:Nat):Int)))])→[(w,105,wC bad lg)].Sublist H'→K F' H':=fun F' H' h1 h2=>hK F' H' (k+1) (by omega) (by omega) (by rw [hnx];exact h1) h2
   clear hK hnx hE
   generalize(pre&&(s.take k).all okB)=q at *
   cases q with
   |false =>
    repeat(refine A1 ⟨?_⟩;intros)
    exact hK' _ _ lfA (List.Sublist.refl _)
   |true =>
    rw [Bool.true_and]at hK'
    subst hok
    cases lt with
    |true =>
     repeat(first|(refine A1 ⟨?_⟩;intros)|refine W4 ck ⟨?_⟩)
     exact hK' _ _ lfA (List.Sublist.refl _)
    |false =>
     rw [Bool.false_or]at hK'
     by_cases h3:48≤(s.getD k 0).toNat
     ·by_cases h4:(s.getD k 0).toNat≤57
      ·rw [decide_eq_true ⟨h3,h4⟩]at hK'
       repeat(first|(refine A1 ⟨?_⟩;intros)|refine W4 ck ⟨?_⟩)
       exact hK' _ _ lfA (List.Sublist.refl _)
      ·rw [decide_eq_false (fun h=>h4 h.2)]at hK'
       repeat(first|(refine A1 ⟨?_⟩;intros)|refine W4 ck ⟨?_⟩)
       exact hK' _ _ lfA (List.Sublist.refl _)
     ·rw [decide_eq_false (fun h=>h3 h.1)]at hK'
      repeat(first|(refine A1 ⟨?_⟩;intros)|refine W4 ck ⟨?_⟩)
      exact hK' _ _ lfA (List.Sublist.refl _)
  ·have hke:k=s.length:=by omega
   subst hke
   rw [←hE]
   clear hE
   generalize nmOk s=ok
   cases bad <;> cases ok
   all_goals
    repeat(refine A1 ⟨?_⟩;intros)
    exact endHR _ _ (end1 (RV.tmp rfl) (Le.refl _)) (List.Sublist.refl _) ⟨rfl,rfl⟩
def decR (n:Nat):List UInt8:=if h:n=0 then []else UInt8.ofNat (48+n%10)::decR (n/10)
termination_by n
decreasing_by omega
theorem decR_zero:decR 0=[]:=by rw [decR];rfl
theorem decR_pos {n:Nat}(h:n≠0):decR n=UInt8.ofNat (48+n%10)::decR (n/10):=by
 conv=>lhs;rw [decR]
 rw [dif_neg h]
def dec (n:Nat):List UInt8:=if n=0 then [48]else(decR n).reverse
section
variable {P:Program}{F:Fr}{H:LH}{ty:TypeId}
theorem ov_bytesStr {S D:TypeId} [hS:TSl P S 5] [hD:TSr P D]{x:Operand}{b c:Nat}{l:List UInt8}{rest:List SV}(hu:P.underlying 5=some (.int .u8)){cs:List SV}(hx:ev F x=lit (.slice (some ⟨b,0,none⟩) l.length c)) (hm:(b,5,cs)∈H) (hle:LeL cs (bys l++rest)):OpV P (.convert S D x) ty F H (str l) :=
 OpV.pure fun m w o a hop _ _ hH h=>by
  have h0:=h x (by simp [Op.operands]);rw [hx,lit_p]at h0
  obtain⟨_,arr,hb,hall0⟩:=hH.2 _ hm
  have hall:=All2.le hle hall0
  have hcell:∀j y,l[j]? = some y→w.cell? ((⟨b,0,none⟩:Addr).add j)=some (.int .u8 y.toNat):=fun j y hj=>by
   rw [add_none,cell_of w b _ arr _ _ hb]
   have hjl:j<l.length:=(List.getElem?_eq_some_iff.1 hj).1
   have hg:(bys l++rest)[j]? = some (lit (.int .u8 (y.toNat:Nat))):=by
    rw [List.getElem?_append_left (by rw [bys_len];exact hjl)]
    simp [bys,hj]
   obtain⟨v,hv,hp,_⟩:=hall.get hg
   rw [lit_p]at hp
   subst hp
   simpa using hv
  have:=run_convert_bytes_back (P:=P) w S D 5 ⟨b,0,none⟩ c l hS.h hu hD.h fun j hj=>hcell j l[j] (List.getElem?_eq_getElem hj)
  exact⟨_,by simp [execOp,hop,h0,this],lit_p.2 rfl⟩
end
theorem le1 {x:Int}{b:UInt8}(h:x=(b.toNat:Nat)):LeL [lit (.int .u8 x)] (bys [b]++[]):=⟨Le.int h,trivial⟩
theorem decR_lt:∀(k n:Nat),n<10^k→(decR n).length≤k
 |0,n,h=>by
  have:n=0:=by simpa using h
  subst this;rw [decR_zero];simp
 |k+1,n,h=>by
  by_cases hn:n=0
  ·subst hn;rw [decR_zero];simp
  ·rw [decR_pos hn,List.length_cons]
   have:=decR_lt k (n/10) (by rw [Nat.pow_succ]at h;omega)
   omega
theorem decR_len {n L:Nat}(h:(dgs n).length≤L):(decR n).length≤10*L:=by
 apply decR_lt
 have h1:=lt_pow n
 have h2:4294967296^(dgs n).length≤(10^10)^L:=Nat.le_trans (Nat.pow_le_pow_right (by omega) h) (Nat.pow_le_pow_left (by omega) L)
 rw [←Nat.pow_mul]at h2
 omega
theorem nat10:dg [10]=nat 10:=by
 show dg [10]=dg (dgs 10)
 rw [dgs]
 simp [dgs_zero]
set_option maxHeartbeats 1000000 in
theorem rtext_pu (n:Nat){L:Nat}(hn:(dgs n).length≤L) (hL:L≤100000):Pu Tryz.prog 356 [nat n] (str (dec n)):=by
 unfold dec
 by_cases h0:n=0
 ·rw [if_pos h0]
  subst h0
  have e:(dgs 0).length=0:=by rw [dgs_zero];rfl
  refine Pu.intro Tryz.func356 rfl (by kernel_rfl) fun C=>?_
  repeat(refine A1 ⟨?_⟩;intros)
  exact E1
 ·rw [if_neg h0]
  have hlen:=dgs_ne_nil h0
  refine Pu.intro Tryz.func356 rfl (by kernel_rfl) fun C=>?_
  repeat(refine A1 ⟨?_⟩;intros)
  refine WP.loopS (ι:=Nat×List UInt8) (fun x=>(decR x.1).reverse++x.2=(decR n).reverse∧(dgs x.1).length≤L) (fun x=>x.1) (fun x=>fm [(0,nat x.1),(3,str x.2)]) (fun _=>[]) (n,[])
   ⟨by rw [List.append_nil],hn⟩ lfA (List.nil_sublist _) ?_
  rintro ⟨k,acc⟩ ⟨hk,hkL⟩ K hK
  simp only at hk hkL⊢
  by_cases hk0:k=0
  ·subst hk0
   have e:(dgs 0).length=0:=by rw [dgs_zero];rfl
   rw [decR_zero,List.reverse_nil,List.nil_append]at hk
   rw [←hk]
   clear hk hK
   repeat(refine A1 ⟨?_⟩;intros)
   exact E1
  ·have hkl:=dgs_ne_nil hk0
   have ten:(dgs 10).length=1:=by rw [dgs];simp [dgs_zero]
   have c1:=rdivide_pu k 10 (by omega) (by omega) (by omega)
   have hq:(dgs (k/10)).length≤L:=Nat.le_trans (len_mono (Nat.div_le_self _ _)) hkL
   have hal:acc.length≤10*L:=by
    have:=decR_len hn
    have h2:=congrArg List.length hk
    simp only [List.length_append,List.length_reverse]at h2
    omega
   rw [decR_pos hk0,List.reverse_cons,List.append_assoc]at hk
   have hr:k%10<10:=Nat.mod_lt _ (by omega)
   generalize k%10=r at *
   have hfin:∀F' H',LeF F' (fm [(0,nat (k/10)),(3,str ([UInt8.ofNat (48+r)]++acc))])→([]:LH).Sublist H'→K F' H':=fun F' H' h1 h2=>hK F' H' (k/10,[UInt8.ofNat (48+r)]++acc) ⟨hk,hq⟩ (by simp only;omega) h1 h2
   clear hK hk
   by_cases hr0:r=0
   ·subst hr0
    have e:(dgs 0).length=0:=by rw [dgs_zero];rfl
    repeat(refine A1 ⟨?_⟩;intros)
    refine WpubD (ds:=[10]) 15 rfl (HDel.here _) rfl (by omega) (by omega) ?_
    rw [nat10]
    repeat(first|(refine A1 ⟨?_⟩;intros)|refine W4 c1 ⟨?_⟩)
    refine Wo (ov_bytesStr (l:=[UInt8.ofNat (48+0)]) (rest:=[]) (by kernel_rfl) rfl mmA (le1 rfl)) ?_
    repeat(refine A1 ⟨?_⟩;intros)
    refine Wo (ov_sadd rfl rfl (by rw [List.length_singleton];omega)) ?_
    repeat(refine A1 ⟨?_⟩;intros)
    exact hfin _ _ lfA (List.nil_sublist _)
   ·have e:=dgs_ne_nil hr0
    have e1:(dgs r).getD (Int.toNat 0) 0=r:=(dgs_1 (n:=r) (by have:=len_le (n:=r) (k:=1) (by omega);omega)).symm
    have e2:(UInt8.ofNat (48+r)).toNat=48+r:=by rw [UInt8.toNat_ofNat'];omega
    repeat(refine A1 ⟨?_⟩;intros)
    refine WpubD (ds:=[10]) 15 rfl (HDel.here _) rfl (by omega) (by omega) ?_
    rw [nat10]
    repeat(first|(refine A1 ⟨?_⟩;intros)|refine W4 c1 ⟨?_⟩)
    refine Wo (ov_bytesStr (l:=[UInt8.ofNat (48+r)]) (rest:=[]) (by kernel_rfl) rfl mmA (le1 ?_)) ?_
    ·rw [e1,e2]
     show(48:Int)+(r:Int)=((48+r:Nat):Int)
     omega
    repeat(refine A1 ⟨?_⟩;intros)
    refine Wo (ov_sadd rfl rfl (by rw [List.length_singleton];omega)) ?_
    repeat(refine A1 ⟨?_⟩;intros)
    exact hfin _ _ lfA (List.nil_sublist _)
def fmt (x:Rat):List UInt8:=(if x.num<0 then [45]++dec x.num.natAbs else dec x.num.natAbs)++(if x.den=1 then []else [47]++dec x.den)
theorem dec_len {n L:Nat}(h:(dgs n).length≤L):(dec n).length≤10*L+1:=by
 unfold dec
 split
 ·simp
 ·rw [List.length_reverse];have:=decR_len h;omega
theorem rformat_pu (x:Rat){L:Nat}(hx:ht x≤L) (hL:L≤10000):Pu Tryz.prog 325 [rq x] (str (fmt x)):=by
 have n1:=ht_num x
 have n2:=ht_den x
 have c1:=rtext_pu x.num.natAbs (L:=L) (show il x.num≤L by omega) (by omega)
 have c2:=rtext_pu x.den (L:=L) (by omega) (by omega)
 have l1:=dec_len (n:=x.num.natAbs) (L:=L) (show il x.num≤L by omega)
 have l2:=dec_len (n:=x.den) (L:=L) (by omega)
 unfold fmt
 generalize hD1:dec x.num.natAbs=D1 at *
 generalize hD2:dec x.den=D2 at *
 have k1:([45]:List UInt8).length=1:=rfl
 have k2:([47]:List UInt8).length=1:=rfl
 have k3:([47]++D2).length=D2.length+1:=by simp
 have k4:([45]++D1).length=D1.length+1:=by simp
 show Pu _ _ [ag [lit (.bool (decide (x.num<0))),nat x.num.natAbs,dg (dden x.den)]] _
 by_cases h2:x.den=1
 ·rw [if_pos h2,List.append_nil]
  have e:=dden_len1 h2
  by_cases h1:x.num<0
  ·rw [if_pos h1,decide_eq_true h1]
   refine Pu.intro Tryz.func325 rfl (by kernel_rfl) fun C=>?_
   repeat(first|(refine A1 ⟨?_⟩;intros)|refine W4 c1 ⟨?_⟩)
   exact E1
  ·rw [if_neg h1,decide_eq_false h1]
   refine Pu.intro Tryz.func325 rfl (by kernel_rfl) fun C=>?_
   repeat(first|(refine A1 ⟨?_⟩;intros)|refine W4 c1 ⟨?_⟩)
   exact E1
 ·rw [if_neg h2]
  have e:=dden_len x.den_nz h2
  rw [dden_ne h2]at *
  by_cases h1:x.num<0
  ·rw [if_pos h1,decide_eq_true h1]
   refine Pu.intro Tryz.func325 rfl (by kernel_rfl) fun C=>?_
   repeat(first|(refine A1 ⟨?_⟩;intros)|refine W4 c1 ⟨?_⟩|refine W4 c2 ⟨?_⟩)
   exact E1
  ·rw [if_neg h1,decide_eq_false h1]
   refine Pu.intro Tryz.func325 rfl (by kernel_rfl) fun C=>?_
   repeat(first|(refine A1 ⟨?_⟩;intros)|refine W4 c1 ⟨?_⟩|refine W4 c2 ⟨?_⟩)
   exact E1
theorem fmt_len {x:Rat}{L:Nat}(hx:ht x≤L):(fmt x).length≤20*L+4∧1≤(fmt x).length:=by
 have n1:=ht_num x
 have n2:=ht_den x
 have l1:=dec_len (n:=x.num.natAbs) (L:=L) (show il x.num≤L by omega)
 have l2:=dec_len (n:=x.den) (L:=L) (by omega)
 have p:∀n,1≤(dec n).length:=fun n=>by
  unfold dec
  split
  ·simp
  ·rename_i h;rw [decR_pos h];simp
 have p1:=p x.num.natAbs
 unfold fmt
 split <;> split <;> simp <;> omega
theorem fmt_zero:fmt 0=[48]:=by
 unfold fmt dec
 simp
theorem rtextP_pu (x:Rat){L:Nat}(hx:ht x≤L) (hL:L≤10000):Pu Tryz.prog 272 [ag [lit (.bool (decide (x.num<0))),nat x.num.natAbs,dg (dden x.den),lit (.bool false),lit (.slice none 0 0),lit (.slice none 0 0)]] (str ([40]++fmt x++[44]++[48]++[41])):=by
 have c1:=rformat_pu x hx hL
 have c2:=(rformat_pu 0 (L:=1) (by rw [ht_zero];omega) (by omega)).arg (l':=[ag [lit (.bool false),lit (.slice none 0 0),lit (.slice none 0 0)]]) ⟨Le.ag (by repeat(first|exact trivial|refine⟨?_,?_⟩|exact Le.refl _|exact leN0|exact leD0)),trivial⟩
 rw [fmt_zero]at c2
 have hl:=fmt_len hx
 generalize fmt x=s at *
 have k1:([40]:List UInt8).length=1:=rfl
 have k2:([44]:List UInt8).length=1:=rfl
 have k3:([48]:List UInt8).length=1:=rfl
 have k4:([41]:List UInt8).length=1:=rfl
 have l1:([40]++s).length=s.length+1:=by simp
 have l2:([40]++s++[44]).length=s.length+2:=by simp
 have l3:([40]++s++[44]++[48]).length=s.length+3:=by simp
 refine Pu.intro Tryz.func272 rfl (by kernel_rfl) fun C=>?_
 repeat(first|(refine A1 ⟨?_⟩;intros)|refine W4 c1 ⟨?_⟩|refine W4 c2 ⟨?_⟩)
 exact E1
theorem normalQ_t (x:Rat){L:Nat}(hx:ht x≤L) (hL:L≤10000):Pu Tryz.prog 271 [q x] (lit (.bool true)):=by
 have c1:=q_of x (by omega)
 have c2:=toQ_pu x (by omega)
 have c3:=sameq_pu x (by omega)
 have e:=dgs_ne_nil x.den_nz
 refine Pu.intro Tryz.func271 rfl (by kernel_rfl) fun C=>?_
 repeat(first|(refine A1 ⟨?_⟩;intros)|refine W4 c1 ⟨?_⟩|refine W4 c2 ⟨?_⟩|refine W4 c3 ⟨?_⟩)
 exact E1
end Go.Ab
