/- Texts laid one behind the other: Res, Name, Part, Expr, StrB. -/
import Derived.Test.YtebghnhocigmlaaGreatDoorB13
import Derived.Test.YtebghnhocigmlaaGreatDoorB04
import Derived.Test.YtebghnhocigmlaaGreatDoorB12
/- Letters, reserved words: the program's and the reference's. -/
namespace Go.Ab
open Go.Proofs
set_option linter.unusedSectionVars false
set_option linter.unusedVariables false
set_option linter.unusedSimpArgs false
variable [Base]
theorem clsN_3 (b : Nat) : decide (clsN b = 3) = letterN b := by
  unfold clsN letterN
  by_cases h1 : b = 32 ∨ b = 9 ∨ b = 13 ∨ b = 10
  · rw [if_pos h1, decide_eq_false (by omega), decide_eq_false (by omega)]
  · rw [if_neg h1]
    by_cases h2 : b = 35
    · rw [if_pos h2, decide_eq_false (by omega), decide_eq_false (by omega)]
    · rw [if_neg h2]
      by_cases h3 : 48 ≤ b ∧ b ≤ 57
      · rw [if_pos h3, decide_eq_false (by omega), decide_eq_false (by omega)]
      · rw [if_neg h3]
        by_cases h4 : 97 ≤ b ∧ b ≤ 122 ∨ 65 ≤ b ∧ b ≤ 90 ∨ b = 95
        · rw [if_pos h4, decide_eq_true rfl, decide_eq_true h4]
        · rw [if_neg h4, decide_eq_false h4]
          split <;> rfl
theorem letter_pu {b : Nat} (hb : b < 256) : Pu Tryz.prog 162 [u8 b] (lit (.bool (letterN b))) := by
  rw [← clsN_3]
  have c := classOf_pu hb
  generalize clsN b = z at *
  refine Pu.intro Tryz.func162 rfl (by kernel_rfl) fun C => ?_
  repeat (first | (refine A1 ⟨?_⟩; intros) | (refine Wcx (c) ?_) | (refine Wdcx (c) ?_) | (refine Wcgx (c) ?_) | (refine Wdcgx (c) ?_))
  ((first | refine endR ?_ | refine endN ?_); exact end1 (RV.tmp rfl) (Le.refl _))
/-- the reserved words -/
def words : List (List UInt8) := [[98, 117, 100, 103, 101, 116], [114, 105, 110, 103], [114, 101, 103, 105, 111, 110], [101, 118, 101, 110, 111, 100, 100], [110, 111, 110, 122, 101, 114, 111], [111, 117, 116, 108, 105, 110, 101], [102, 97, 114], [99, 104, 97, 105, 110], [108, 101, 116], [97, 114, 101, 97], [99, 101, 110, 116, 114, 111, 105, 100], [99, 108, 97, 115, 115, 105, 102, 121], [101, 109, 112, 116, 121], [101, 113, 117, 97, 108], [115, 117, 98, 115, 101, 116], [99, 101, 108, 108, 115], [110, 111, 100, 101, 115], [112, 97, 114, 116, 115], [101, 120, 112, 111, 114, 116], [97, 108, 108], [110, 111, 110, 101], [104, 97, 108, 102]]
def resv (s : List UInt8) : Bool := decide (s ∈ words)
theorem resv_t {s w : List UInt8} (h : s = w) (hw : decide (w ∈ words) = true := by decide +kernel) : lit (.bool true) = lit (.bool (resv s)) := by subst h; unfold resv; rw [hw]
theorem resv_f {s : List UInt8} (h0 : ¬s = [98, 117, 100, 103, 101, 116]) (h1 : ¬s = [114, 105, 110, 103]) (h2 : ¬s = [114, 101, 103, 105, 111, 110]) (h3 : ¬s = [101, 118, 101, 110, 111, 100, 100]) (h4 : ¬s = [110, 111, 110, 122, 101, 114, 111]) (h5 : ¬s = [111, 117, 116, 108, 105, 110, 101]) (h6 : ¬s = [102, 97, 114]) (h7 : ¬s = [99, 104, 97, 105, 110]) (h8 : ¬s = [108, 101, 116]) (h9 : ¬s = [97, 114, 101, 97]) (h10 : ¬s = [99, 101, 110, 116, 114, 111, 105, 100]) (h11 : ¬s = [99, 108, 97, 115, 115, 105, 102, 121]) (h12 : ¬s = [101, 109, 112, 116, 121]) (h13 : ¬s = [101, 113, 117, 97, 108]) (h14 : ¬s = [115, 117, 98, 115, 101, 116]) (h15 : ¬s = [99, 101, 108, 108, 115]) (h16 : ¬s = [110, 111, 100, 101, 115]) (h17 : ¬s = [112, 97, 114, 116, 115]) (h18 : ¬s = [101, 120, 112, 111, 114, 116]) (h19 : ¬s = [97, 108, 108]) (h20 : ¬s = [110, 111, 110, 101]) (h21 : ¬s = [104, 97, 108, 102]) : lit (.bool false) = lit (.bool (resv s)) := by
  unfold resv words
  rw [decide_eq_false (by simp only [List.mem_cons, List.not_mem_nil, or_false, not_or]; exact ⟨h0, h1, h2, h3, h4, h5, h6, h7, h8, h9, h10, h11, h12, h13, h14, h15, h16, h17, h18, h19, h20, h21⟩)]
set_option maxHeartbeats 4000000 in
theorem reserved_pu (s : List UInt8) : Pu Tryz.prog 163 [str s] (lit (.bool (resv s))) := by
  refine Pu.intro Tryz.func163 rfl (by kernel_rfl) fun C => ?_
  repeat (refine A1 ⟨?_⟩; intros)
  by_cases h0 : s = [98, 117, 100, 103, 101, 116]
  · refine Wo (ov_seql (b := [98, 117, 100, 103, 101, 116]) rfl rfl (decide_eq_true h0)) ?_
    repeat (refine A1 ⟨?_⟩; intros)
    ((first | refine endR ?_ | refine endN ?_); refine end1 (RV.tmp rfl) (Le.of_eq ?_))
    exact resv_t h0
  refine Wo (ov_seql (b := [98, 117, 100, 103, 101, 116]) rfl rfl (decide_eq_false h0)) ?_
  repeat (refine A1 ⟨?_⟩; intros)
  by_cases h1 : s = [114, 105, 110, 103]
  · refine Wo (ov_seql (b := [114, 105, 110, 103]) rfl rfl (decide_eq_true h1)) ?_
    repeat (refine A1 ⟨?_⟩; intros)
    ((first | refine endR ?_ | refine endN ?_); refine end1 (RV.tmp rfl) (Le.of_eq ?_))
    exact resv_t h1
  refine Wo (ov_seql (b := [114, 105, 110, 103]) rfl rfl (decide_eq_false h1)) ?_
  repeat (refine A1 ⟨?_⟩; intros)
  by_cases h2 : s = [114, 101, 103, 105, 111, 110]
  · refine Wo (ov_seql (b := [114, 101, 103, 105, 111, 110]) rfl rfl (decide_eq_true h2)) ?_
    repeat (refine A1 ⟨?_⟩; intros)
    ((first | refine endR ?_ | refine endN ?_); refine end1 (RV.tmp rfl) (Le.of_eq ?_))
    exact resv_t h2
  refine Wo (ov_seql (b := [114, 101, 103, 105, 111, 110]) rfl rfl (decide_eq_false h2)) ?_
  repeat (refine A1 ⟨?_⟩; intros)
  by_cases h3 : s = [101, 118, 101, 110, 111, 100, 100]
  · refine Wo (ov_seql (b := [101, 118, 101, 110, 111, 100, 100]) rfl rfl (decide_eq_true h3)) ?_
    repeat (refine A1 ⟨?_⟩; intros)
    ((first | refine endR ?_ | refine endN ?_); refine end1 (RV.tmp rfl) (Le.of_eq ?_))
    exact resv_t h3
  refine Wo (ov_seql (b := [101, 118, 101, 110, 111, 100, 100]) rfl rfl (decide_eq_false h3)) ?_
  repeat (refine A1 ⟨?_⟩; intros)
  by_cases h4 : s = [110, 111, 110, 122, 101, 114, 111]
  · refine Wo (ov_seql (b := [110, 111, 110, 122, 101, 114, 111]) rfl rfl (decide_eq_true h4)) ?_
    repeat (refine A1 ⟨?_⟩; intros)
    ((first | refine endR ?_ | refine endN ?_); refine end1 (RV.tmp rfl) (Le.of_eq ?_))
    exact resv_t h4
  refine Wo (ov_seql (b := [110, 111, 110, 122, 101, 114, 111]) rfl rfl (decide_eq_false h4)) ?_
  repeat (refine A1 ⟨?_⟩; intros)
  by_cases h5 : s = [111, 117, 116, 108, 105, 110, 101]
  · refine Wo (ov_seql (b := [111, 117, 116, 108, 105, 110, 101]) rfl rfl (decide_eq_true h5)) ?_
    repeat (refine A1 ⟨?_⟩; intros)
    ((first | refine endR ?_ | refine endN ?_); refine end1 (RV.tmp rfl) (Le.of_eq ?_))
    exact resv_t h5
  refine Wo (ov_seql (b := [111, 117, 116, 108, 105, 110, 101]) rfl rfl (decide_eq_false h5)) ?_
  repeat (refine A1 ⟨?_⟩; intros)
  by_cases h6 : s = [102, 97, 114]
  · refine Wo (ov_seql (b := [102, 97, 114]) rfl rfl (decide_eq_true h6)) ?_
    repeat (refine A1 ⟨?_⟩; intros)
    ((first | refine endR ?_ | refine endN ?_); refine end1 (RV.tmp rfl) (Le.of_eq ?_))
    exact resv_t h6
  refine Wo (ov_seql (b := [102, 97, 114]) rfl rfl (decide_eq_false h6)) ?_
  repeat (refine A1 ⟨?_⟩; intros)
  by_cases h7 : s = [99, 104, 97, 105, 110]
  · refine Wo (ov_seql (b := [99, 104, 97, 105, 110]) rfl rfl (decide_eq_true h7)) ?_
    repeat (refine A1 ⟨?_⟩; intros)
    ((first | refine endR ?_ | refine endN ?_); refine end1 (RV.tmp rfl) (Le.of_eq ?_))
    exact resv_t h7
  refine Wo (ov_seql (b := [99, 104, 97, 105, 110]) rfl rfl (decide_eq_false h7)) ?_
  repeat (refine A1 ⟨?_⟩; intros)
  by_cases h8 : s = [108, 101, 116]
  · refine Wo (ov_seql (b := [108, 101, 116]) rfl rfl (decide_eq_true h8)) ?_
    repeat (refine A1 ⟨?_⟩; intros)
    ((first | refine endR ?_ | refine endN ?_); refine end1 (RV.tmp rfl) (Le.of_eq ?_))
    exact resv_t h8
  refine Wo (ov_seql (b := [108, 101, 116]) rfl rfl (decide_eq_false h8)) ?_
  repeat (refine A1 ⟨?_⟩; intros)
  by_cases h9 : s = [97, 114, 101, 97]
  · refine Wo (ov_seql (b := [97, 114, 101, 97]) rfl rfl (decide_eq_true h9)) ?_
    repeat (refine A1 ⟨?_⟩; intros)
    ((first | refine endR ?_ | refine endN ?_); refine end1 (RV.tmp rfl) (Le.of_eq ?_))
    exact resv_t h9
  refine Wo (ov_seql (b := [97, 114, 101, 97]) rfl rfl (decide_eq_false h9)) ?_
  repeat (refine A1 ⟨?_⟩; intros)
  by_cases h10 : s = [99, 101, 110, 116, 114, 111, 105, 100]
  · refine Wo (ov_seql (b := [99, 101, 110, 116, 114, 111, 105, 100]) rfl rfl (decide_eq_true h10)) ?_
    repeat (refine A1 ⟨?_⟩; intros)
    ((first | refine endR ?_ | refine endN ?_); refine end1 (RV.tmp rfl) (Le.of_eq ?_))
    exact resv_t h10
  refine Wo (ov_seql (b := [99, 101, 110, 116, 114, 111, 105, 100]) rfl rfl (decide_eq_false h10)) ?_
  repeat (refine A1 ⟨?_⟩; intros)
  by_cases h11 : s = [99, 108, 97, 115, 115, 105, 102, 121]
  · refine Wo (ov_seql (b := [99, 108, 97, 115, 115, 105, 102, 121]) rfl rfl (decide_eq_true h11)) ?_
    repeat (refine A1 ⟨?_⟩; intros)
    ((first | refine endR ?_ | refine endN ?_); refine end1 (RV.tmp rfl) (Le.of_eq ?_))
    exact resv_t h11
  refine Wo (ov_seql (b := [99, 108, 97, 115, 115, 105, 102, 121]) rfl rfl (decide_eq_false h11)) ?_
  repeat (refine A1 ⟨?_⟩; intros)
  by_cases h12 : s = [101, 109, 112, 116, 121]
  · refine Wo (ov_seql (b := [101, 109, 112, 116, 121]) rfl rfl (decide_eq_true h12)) ?_
    repeat (refine A1 ⟨?_⟩; intros)
    ((first | refine endR ?_ | refine endN ?_); refine end1 (RV.tmp rfl) (Le.of_eq ?_))
    exact resv_t h12
  refine Wo (ov_seql (b := [101, 109, 112, 116, 121]) rfl rfl (decide_eq_false h12)) ?_
  repeat (refine A1 ⟨?_⟩; intros)
  by_cases h13 : s = [101, 113, 117, 97, 108]
  · refine Wo (ov_seql (b := [101, 113, 117, 97, 108]) rfl rfl (decide_eq_true h13)) ?_
    repeat (refine A1 ⟨?_⟩; intros)
    ((first | refine endR ?_ | refine endN ?_); refine end1 (RV.tmp rfl) (Le.of_eq ?_))
    exact resv_t h13
  refine Wo (ov_seql (b := [101, 113, 117, 97, 108]) rfl rfl (decide_eq_false h13)) ?_
  repeat (refine A1 ⟨?_⟩; intros)
  by_cases h14 : s = [115, 117, 98, 115, 101, 116]
  · refine Wo (ov_seql (b := [115, 117, 98, 115, 101, 116]) rfl rfl (decide_eq_true h14)) ?_
    repeat (refine A1 ⟨?_⟩; intros)
    ((first | refine endR ?_ | refine endN ?_); refine end1 (RV.tmp rfl) (Le.of_eq ?_))
    exact resv_t h14
  refine Wo (ov_seql (b := [115, 117, 98, 115, 101, 116]) rfl rfl (decide_eq_false h14)) ?_
  repeat (refine A1 ⟨?_⟩; intros)
  by_cases h15 : s = [99, 101, 108, 108, 115]
  · refine Wo (ov_seql (b := [99, 101, 108, 108, 115]) rfl rfl (decide_eq_true h15)) ?_
    repeat (refine A1 ⟨?_⟩; intros)
    ((first | refine endR ?_ | refine endN ?_); refine end1 (RV.tmp rfl) (Le.of_eq ?_))
    exact resv_t h15
  refine Wo (ov_seql (b := [99, 101, 108, 108, 115]) rfl rfl (decide_eq_false h15)) ?_
  repeat (refine A1 ⟨?_⟩; intros)
  by_cases h16 : s = [110, 111, 100, 101, 115]
  · refine Wo (ov_seql (b := [110, 111, 100, 101, 115]) rfl rfl (decide_eq_true h16)) ?_
    repeat (refine A1 ⟨?_⟩; intros)
    ((first | refine endR ?_ | refine endN ?_); refine end1 (RV.tmp rfl) (Le.of_eq ?_))
    exact resv_t h16
  refine Wo (ov_seql (b := [110, 111, 100, 101, 115]) rfl rfl (decide_eq_false h16)) ?_
  repeat (refine A1 ⟨?_⟩; intros)
  by_cases h17 : s = [112, 97, 114, 116, 115]
  · refine Wo (ov_seql (b := [112, 97, 114, 116, 115]) rfl rfl (decide_eq_true h17)) ?_
    repeat (refine A1 ⟨?_⟩; intros)
    ((first | refine endR ?_ | refine endN ?_); refine end1 (RV.tmp rfl) (Le.of_eq ?_))
    exact resv_t h17
  refine Wo (ov_seql (b := [112, 97, 114, 116, 115]) rfl rfl (decide_eq_false h17)) ?_
  repeat (refine A1 ⟨?_⟩; intros)
  by_cases h18 : s = [101, 120, 112, 111, 114, 116]
  · refine Wo (ov_seql (b := [101, 120, 112, 111, 114, 116]) rfl rfl (decide_eq_true h18)) ?_
    repeat (refine A1 ⟨?_⟩; intros)
    ((first | refine endR ?_ | refine endN ?_); refine end1 (RV.tmp rfl) (Le.of_eq ?_))
    exact resv_t h18
  refine Wo (ov_seql (b := [101, 120, 112, 111, 114, 116]) rfl rfl (decide_eq_false h18)) ?_
  repeat (refine A1 ⟨?_⟩; intros)
  by_cases h19 : s = [97, 108, 108]
  · refine Wo (ov_seql (b := [97, 108, 108]) rfl rfl (decide_eq_true h19)) ?_
    repeat (refine A1 ⟨?_⟩; intros)
    ((first | refine endR ?_ | refine endN ?_); refine end1 (RV.tmp rfl) (Le.of_eq ?_))
    exact resv_t h19
  refine Wo (ov_seql (b := [97, 108, 108]) rfl rfl (decide_eq_false h19)) ?_
  repeat (refine A1 ⟨?_⟩; intros)
  by_cases h20 : s = [110, 111, 110, 101]
  · refine Wo (ov_seql (b := [110, 111, 110, 101]) rfl rfl (decide_eq_true h20)) ?_
    repeat (refine A1 ⟨?_⟩; intros)
    ((first | refine endR ?_ | refine endN ?_); refine end1 (RV.tmp rfl) (Le.of_eq ?_))
    exact resv_t h20
  refine Wo (ov_seql (b := [110, 111, 110, 101]) rfl rfl (decide_eq_false h20)) ?_
  repeat (refine A1 ⟨?_⟩; intros)
  by_cases h21 : s = [104, 97, 108, 102]
  · refine Wo (ov_seql (b := [104, 97, 108, 102]) rfl rfl (decide_eq_true h21)) ?_
    repeat (refine A1 ⟨?_⟩; intros)
    ((first | refine endR ?_ | refine endN ?_); refine end1 (RV.tmp rfl) (Le.of_eq ?_))
    exact resv_t h21
  refine Wo (ov_seql (b := [104, 97, 108, 102]) rfl rfl (decide_eq_false h21)) ?_
  repeat (refine A1 ⟨?_⟩; intros)
  ((first | refine endR ?_ | refine endN ?_); refine end1 (RV.tmp rfl) (Le.of_eq ?_))
  exact resv_f h0 h1 h2 h3 h4 h5 h6 h7 h8 h9 h10 h11 h12 h13 h14 h15 h16 h17 h18 h19 h20 h21
end Go.Ab
/- Names: the program's writer and the reference's. -/
namespace Go.Ab
open Go.Proofs
set_option linter.unusedSectionVars false
set_option linter.unusedVariables false
set_option linter.unusedSimpArgs false
variable [Base]
def okB (b : UInt8) : Bool := letterN b.toNat || decide (48 ≤ b.toNat ∧ b.toNat ≤ 57)
/-- this is a name -/
def nmOk (s : List UInt8) : Bool := decide (1 ≤ s.length) && decide (s.length ≤ 24) && letterN (s.getD 0 0).toNat && !resv s && s.all okB
theorem all_false {s : List UInt8} {p : UInt8 → Bool} {k : Nat} (hk : k < s.length) (h : p (s.getD k 0) = false) : s.all p = false := by
  rw [List.all_eq_false]
  exact ⟨s.getD k 0, by simp [List.getD, hk], by rw [h]; exact Bool.false_ne_true⟩
theorem take_get {s : List UInt8} {k : Nat} (hk : k < s.length) : s.take (k + 1) = s.take k ++ [s.getD k 0] := by
  rw [List.take_add_one]
  simp [List.getD, hk]
theorem all_true {s : List UInt8} {p : UInt8 → Bool} (h : ∀ b ∈ s, p b = true) : s.all p = true := List.all_eq_true.2 h
theorem u8_lt (b : UInt8) : b.toNat < 256 := b.toNat_lt
theorem name_pu {a : SV} {w : Nat} (ha : a = fresh ∨ a = self w) {l : List UInt8} {sb : SV} {Hb : LH} (hb : Byt l sb Hb) (s : List UInt8) (hs : s.length ≤ 1000) (hl : l.length ≤ 100000000) (d : Nat) (lg : Bool) :
    PuH Tryz.prog 113 [lit (.pointer (some ⟨w, 0, none⟩)), str s] ((w, 201, wrC a sb d lg) :: Hb)
      (fun r H => nmOk s = true ∧ ∃ s' Hb', Byt (l ++ s) s' Hb' ∧ r = Ab.tup [] ∧ H = (w, 201, wrC (self w) s' d lg) :: Hb') (fun pv _ => nmOk s = false ∧ pv = inval) := by
  by_cases h1 : 1 ≤ s.length
  case neg =>
    refine PuH.intro Tryz.func113 rfl (by kernel_rfl) fun C hC => ?_
    repeat (refine A1 ⟨?_⟩; intros)
    refine WneedF ?_
    rw [hC]
    exact ⟨by unfold nmOk; rw [decide_eq_false h1]; rfl, rfl⟩
  by_cases h2 : s.length ≤ 24
  case neg =>
    refine PuH.intro Tryz.func113 rfl (by kernel_rfl) fun C hC => ?_
    repeat (refine A1 ⟨?_⟩; intros)
    refine WneedF ?_
    rw [hC]
    exact ⟨by unfold nmOk; rw [decide_eq_false h2, Bool.and_false]; rfl, rfl⟩
  have c1 := letter_pu (u8_lt (s.getD 0 0))
  have c2 := reserved_pu s
  have e0 : nmOk s = (letterN (s.getD 0 0).toNat && !resv s && s.all okB) := by unfold nmOk; rw [decide_eq_true h1, decide_eq_true h2, Bool.true_and, Bool.true_and]
  cases hq : letterN (s.getD 0 0).toNat with
  | false =>
    rw [hq] at c1 e0
    refine PuH.intro Tryz.func113 rfl (by kernel_rfl) fun C hC => ?_
    repeat (refine A1 ⟨?_⟩; intros)
    refine WgE ?_
    refine Wo (ov_sidx (i := 0) rfl rfl (by omega)) ?_
    repeat (first | (refine A1 ⟨?_⟩; intros) | (refine Wcx (c1) ?_) | (refine Wdcx (c1) ?_) | (refine Wcgx (c1) ?_) | (refine Wdcgx (c1) ?_))
    refine WneedF ?_
    rw [hC]
    exact ⟨e0, rfl⟩
  | true =>
    rw [hq] at c1 e0
    cases hr : resv s with
    | true =>
      rw [hr] at c2 e0
      refine PuH.intro Tryz.func113 rfl (by kernel_rfl) fun C hC => ?_
      repeat (refine A1 ⟨?_⟩; intros)
      refine WgE ?_
      refine Wo (ov_sidx (i := 0) rfl rfl (by omega)) ?_
      repeat (first | (refine A1 ⟨?_⟩; intros) | (refine Wcx (c1) ?_) | (refine Wdcx (c1) ?_) | (refine Wcgx (c1) ?_) | (refine Wdcgx (c1) ?_) | (refine Wcx (c2) ?_) | (refine Wdcx (c2) ?_) | (refine Wcgx (c2) ?_) | (refine Wdcgx (c2) ?_))
      refine WneedF ?_
      rw [hC]
      exact ⟨e0, rfl⟩
    | false =>
      rw [hr] at c2 e0
      have e1 : nmOk s = s.all okB := e0
      clear e0
      refine PuH.intro Tryz.func113 rfl (by kernel_rfl) fun C hC => ?_
      repeat (refine A1 ⟨?_⟩; intros)
      refine WgE ?_
      refine Wo (ov_sidx (i := 0) rfl rfl (by omega)) ?_
      repeat (first | (refine A1 ⟨?_⟩; intros) | (refine Wcx (c1) ?_) | (refine Wdcx (c1) ?_) | (refine Wcgx (c1) ?_) | (refine Wdcgx (c1) ?_) | (refine Wcx (c2) ?_) | (refine Wdcx (c2) ?_) | (refine Wcgx (c2) ?_) | (refine Wdcgx (c2) ?_))
      refine WneedT ?_
      repeat (refine A1 ⟨?_⟩; intros)
      refine WP.loopS (ι := Nat) (fun k => k ≤ s.length ∧ ∀ b ∈ s.take k, okB b = true) (fun k => s.length - k) (fun k => fm [(0, lit (.pointer (some ⟨w, 0, none⟩))), (1, str s), (25, lit (.int .i64 s.length)), (26, lit (.int .i64 k))]) (fun _ => (w, 201, wrC a sb d lg) :: Hb) 0
        ⟨Nat.zero_le _, by simp⟩ (by (repeat (first | exact LeF.nil _ | refine LeF.cons (Le.refl _) ?_ | refine LeF.cons (Le.int (by omega)) ?_))) (List.Sublist.refl _) ?_
      rintro k ⟨hk, hr⟩ K hK
      by_cases hkl : k < s.length
      · have ck := letter_pu (u8_lt (s.getD k 0))
        have hlt := u8_lt (s.getD k 0)
        have hok : okB (s.getD k 0) = (letterN (s.getD k 0).toNat || decide (48 ≤ (s.getD k 0).toNat ∧ (s.getD k 0).toNat ≤ 57)) := rfl
        have good : okB (s.getD k 0) = true → k + 1 ≤ s.length ∧ ∀ b ∈ s.take (k + 1), okB b = true := fun h => ⟨by omega, by
          rw [take_get hkl]
          intro b hb
          rcases List.mem_append.1 hb with hb | hb
          · exact hr b hb
          · rw [List.mem_singleton] at hb; subst hb; exact h⟩
        have bad : okB (s.getD k 0) = false → nmOk s = false := fun h => e1.trans (all_false hkl h)
        clear hr c1 c2 hq
        generalize letterN (s.getD k 0).toNat = lt at *
        cases lt with
        | true =>
          repeat (first | (refine A1 ⟨?_⟩; intros) | (refine Wcx (ck) ?_) | (refine Wdcx (ck) ?_) | (refine Wcgx (ck) ?_) | (refine Wdcgx (ck) ?_))
          refine WneedT ?_
          repeat (refine A1 ⟨?_⟩; intros)
          exact hK _ _ (k + 1) (good hok) (by omega) (by (repeat (first | exact LeF.nil _ | refine LeF.cons (Le.refl _) ?_ | refine LeF.cons (Le.int (by omega)) ?_))) (List.Sublist.refl _)
        | false =>
          rw [Bool.false_or] at hok
          by_cases h3 : 48 ≤ (s.getD k 0).toNat
          · by_cases h4 : (s.getD k 0).toNat ≤ 57
            · rw [decide_eq_true ⟨h3, h4⟩] at hok
              repeat (first | (refine A1 ⟨?_⟩; intros) | (refine Wcx (ck) ?_) | (refine Wdcx (ck) ?_) | (refine Wcgx (ck) ?_) | (refine Wdcgx (ck) ?_))
              refine WneedT ?_
              repeat (refine A1 ⟨?_⟩; intros)
              exact hK _ _ (k + 1) (good hok) (by omega) (by (repeat (first | exact LeF.nil _ | refine LeF.cons (Le.refl _) ?_ | refine LeF.cons (Le.int (by omega)) ?_))) (List.Sublist.refl _)
            · rw [decide_eq_false (fun h => h4 h.2)] at hok
              repeat (first | (refine A1 ⟨?_⟩; intros) | (refine Wcx (ck) ?_) | (refine Wdcx (ck) ?_) | (refine Wcgx (ck) ?_) | (refine Wdcgx (ck) ?_))
              refine WneedF ?_
              rw [hC]
              exact ⟨bad hok, rfl⟩
          · rw [decide_eq_false (fun h => h3 h.1)] at hok
            repeat (first | (refine A1 ⟨?_⟩; intros) | (refine Wcx (ck) ?_) | (refine Wdcx (ck) ?_) | (refine Wcgx (ck) ?_) | (refine Wdcgx (ck) ?_))
            refine WneedF ?_
            rw [hC]
            exact ⟨bad hok, rfl⟩
      · have hke : k = s.length := by omega
        subst hke
        rw [List.take_length] at hr
        have hall := e1.trans (all_true hr)
        clear hr c1 c2 hq e1
        repeat (refine A1 ⟨?_⟩; intros)
        refine WfT (put1_pu ha hb s (by omega) d lg) ?_
        rintro _ _ ⟨s', Hb', hb', rfl, rfl⟩
        simp only [List.cons_append, List.nil_append]
        repeat (refine A1 ⟨?_⟩; intros)
        exact endHN _ _ end0 (List.Sublist.refl _) ⟨hall, s', Hb', hb', rfl, rfl⟩
end Go.Ab
/- Package grammar: the text of an expression. -/
namespace Go.Ab
open Go.Proofs
set_option linter.unusedSectionVars false
set_option linter.unusedVariables false
set_option linter.unusedSimpArgs false
variable [Base]
/-- an expression as a tree -/
inductive Ex
  | leaf (n : Nd)
  | un (n : Nd) (x : Ex)
  | bi (n : Nd) (l r : Ex)
def Ex.top : Ex → Nd
  | .leaf n => n
  | .un n _ => n
  | .bi n _ _ => n
def Ex.size : Ex → Nat
  | .leaf _ => 1
  | .un _ x => 1 + x.size
  | .bi _ l r => 1 + l.size + r.size
def rk (n : Nd) : Int := if n.k = 6 then (if n.op = 2 then 2 else 1) else 3
/-- the tree that ends at number i of a list -/
def Ex.At (ns : List Nd) : Ex → Nat → Prop
  | .leaf n, i => ns[i]? = some n ∧ 1 ≤ n.k ∧ n.k ≤ 4
  | .un n x, i => ns[i]? = some n ∧ n.k = 5 ∧ ∃ j : Nat, n.x = j ∧ x.At ns j
  | .bi n l r, i => ns[i]? = some n ∧ n.k = 6 ∧ (1 ≤ n.op ∧ n.op ≤ 4) ∧ ∃ j k : Nat, n.x = j ∧ n.y = k ∧ l.At ns j ∧ r.At ns k
theorem Ex.At.top {ns : List Nd} : ∀ {t : Ex} {i : Nat}, t.At ns i → ns[i]? = some t.top
  | .leaf _, _, h => h.1
  | .un _ _, _, h => h.1
  | .bi _ _ _, _, h => h.1
def Ex.dep : Ex → Nat
  | .leaf _ => 0
  | .un _ x => (if rk x.top < 3 then x.dep + 1 else x.dep) + 1
  | .bi n l r => max (if rk l.top < rk n then l.dep + 1 else l.dep) (if rk r.top < rk n + 1 then r.dep + 1 else r.dep)
theorem Ex.size_pos : ∀ t : Ex, 1 ≤ t.size
  | .leaf _ => Nat.le_refl _
  | .un _ x => by simp only [Ex.size]; omega
  | .bi _ l r => by simp only [Ex.size]; omega
theorem Ex.dep_le : ∀ t : Ex, t.dep ≤ 2 * t.size
  | .leaf _ => Nat.zero_le _
  | .un _ x => by
    have := x.dep_le
    simp only [Ex.dep, Ex.size]
    split <;> omega
  | .bi _ l r => by
    have h1 := l.dep_le
    have h2 := r.dep_le
    simp only [Ex.dep, Ex.size]
    split <;> split <;> omega
/-- how deep a tree is, where brackets stand about it if it binds less than lv -/
def pdp (lv : Int) (x : Ex) : Nat := if rk x.top < lv then x.dep + 1 else x.dep
def sgn (op : Int) : List UInt8 := if op = 1 then [32, 43, 32] else if op = 2 then [32, 42, 32] else if op = 3 then [32, 45, 32] else [32, 94, 32]
/-- s in brackets, where they are wanted -/
def par (b : Bool) (s : List UInt8) : List UInt8 := if b = true then [40] ++ s ++ [41] else s
def Ex.txt : Ex → List UInt8
  | .leaf n => if n.k = 1 then n.nm else if n.k = 2 then [97, 108, 108] else if n.k = 3 then [110, 111, 110, 101] else [104, 97, 108, 102] ++ ptxt2 n.a n.b n.c n.e
  | .un _ x => [126] ++ par (decide (rk x.top < 3)) x.txt
  | .bi n l r => par (decide (rk l.top < rk n)) l.txt ++ sgn n.op ++ par (decide (rk r.top < rk n + 1)) r.txt
/-- names are names and numbers in normal form -/
def Ex.good : Ex → Bool
  | .leaf n => if n.k = 1 then nmOk n.nm else if n.k = 4 then (nrmQ n.a && nrmQ n.b && (nrmQ n.c && nrmQ n.e)) else true
  | .un _ x => x.good
  | .bi _ l r => l.good && r.good
theorem par_len (b : Bool) (s : List UInt8) : s.length ≤ (par b s).length ∧ (par b s).length ≤ s.length + 2 := by
  unfold par
  split
  · simp only [List.length_append, List.length_cons, List.length_nil]; omega
  · omega
/-- what part does with a tree -/
def PartOk (ns : List Nd) (w : Nat) (t : Ex) (i : Nat) : Prop :=
  ∀ (d : Nat) (l : List UInt8) (H : LH), Wtr w l d H → d + t.dep ≤ 200 → l.length + t.txt.length + 2 * t.size ≤ 80000000 →
    PuH Tryz.prog 160 [lit (.pointer (some ⟨w, 0, none⟩)), sl (ns.map ndx).flatten ns.length, lit (.int .i64 i)] H (fun r H' => t.good = true ∧ r = Ab.tup [] ∧ Wtr w (l ++ t.txt) d H') (fun pv _ => t.good = false ∧ pv = inval)
theorem operand1_pu {ns : List Nd} {w i d b4 b5 b6 : Nat} {t : Ex} {l : List UInt8} {H : LH} (hp : PartOk ns w t i) (h : Wtr w l d H) (hd : d + t.dep ≤ 200) (hl : l.length + t.txt.length + 2 * t.size ≤ 80000000) :
    PuH Tryz.prog 263 [lit (.pointer (some ⟨b4, 0, none⟩)), lit (.pointer (some ⟨b5, 0, none⟩)), lit (.pointer (some ⟨b6, 0, none⟩))]
      ([(b6, 3, [lit (.int .i64 i)]), (b5, 52, [sl (ns.map ndx).flatten ns.length]), (b4, 144, [lit (.pointer (some ⟨w, 0, none⟩))])] ++ H)
      (fun r H' => t.good = true ∧ r = Ab.tup [] ∧ ∃ H2, H' = [(b6, 3, [lit (.int .i64 i)]), (b5, 52, [sl (ns.map ndx).flatten ns.length]), (b4, 144, [lit (.pointer (some ⟨w, 0, none⟩))])] ++ H2 ∧ Wtr w (l ++ t.txt) d H2) (fun pv _ => t.good = false ∧ pv = inval) := by
  have c := hp d l H h hd hl
  refine PuH.intro Tryz.func263 rfl (by kernel_rfl) fun C hC => ?_
  simp only [List.cons_append, List.nil_append]
  repeat (refine A1 ⟨?_⟩; intros)
  refine WfX c ?_ ?_
  · rintro _ _ ⟨g, rfl, h'⟩
    simp only [List.cons_append, List.nil_append]
    repeat (refine A1 ⟨?_⟩; intros)
    exact endHN _ _ end0 (List.Sublist.refl _) ⟨g, rfl, _, rfl, h'⟩
  · rintro _ _ ⟨g, rfl⟩
    rw [hC]
    exact ⟨g, rfl⟩
theorem operand_pu {ns : List Nd} {w i d : Nat} {t : Ex} {l : List UInt8} {H : LH} (hns : ns.length ≤ 100000) (hp : PartOk ns w t i) (hat : ns[i]? = some t.top) (h : Wtr w l d H) (m : Int) (hd : d + pdp m t ≤ 200) (hl : l.length + t.txt.length + 2 * t.size + 2 ≤ 80000000) :
    PuH Tryz.prog 212 [lit (.pointer (some ⟨w, 0, none⟩)), sl (ns.map ndx).flatten ns.length, lit (.int .i64 i), lit (.int .i64 m)] H
      (fun r H' => t.good = true ∧ r = Ab.tup [] ∧ Wtr w (l ++ par (decide (rk t.top < m)) t.txt) d H') (fun pv _ => t.good = false ∧ pv = inval) := by
  have hil : i < ns.length := (List.getElem?_eq_some_iff.1 hat).1
  have hcut := flat_at (f := ndx) (n := 19) ndx_len hat
  have hne : (ns.map ndx).flatten ≠ [] := flat_ne ndx_len (by omega) (fun e => by rw [e] at hil; simp at hil)
  have c0 := rank_pu t.top
  change Pu _ _ _ (lit (.int .i64 (rk t.top))) at c0
  unfold pdp at hd
  generalize hn : t.top = n at *
  by_cases hr : m ≤ rk n
  · rw [show par (decide (rk n < m)) t.txt = t.txt from by rw [decide_eq_false (by omega)]; rfl]
    rw [if_neg (by omega)] at hd
    have c := hp d l H h (by omega) (by omega)
    refine PuH.intro Tryz.func212 rfl (by kernel_rfl) fun C hC => ?_
    repeat (refine A1 ⟨?_⟩; intros)
    refine Wo (ov_idxS (cs' := ndx n) rfl rfl (by omega) (by omega) hcut hne) ?_
    repeat (first | (refine A1 ⟨?_⟩; intros) | (refine Wcx (c0) ?_) | (refine Wdcx (c0) ?_) | (refine Wcgx (c0) ?_) | (refine Wdcgx (c0) ?_))
    refine WfX c ?_ ?_
    · rintro _ _ ⟨g, rfl, h'⟩
      simp only [List.cons_append, List.nil_append]
      repeat (refine A1 ⟨?_⟩; intros)
      exact endHR _ _ end0 (by repeat (first | exact List.Sublist.refl _ | refine List.Sublist.cons _ ?_)) ⟨g, rfl, h'⟩
    · rintro _ _ ⟨g, rfl⟩
      rw [hC]
      exact ⟨g, rfl⟩
  · rw [show par (decide (rk n < m)) t.txt = [40] ++ t.txt ++ [41] from by rw [decide_eq_true (by omega)]; rfl]
    have k1 : ([40] : List UInt8).length = 1 := rfl
    have k2 : ([41] : List UInt8).length = 1 := rfl
    have k3 : (l ++ [40]).length = l.length + 1 := by simp
    have k4 : (l ++ [40] ++ t.txt).length = l.length + 1 + t.txt.length := by rw [List.length_append, k3]
    rw [if_pos (by omega)] at hd
    refine PuH.intro Tryz.func212 rfl (by kernel_rfl) fun C hC => ?_
    repeat (refine A1 ⟨?_⟩; intros)
    refine Wo (ov_idxS (cs' := ndx n) rfl rfl (by omega) (by omega) hcut hne) ?_
    repeat (first | (refine A1 ⟨?_⟩; intros) | (refine Wcx (c0) ?_) | (refine Wdcx (c0) ?_) | (refine Wcgx (c0) ?_) | (refine Wdcgx (c0) ?_))
    refine WfH (putW_pu h [40] (by omega)) ?_
    rintro _ _ ⟨rfl, g1⟩
    refine WPL.perm List.perm_append_comm ?_
    simp only [List.cons_append, List.nil_append]
    repeat (refine A1 ⟨?_⟩; intros)
    refine WPL.perm (List.perm_append_comm (l₁ := [_, _, _])) ?_
    refine WfX (deeper_pu g1 (by omega) (fun H1 h1 => operand1_pu hp h1 (by omega) (by omega))) ?_ ?_ rfl (Tk.same _)
    · rintro _ _ ⟨g, rfl, H2, rfl, g2⟩
      simp only [List.nil_append]
      refine WPL.perm List.perm_append_comm ?_
      simp only [List.cons_append, List.nil_append]
      repeat (refine A1 ⟨?_⟩; intros)
      refine WfH (putW_pu g2 [41] (by omega)) ?_
      rintro _ _ ⟨rfl, g3⟩
      repeat (refine A1 ⟨?_⟩; intros)
      exact endHN _ _ end0 (List.sublist_append_left _ _) ⟨g, rfl, by rw [show l ++ 40 :: (t.txt ++ [41]) = l ++ [40] ++ t.txt ++ [41] by simp]; exact g3⟩
    · rintro _ _ ⟨g, rfl⟩
      rw [hC]
      exact ⟨g, rfl⟩
theorem nameW_pu {w d : Nat} {l : List UInt8} {H : LH} (h : Wtr w l d H) (s : List UInt8) (hs : s.length ≤ 1000) (hl : l.length ≤ 100000000) :
    PuH Tryz.prog 113 [lit (.pointer (some ⟨w, 0, none⟩)), str s] H (fun r H' => nmOk s = true ∧ r = Ab.tup [] ∧ Wtr w (l ++ s) d H') (fun pv _ => nmOk s = false ∧ pv = inval) := by
  obtain ⟨a, sb, Hb, ha, hb, rfl⟩ := h
  refine (name_pu ha hb s hs hl d false).mono (fun r H' => ?_) fun pv H' h => h
  rintro ⟨g, s', Hb', hb', rfl, rfl⟩
  exact ⟨g, rfl, _, _, _, .inr rfl, hb', rfl⟩
/-- the array of the signs -/
abbrev sgns : List SV := [str [], str [32, 43, 32], str [32, 42, 32], str [32, 45, 32], str [32, 94, 32]]
theorem part_leaf {ns : List Nd} {L : Nat} (hok : ∀ n ∈ ns, n.ok L) (hL : L ≤ 200) (hns : ns.length ≤ 100000) (w : Nat) (n : Nd) (i : Nat) (hat : (Ex.leaf n).At ns i) : PartOk ns w (.leaf n) i := fun d l H h hd hl => by
    obtain ⟨hat, hk1, hk4⟩ := hat
    have hil : i < ns.length := (List.getElem?_eq_some_iff.1 hat).1
    have hcut := flat_at (f := ndx) (n := 19) ndx_len hat
    have hne : (ns.map ndx).flatten ≠ [] := flat_ne ndx_len (by omega) (fun e => by rw [e] at hil; simp at hil)
    obtain ⟨na, nb, nc, ne, nn⟩ := hok n (List.mem_of_getElem? hat)
    clear hok
    by_cases k1 : n.k = 1
    · rw [show (Ex.leaf n).txt = n.nm from by unfold Ex.txt; rw [if_pos k1]] at hl ⊢
      rw [show (Ex.leaf n).good = nmOk n.nm from by unfold Ex.good; rw [if_pos k1]]
      refine PuH.intro Tryz.func160 rfl (by kernel_rfl) fun C hC => ?_
      repeat (refine A1 ⟨?_⟩; intros)
      refine Wo (ov_idxS (cs' := ndx n) rfl rfl (by omega) (by omega) hcut hne) ?_
      repeat (refine A1 ⟨?_⟩; intros)
      refine Wo (ov_buildA (e := 9) (len := 5) (cs := sgns) (by kernel_rfl) (by repeat (first | exact Parts.nil | (apply Parts.cons; exact Eq.refl (lit _); infer_instance))) (by exact rfl)) ?_
      repeat (refine A1 ⟨?_⟩; intros)
      refine WfX (nameW_pu h n.nm (by omega) (by omega)) ?_ ?_
      · rintro _ _ ⟨g, rfl, h'⟩
        simp only [List.cons_append, List.nil_append]
        repeat (refine A1 ⟨?_⟩; intros)
        exact endHN _ _ end0 (by repeat (first | exact List.Sublist.refl _ | exact List.sublist_append_left _ _ | refine List.Sublist.cons _ ?_)) ⟨g, rfl, h'⟩
      · rintro _ _ ⟨g, rfl⟩
        rw [hC]
        exact ⟨g, rfl⟩
    by_cases k2 : n.k = 2
    · rw [show (Ex.leaf n).txt = [97, 108, 108] from by unfold Ex.txt; rw [if_neg k1, if_pos k2]] at hl ⊢
      rw [show (Ex.leaf n).good = true from by unfold Ex.good; rw [if_neg (by omega), if_neg (by omega)]]
      have q : ([97, 108, 108] : List UInt8).length = 3 := rfl
      refine PuH.intro Tryz.func160 rfl (by kernel_rfl) fun C hC => ?_
      repeat (refine A1 ⟨?_⟩; intros)
      refine Wo (ov_idxS (cs' := ndx n) rfl rfl (by omega) (by omega) hcut hne) ?_
      repeat (refine A1 ⟨?_⟩; intros)
      refine Wo (ov_buildA (e := 9) (len := 5) (cs := sgns) (by kernel_rfl) (by repeat (first | exact Parts.nil | (apply Parts.cons; exact Eq.refl (lit _); infer_instance))) (by exact rfl)) ?_
      repeat (refine A1 ⟨?_⟩; intros)
      refine WfH (putW_pu h [97, 108, 108] (by omega)) ?_
      rintro _ _ ⟨rfl, h'⟩
      repeat (refine A1 ⟨?_⟩; intros)
      exact endHN _ _ end0 (by repeat (first | exact List.Sublist.refl _ | exact List.sublist_append_left _ _ | refine List.Sublist.cons _ ?_)) ⟨rfl, rfl, h'⟩
    by_cases k3 : n.k = 3
    · rw [show (Ex.leaf n).txt = [110, 111, 110, 101] from by unfold Ex.txt; rw [if_neg k1, if_neg k2, if_pos k3]] at hl ⊢
      rw [show (Ex.leaf n).good = true from by unfold Ex.good; rw [if_neg (by omega), if_neg (by omega)]]
      have q : ([110, 111, 110, 101] : List UInt8).length = 4 := rfl
      refine PuH.intro Tryz.func160 rfl (by kernel_rfl) fun C hC => ?_
      repeat (refine A1 ⟨?_⟩; intros)
      refine Wo (ov_idxS (cs' := ndx n) rfl rfl (by omega) (by omega) hcut hne) ?_
      repeat (refine A1 ⟨?_⟩; intros)
      refine Wo (ov_buildA (e := 9) (len := 5) (cs := sgns) (by kernel_rfl) (by repeat (first | exact Parts.nil | (apply Parts.cons; exact Eq.refl (lit _); infer_instance))) (by exact rfl)) ?_
      repeat (refine A1 ⟨?_⟩; intros)
      refine WfH (putW_pu h [110, 111, 110, 101] (by omega)) ?_
      rintro _ _ ⟨rfl, h'⟩
      repeat (refine A1 ⟨?_⟩; intros)
      exact endHN _ _ end0 (by repeat (first | exact List.Sublist.refl _ | exact List.sublist_append_left _ _ | refine List.Sublist.cons _ ?_)) ⟨rfl, rfl, h'⟩
    have k4 : n.k = 4 := by omega
    rw [show (Ex.leaf n).txt = [104, 97, 108, 102] ++ ptxt2 n.a n.b n.c n.e from by unfold Ex.txt; rw [if_neg k1, if_neg k2, if_neg k3]] at hl ⊢
    rw [show (Ex.leaf n).good = (nrmQ n.a && nrmQ n.b && (nrmQ n.c && nrmQ n.e)) from by unfold Ex.good; rw [if_neg k1, if_pos k4]]
    have q : ([104, 97, 108, 102] : List UInt8).length = 4 := rfl
    rw [List.length_append] at hl
    refine PuH.intro Tryz.func160 rfl (by kernel_rfl) fun C hC => ?_
    repeat (refine A1 ⟨?_⟩; intros)
    refine Wo (ov_idxS (cs' := ndx n) rfl rfl (by omega) (by omega) hcut hne) ?_
    repeat (refine A1 ⟨?_⟩; intros)
    refine Wo (ov_buildA (e := 9) (len := 5) (cs := sgns) (by kernel_rfl) (by repeat (first | exact Parts.nil | (apply Parts.cons; exact Eq.refl (lit _); infer_instance))) (by exact rfl)) ?_
    repeat (refine A1 ⟨?_⟩; intros)
    refine WfH (putW_pu h [104, 97, 108, 102] (by omega)) ?_
    rintro _ _ ⟨rfl, h1⟩
    refine WPL.perm List.perm_append_comm ?_
    simp only [List.cons_append, List.nil_append]
    repeat (refine A1 ⟨?_⟩; intros)
    refine WfX (points_pu h1 n.a n.b n.c n.e na nb nc ne hL (by rw [List.length_append]; omega)) ?_ ?_
    · rintro _ _ ⟨g, rfl, h'⟩
      simp only [List.cons_append, List.nil_append]
      repeat (refine A1 ⟨?_⟩; intros)
      rw [List.append_assoc] at h'
      exact endHN _ _ end0 (by repeat (first | exact List.Sublist.refl _ | exact List.sublist_append_left _ _ | refine List.Sublist.cons _ ?_)) ⟨g, rfl, h'⟩
    · rintro _ _ ⟨g, rfl⟩
      rw [hC]
      exact ⟨g, rfl⟩
theorem part1_pu {ns : List Nd} {w j d b3 b4 b6 b7 : Nat} {x : Ex} {n : Nd} {l : List UInt8} {H : LH} (hns : ns.length ≤ 100000) (hx : n.x = j) (hp : PartOk ns w x j) (hat : ns[j]? = some x.top) (h : Wtr w l d H) (hd : d + pdp 3 x ≤ 200) (hl : l.length + x.txt.length + 2 * x.size + 2 ≤ 80000000) :
    PuH Tryz.prog 211 [lit (.pointer (some ⟨b3, 0, none⟩)), lit (.pointer (some ⟨b4, 0, none⟩)), lit (.pointer (some ⟨b6, 0, none⟩))]
      ([(b7, 293, sgns), (b6, 75, ndx n), (b4, 52, [sl (ns.map ndx).flatten ns.length]), (b3, 144, [lit (.pointer (some ⟨w, 0, none⟩))])] ++ H)
      (fun r H' => x.good = true ∧ r = Ab.tup [] ∧ ∃ H2, H' = [(b7, 293, sgns), (b6, 75, ndx n), (b4, 52, [sl (ns.map ndx).flatten ns.length]), (b3, 144, [lit (.pointer (some ⟨w, 0, none⟩))])] ++ H2 ∧ Wtr w (l ++ par (decide (rk x.top < 3)) x.txt) d H2) (fun pv _ => x.good = false ∧ pv = inval) := by
  have c := operand_pu hns hp hat h 3 hd hl
  refine PuH.intro Tryz.func211 rfl (by kernel_rfl) fun C hC => ?_
  simp only [List.cons_append, List.nil_append]
  repeat (refine A1 ⟨?_⟩; intros)
  rw [hx]
  refine WfX c ?_ ?_
  · rintro _ _ ⟨g, rfl, h'⟩
    simp only [List.cons_append, List.nil_append]
    repeat (refine A1 ⟨?_⟩; intros)
    exact endHN _ _ end0 (List.Sublist.refl _) ⟨g, rfl, _, rfl, h'⟩
  · rintro _ _ ⟨g, rfl⟩
    rw [hC]
    exact ⟨g, rfl⟩
theorem part_un {ns : List Nd} (hns : ns.length ≤ 100000) (w : Nat) (n : Nd) (x : Ex) (i : Nat) (hat : (Ex.un n x).At ns i) (ih : ∀ j, x.At ns j → PartOk ns w x j) : PartOk ns w (.un n x) i := fun d l H h hd hl => by
    obtain ⟨hat, hk, j, hx, hxa⟩ := hat
    have hp := ih j hxa
    have hil : i < ns.length := (List.getElem?_eq_some_iff.1 hat).1
    have hcut := flat_at (f := ndx) (n := 19) ndx_len hat
    have hne : (ns.map ndx).flatten ≠ [] := flat_ne ndx_len (by omega) (fun e => by rw [e] at hil; simp at hil)
    have p1 := par_len (decide (rk x.top < 3)) x.txt
    rw [show (Ex.un n x).txt = [126] ++ par (decide (rk x.top < 3)) x.txt from rfl] at hl ⊢
    rw [show (Ex.un n x).good = x.good from rfl]
    rw [show (Ex.un n x).size = 1 + x.size from rfl] at hl
    rw [show (Ex.un n x).dep = pdp 3 x + 1 from rfl] at hd
    have q : ([126] : List UInt8).length = 1 := rfl
    rw [List.length_append] at hl
    have q1 : (l ++ [126]).length = l.length + 1 := by simp
    refine PuH.intro Tryz.func160 rfl (by kernel_rfl) fun C hC => ?_
    repeat (refine A1 ⟨?_⟩; intros)
    refine Wo (ov_idxS (cs' := ndx n) rfl rfl (by omega) (by omega) hcut hne) ?_
    repeat (refine A1 ⟨?_⟩; intros)
    refine Wo (ov_buildA (e := 9) (len := 5) (cs := sgns) (by kernel_rfl) (by repeat (first | exact Parts.nil | (apply Parts.cons; exact Eq.refl (lit _); infer_instance))) (by exact rfl)) ?_
    repeat (refine A1 ⟨?_⟩; intros)
    refine WfH (putW_pu h [126] (by omega)) ?_
    rintro _ _ ⟨rfl, h1⟩
    refine WPL.perm List.perm_append_comm ?_
    simp only [List.cons_append, List.nil_append]
    repeat (refine A1 ⟨?_⟩; intros)
    refine WPL.perm (List.perm_append_comm (l₁ := [_, _, _, _])) ?_
    refine WfX (deeper_pu h1 (by omega) (fun H1 g1 => part1_pu hns hx hp hxa.top g1 (by omega) (by omega))) ?_ ?_ rfl (Tk.same _)
    · rintro _ _ ⟨g, rfl, H2, rfl, h'⟩
      simp only [List.nil_append]
      rw [List.append_assoc] at h'
      repeat (refine A1 ⟨?_⟩; intros)
      exact endHN _ _ end0 (List.sublist_append_left _ _) ⟨g, rfl, h'⟩
    · rintro _ _ ⟨g, rfl⟩
      rw [hC]
      exact ⟨g, rfl⟩
theorem sgns_at {op : Int} (h1 : 1 ≤ op) (h4 : op ≤ 4) : sgns[op.toNat * 1]? = some (str (sgn op)) := by
  have h : op = 1 ∨ op = 2 ∨ op = 3 ∨ op = 4 := by omega
  rcases h with rfl | rfl | rfl | rfl <;> rfl
theorem sgn_len (op : Int) : (sgn op).length = 3 := by
  unfold sgn
  split
  · rfl
  split
  · rfl
  split <;> rfl
theorem part_bi {ns : List Nd} (hns : ns.length ≤ 100000) (w : Nat) (n : Nd) (x y : Ex) (i : Nat) (hat : (Ex.bi n x y).At ns i) (ihx : ∀ j, x.At ns j → PartOk ns w x j) (ihy : ∀ j, y.At ns j → PartOk ns w y j) : PartOk ns w (.bi n x y) i := fun d l H h hd hl => by
    obtain ⟨hat, hk, ⟨ho1, ho4⟩, j, k, hx, hy, hxa, hya⟩ := hat
    have hpx := ihx j hxa
    have hpy := ihy k hya
    have hil : i < ns.length := (List.getElem?_eq_some_iff.1 hat).1
    have hcut := flat_at (f := ndx) (n := 19) ndx_len hat
    have hne : (ns.map ndx).flatten ≠ [] := flat_ne ndx_len (by omega) (fun e => by rw [e] at hil; simp at hil)
    have c0 := rank_pu n
    change Pu _ _ _ (lit (.int .i64 (rk n))) at c0
    have hrk : 1 ≤ rk n ∧ rk n ≤ 2 := by unfold rk; rw [if_pos hk]; split <;> omega
    have p1 := par_len (decide (rk x.top < rk n)) x.txt
    have p2 := par_len (decide (rk y.top < rk n + 1)) y.txt
    have p3 := sgn_len n.op
    have hsg := sgns_at ho1 ho4
    rw [show (Ex.bi n x y).txt = par (decide (rk x.top < rk n)) x.txt ++ sgn n.op ++ par (decide (rk y.top < rk n + 1)) y.txt from rfl] at hl ⊢
    rw [show (Ex.bi n x y).good = (x.good && y.good) from rfl]
    rw [show (Ex.bi n x y).size = 1 + x.size + y.size from rfl] at hl
    rw [show (Ex.bi n x y).dep = max (pdp (rk n) x) (pdp (rk n + 1) y) from rfl] at hd
    have hd1 : d + pdp (rk n) x ≤ 200 := Nat.le_trans (Nat.add_le_add_left (Nat.le_max_left _ _) d) hd
    have hd2 : d + pdp (rk n + 1) y ≤ 200 := Nat.le_trans (Nat.add_le_add_left (Nat.le_max_right _ _) d) hd
    clear hd
    rw [List.length_append, List.length_append] at hl
    have q1 : (l ++ par (decide (rk x.top < rk n)) x.txt).length = l.length + (par (decide (rk x.top < rk n)) x.txt).length := List.length_append
    have q2 : (l ++ par (decide (rk x.top < rk n)) x.txt ++ sgn n.op).length = l.length + (par (decide (rk x.top < rk n)) x.txt).length + (sgn n.op).length := by rw [List.length_append, q1]
    generalize hpd1 : par (decide (rk x.top < rk n)) x.txt = s1 at *
    generalize hpd2 : par (decide (rk y.top < rk n + 1)) y.txt = s2 at *
    have c1 := operand_pu hns hpx hxa.top h (rk n) hd1 (by omega)
    rw [hpd1] at c1
    generalize hrn : rk n = r at *
    refine PuH.intro Tryz.func160 rfl (by kernel_rfl) fun C hC => ?_
    repeat (refine A1 ⟨?_⟩; intros)
    refine Wo (ov_idxS (cs' := ndx n) rfl rfl (by omega) (by omega) hcut hne) ?_
    repeat (refine A1 ⟨?_⟩; intros)
    refine Wo (ov_buildA (e := 9) (len := 5) (cs := sgns) (by kernel_rfl) (by repeat (first | exact Parts.nil | (apply Parts.cons; exact Eq.refl (lit _); infer_instance))) (by exact rfl)) ?_
    repeat (first | (refine A1 ⟨?_⟩; intros) | (refine Wcx (c0) ?_) | (refine Wdcx (c0) ?_) | (refine Wcgx (c0) ?_) | (refine Wdcgx (c0) ?_))
    rw [hx]
    refine WfX c1 ?_ ?_
    · rintro _ _ ⟨g1, rfl, h1⟩
      simp only [List.cons_append, List.nil_append]
      repeat (first | (refine AS ⟨?_⟩; intros) | (refine O1 ⟨?_⟩; intros))
      refine WdN 6 ?_
      repeat (refine A1 ⟨?_⟩; intros)
      refine Wdo (ov_idxA (e := 9) (len := 5) (by kernel_rfl) rfl rfl (by omega) (by omega)) ?_
      refine Wdo (ov_loadL rfl (by (first | exact List.mem_cons_self | exact (List.mem_cons_of_mem _ List.mem_cons_self) | exact (List.mem_cons_of_mem _ (List.mem_cons_of_mem _ List.mem_cons_self)) | exact (List.mem_cons_of_mem _ (List.mem_cons_of_mem _ (List.mem_cons_of_mem _ List.mem_cons_self))) | exact (List.mem_cons_of_mem _ (List.mem_cons_of_mem _ (List.mem_cons_of_mem _ (List.mem_cons_of_mem _ List.mem_cons_self)))) | exact (List.mem_cons_of_mem _ (List.mem_cons_of_mem _ (List.mem_cons_of_mem _ (List.mem_cons_of_mem _ (List.mem_cons_of_mem _ List.mem_cons_self))))) | exact (List.mem_cons_of_mem _ (List.mem_cons_of_mem _ (List.mem_cons_of_mem _ (List.mem_cons_of_mem _ (List.mem_cons_of_mem _ (List.mem_cons_of_mem _ List.mem_cons_self)))))) | exact (List.mem_cons_of_mem _ (List.mem_cons_of_mem _ (List.mem_cons_of_mem _ (List.mem_cons_of_mem _ (List.mem_cons_of_mem _ (List.mem_cons_of_mem _ (List.mem_cons_of_mem _ List.mem_cons_self))))))))) hsg) ?_
      repeat (refine A1 ⟨?_⟩; intros)
      simp only [List.drop_succ_cons, List.drop_zero]
      refine WfH (putW_pu h1 (sgn n.op) (by omega)) ?_
      rintro _ _ ⟨rfl, h2⟩
      refine WPL.perm List.perm_append_comm ?_
      simp only [List.cons_append, List.nil_append]
      have c2 := operand_pu hns hpy hya.top h2 (r + 1) hd2 (by omega)
      rw [hpd2] at c2
      repeat (refine A1 ⟨?_⟩; intros)
      rw [hy]
      refine WfX c2 ?_ ?_
      · rintro _ _ ⟨g2, rfl, h3⟩
        simp only [List.cons_append, List.nil_append]
        rw [List.append_assoc, List.append_assoc, ← List.append_assoc s1] at h3
        repeat (refine A1 ⟨?_⟩; intros)
        exact endHN _ _ end0 (by repeat (first | exact List.Sublist.refl _ | exact List.sublist_append_left _ _ | refine List.Sublist.cons _ ?_)) ⟨by rw [g1, g2]; rfl, rfl, h3⟩
      · rintro _ _ ⟨g, rfl⟩
        rw [hC]
        exact ⟨by rw [g, Bool.and_false], rfl⟩
    · rintro _ _ ⟨g, rfl⟩
      rw [hC]
      exact ⟨by rw [g]; rfl, rfl⟩
theorem part_pu {ns : List Nd} {L : Nat} (hok : ∀ n ∈ ns, n.ok L) (hL : L ≤ 200) (hns : ns.length ≤ 100000) (w : Nat) : ∀ (t : Ex) (i : Nat), t.At ns i → PartOk ns w t i
  | .leaf n, i, hat => part_leaf hok hL hns w n i hat
  | .un n x, i, hat => part_un hns w n x i hat (part_pu hok hL hns w x)
  | .bi n x y, i, hat => part_bi hns w n x y i hat (part_pu hok hL hns w x) (part_pu hok hL hns w y)
end Go.Ab
/- An expression's list and its tree; the writer's expr. -/
namespace Go.Ab
open Go.Proofs
set_option linter.unusedSectionVars false
set_option linter.unusedVariables false
set_option linter.unusedSimpArgs false
variable [Base]
theorem okN_k {n : Nd} (h : okN n = true) : (1 ≤ n.k ∧ n.k ≤ 6) ∧ (n.k = 6 → 1 ≤ n.op ∧ n.op ≤ 4) := by
  unfold okN at h
  simp only [Bool.and_eq_true, Bool.or_eq_true, decide_eq_true_eq] at h
  obtain ⟨⟨⟨⟨⟨h1, _⟩, _⟩, h2⟩, _⟩, _⟩ := h
  refine ⟨h1, fun hk => ?_⟩
  rcases h2 with h2 | h2
  · exact ⟨h2.1.2, h2.2⟩
  · exact absurd hk h2.1
/-- each number of the list so far is the end of a tree of the size that is noted -/
def Trees (ns : List Nd) (ss : List Nat) : Prop := ∀ j, j < ss.length → ∃ t : Ex, t.At ns j ∧ t.size = ss.getD j 0
theorem step1_trees {ns : List Nd} {ss : List Nat} {n : Nd} {s : Nat} (hat : ns[ss.length]? = some n) (h : step1 ss n = some s) (hT : Trees ns ss) : ∃ t : Ex, t.At ns ss.length ∧ t.size = s := by
  unfold step1 at h
  by_cases e : okN n = true
  · rw [if_pos e] at h
    obtain ⟨hk, ho⟩ := okN_k e
    by_cases k5 : n.k = 5
    · rw [if_pos k5] at h
      by_cases hc : 0 < ss.length ∧ n.x = (ss.length : Int) - 1
      · rw [if_pos hc] at h
        obtain ⟨x, hx, hs⟩ := hT (ss.length - 1) (by omega)
        refine ⟨.un n x, ⟨hat, k5, ss.length - 1, by omega, hx⟩, ?_⟩
        simp only [Ex.size, hs]
        exact Option.some.inj h
      · rw [if_neg hc] at h; cases h
    · rw [if_neg k5] at h
      by_cases k6 : n.k = 6
      · rw [if_pos k6] at h
        generalize hs1 : ss.getD (ss.length - 1) 0 = s1 at h
        by_cases hc : (0 < ss.length ∧ n.y = (ss.length : Int) - 1) ∧ s1 + 1 ≤ ss.length ∧ n.x = (ss.length : Int) - 1 - (s1 : Nat)
        · rw [if_pos hc] at h
          obtain ⟨⟨c1, c2⟩, c3, c4⟩ := hc
          obtain ⟨y, hy, hsy⟩ := hT (ss.length - 1) (by omega)
          obtain ⟨x, hx, hsx⟩ := hT (ss.length - 1 - s1) (by omega)
          refine ⟨.bi n x y, ⟨hat, k6, ho k6, ss.length - 1 - s1, ss.length - 1, by omega, by omega, hx, hy⟩, ?_⟩
          have := Option.some.inj h
          simp only [Ex.size, hsx, hsy, hs1]
          omega
        · rw [if_neg hc] at h; cases h
      · rw [if_neg k6] at h
        exact ⟨.leaf n, ⟨hat, hk.1, by omega⟩, Option.some.inj h⟩
  · rw [if_neg e] at h; cases h
theorem sizes_trees {ns : List Nd} : ∀ (rest : List Nd) (ss out : List Nat), ns.drop ss.length = rest → ss.length ≤ ns.length → sizes rest ss = some out → Trees ns ss → Trees ns out ∧ out.length = ns.length
  | [], ss, out, hd, hl, h, hT => by
    unfold sizes at h
    obtain rfl := Option.some.inj h
    refine ⟨hT, ?_⟩
    have := congrArg List.length hd
    simp at this
    omega
  | n :: rest, ss, out, hd, hl, h, hT => by
    rw [sizes_cons] at h
    have hat : ns[ss.length]? = some n := by
      have := congrArg (·[0]?) hd
      simpa using this
    have hlt : ss.length < ns.length := (List.getElem?_eq_some_iff.1 hat).1
    cases hs : step1 ss n with
    | none => rw [hs] at h; cases h
    | some s =>
      rw [hs] at h
      obtain ⟨t, ht, hts⟩ := step1_trees hat hs hT
      refine sizes_trees rest (ss ++ [s]) out ?_ (by simp; omega) h ?_
      · rw [List.length_append, List.length_singleton]
        have := drop_cons hat
        rw [hd] at this
        exact ((List.cons.inj this).2).symm
      · intro j hj
        simp only [List.length_append, List.length_singleton] at hj
        by_cases hjl : j < ss.length
        · obtain ⟨t', h1, h2⟩ := hT j hjl
          refine ⟨t', h1, ?_⟩
          rw [h2]; simp [List.getD, List.getElem?_append_left hjl]
        · have : j = ss.length := by omega
          subst this
          exact ⟨t, ht, by rw [hts]; simp [List.getD]⟩
theorem okL_tree {ns : List Nd} (h : okL ns = true) : 0 < ns.length ∧ ∃ t : Ex, t.At ns (ns.length - 1) ∧ t.size = ns.length := by
  unfold okL at h
  cases hs : sizes ns [] with
  | none => rw [hs] at h; cases h
  | some out =>
    rw [hs] at h
    simp only [Bool.and_eq_true, decide_eq_true_eq] at h
    obtain ⟨hT, hl⟩ := sizes_trees ns [] out rfl (Nat.zero_le _) hs (fun j hj => by simp at hj)
    obtain ⟨t, h1, h2⟩ := hT (ns.length - 1) (by omega)
    exact ⟨h.1, t, h1, by rw [h2]; exact h.2⟩
theorem expr_f {ns : List Nd} {L w d : Nat} {l : List UInt8} {H : LH} (hok : ∀ n ∈ ns, n.ok L) (hL : L ≤ 200) (hns : ns.length ≤ 100000) (h : Wtr w l d H) (hf : okL ns = false) :
    PuH Tryz.prog 107 [lit (.pointer (some ⟨w, 0, none⟩)), sl (ns.map ndx).flatten ns.length] H (fun _ _ => False) (fun pv _ => pv = inval) := by
  refine PuH.intro Tryz.func107 rfl (by kernel_rfl) fun C hC => ?_
  repeat (refine A1 ⟨?_⟩; intros)
  refine WfX (checkList_pu ns hok (by omega) hns) ?_ ?_
  · rintro _ _ ⟨e, _⟩
    rw [hf] at e; cases e
  · rintro _ _ ⟨_, rfl⟩
    rw [hC]
theorem expr_t {ns : List Nd} {L w d : Nat} {l : List UInt8} {H : LH} (hok : ∀ n ∈ ns, n.ok L) (hL : L ≤ 200) (hns : ns.length ≤ 100000) (h : Wtr w l d H) (ht : okL ns = true) {t : Ex} (hat : t.At ns (ns.length - 1)) (hsz : t.size = ns.length) (hdp : t.dep ≤ 200) (hl : l.length + t.txt.length ≤ 70000000) :
    PuH Tryz.prog 107 [lit (.pointer (some ⟨w, 0, none⟩)), sl (ns.map ndx).flatten ns.length] H (fun r H' => t.good = true ∧ r = Ab.tup [] ∧ Wtr w (l ++ t.txt) 0 H') (fun pv _ => t.good = false ∧ pv = inval) := by
  have hpos := (okL_tree ht).1
  have hp := part_pu hok hL (by omega) w t _ hat
  obtain ⟨a, s, Hb, ha, hb, rfl⟩ := h
  have c := hp 0 l _ ⟨a, s, Hb, ha, hb, rfl⟩ (by omega) (by omega)
  refine PuH.intro Tryz.func107 rfl (by kernel_rfl) fun C hC => ?_
  repeat (refine A1 ⟨?_⟩; intros)
  refine WfX (checkList_pu ns hok (by omega) (by omega)) ?_ ?_
  · rintro _ _ ⟨_, rfl, rfl⟩
    simp only [List.cons_append, List.nil_append, List.append_nil]
    repeat (refine A1 ⟨?_⟩; intros)
    rw [show ((ns.length : Int) - 1) = ((ns.length - 1 : Nat) : Int) by omega]
    refine WfX c ?_ ?_
    · rintro _ _ ⟨g, rfl, h'⟩
      simp only [List.cons_append, List.nil_append]
      repeat (refine A1 ⟨?_⟩; intros)
      exact endHN _ _ end0 (List.Sublist.refl _) ⟨g, rfl, h'⟩
    · rintro _ _ ⟨g, rfl⟩
      rw [hC]
      exact ⟨g, rfl⟩
  · rintro _ _ ⟨e, _⟩
    rw [ht] at e; cases e
end Go.Ab
/- strings.Builder: Len and String (String freezes the row: the block leaves the heap's list). -/
namespace Go.Ab
open Go.Proofs
set_option linter.unusedSectionVars false
set_option linter.unusedVariables false
set_option linter.unusedSimpArgs false
variable [Base]
theorem getD_cell {w : World} {b : Nat} {T : TypeId} {arr : Array Value} {l : List UInt8} {rest : List SV} {m : Mem} (hb : w.heap[b]? = some (.cells arr T (0, 0))) (hall : All2 m (bys l ++ rest) arr.toList) (j : Nat) (y : UInt8) (hj : l[j]? = some y) : w.cell? ((⟨b, 0, none⟩ : Addr).add j) = some (.int .u8 y.toNat) := by
  rw [add_none, cell_of w b _ arr _ _ hb]
  have hjl : j < l.length := (List.getElem?_eq_some_iff.1 hj).1
  have hg : (bys l ++ rest)[j]? = some (lit (.int .u8 (y.toNat : Nat))) := by
    rw [List.getElem?_append_left (by rw [bys_len]; exact hjl)]
    simp [bys, hj]
  obtain ⟨v, hv, hp, _⟩ := hall.get hg
  rw [lit_p] at hp
  subst hp
  simpa using hv
section
variable {P : Program} {C : Ctx} {n : Nat} {F : Fr} {H : LH} {ops : Array Oper} {K : Fr → LH → Prop} {rest : List Oper} {ty : TypeId} {pos : String} {aft : Array Edge}
theorem freeze_other (w : World) (b n k : Nat) (h : k ≠ b) : (w.freeze ⟨b, 0, none⟩ n).heap[k]? = w.heap[k]? := by
  unfold World.freeze
  split
  · rfl
  · simp only [Array.getElem?_modify]; rw [if_neg (fun e => h e.symm)]
theorem WPL.unsafeStr {d : Nat} {x y : Operand} {pt it e : TypeId} {g : Nat} {l : List UInt8} {more : List SV} {H' : LH} (hp : P.underlying pt = some (.pointer e)) (hc : P.cellsOf e = 1) (hx : ev F x = lit (.pointer (some ⟨g, 0, none⟩))) (hy : ev F y = lit (.int .i64 l.length)) (hl : l ≠ []) (hl2 : l.length ≤ 9223372036854775807)
    (hdel : HDel g e (bys l ++ more) H H') (k : WPL P C n ops rest K (upd F d (str l)) H') (hd : Nat.blt d n = true) :
    WPL P C n ops (⟨some d, .call ⟨.builtin .unsafeString, #[x, y], #[pt, it]⟩, ty, pos, aft, none⟩ :: rest) K F H := by
  unfold WPL
  intro a w hs Q hq
  refine wpList_plain rfl fun K' hK' => ?_
  have hs' := hs.drop hdel
  obtain ⟨hdef, hn, m, h1, h2, h3, h4, h5⟩ := hs
  have hpp : ∀ x, (ev F x).p m (a.eval x) := fun x => by
    cases x with
    | tmp t => exact h5 t
    | const v => unfold ev lit; rfl
    | global g => unfold ev lit; rfl
    | func f => unfold ev lit; rfl
  have e0 := hpp x; rw [hx, lit_p] at e0
  have e1 := hpp y; rw [hy, lit_p] at e1
  obtain ⟨hmb, arr, hb, hall⟩ := h2.2 _ hdel.mem
  have hlen := hall.length
  simp only [List.length_append, bys_len, Array.length_toList] at hlen
  have hsh : w.shape? g = some (e, arr.size) := by simp [World.shape?, hb]
  have hrun := Lib.run_unsafeString_row (P := P) (w := w) pt it ty e hp hc g arr.size hsh l hl (by omega) hl2 (fun j y hj => getD_cell hb hall j y hj)
  unfold Oper.wp
  have hexec : execOp a.eval (⟨some d, .call ⟨.builtin .unsafeString, #[x, y], #[pt, it]⟩, ty, pos, aft, none⟩ : Oper) = (do let v ← Builtin.unsafeString_ #[pt, it] ty #[a.eval x, a.eval y]; pure (.value v)) := by
    simp [execOp, resolve, invoke, builtin]
  rw [hexec, e0, e1]
  simp only [Sem.run_bind, hrun, Result.andThen_ok, Sem.run_pure]
  unfold WPL at k
  have hkeys := hdel.keys h2.1
  refine hK' _ _ (k (a.put (some d) (.string ⟨l.toArray⟩)) _ ⟨hdef, by simpa [Act.put] using hn, m, ?_, ?_, ?_, fun e he => h4 e (hdel.sub e he), fun t => ?_⟩ Q hq)
  · exact ⟨fun j o hj => by rw [freeze_other _ _ _ _ (fun e => by rw [e, hmb] at hj; cases hj)]; exact h1 j o hj, h1.base⟩
  · refine ⟨hkeys.1, fun e he => ?_⟩
    obtain ⟨q1, arr', q2, q3⟩ := h2.2 e (hdel.sub e he)
    exact ⟨q1, arr', by rw [freeze_other _ _ _ _ (hkeys.2 e he)]; exact q2, q3⟩
  · have hz : (w.freeze ⟨g, 0, none⟩ l.length).heap.size = w.heap.size := by unfold World.freeze; split <;> simp
    have ho : (w.freeze ⟨g, 0, none⟩ l.length).os = w.os ∧ (w.freeze ⟨g, 0, none⟩ l.length).tape = w.tape ∧ (w.freeze ⟨g, 0, none⟩ l.length).output = w.output := by unfold World.freeze; split <;> exact ⟨rfl, rfl, rfl⟩
    refine ⟨h3.le, h3.old, ho.1.trans h3.os, ho.2.1.trans h3.tape, ho.2.2.trans h3.output, hz ▸ h3.size, fun j hlt hnj => ?_⟩
    rw [freeze_other _ _ _ _ ?_]
    · exact h3.block j hlt hnj
    · rintro rfl
      rcases h4 _ hdel.mem with h | h
      · exact hnj h
      · exact absurd hlt (Nat.not_lt.2 h)
  · rw [getD_put (Nat.lt_of_lt_of_le (Nat.blt_eq.mp hd) hn)]
    unfold Ab.upd
    by_cases ht : t = d
    · subst ht; rw [if_pos rfl, Nat.beq_refl]; exact lit_p.2 rfl
    · rw [if_neg ht]
      have : Nat.beq t d = false := by
        cases hbb : Nat.beq t d with
        | false => rfl
        | true => exact absurd (Nat.eq_of_beq_eq_true hbb) ht
      rw [this]
      exact h5 t
end
theorem len_pu {w d : Nat} {l : List UInt8} {H : LH} (h : Wtr w l d H) : PuH Tryz.prog 109 [lit (.pointer (some ⟨w, 0, none⟩))] H (fun r H' => r = lit (.int .i64 l.length) ∧ H' = H) noX := by
  obtain ⟨a, s, Hb, ha, hb, rfl⟩ := h
  rcases hb with ⟨rfl, rfl, rfl⟩ | ⟨hne, b, c, hlc, hc, rfl, rfl⟩
  · refine PuH.intro Tryz.func109 rfl (by kernel_rfl) fun C hC => ?_
    repeat (refine A1 ⟨?_⟩; intros)
    exact endHR _ _ (end1 (RV.tmp rfl) (Le.refl _)) (List.Sublist.refl _) ⟨rfl, rfl⟩
  · refine PuH.intro Tryz.func109 rfl (by kernel_rfl) fun C hC => ?_
    repeat (refine A1 ⟨?_⟩; intros)
    exact endHR _ _ (end1 (RV.tmp rfl) (Le.refl _)) (List.Sublist.refl _) ⟨rfl, rfl⟩
theorem ov_sliceData {P : Program} {F : Fr} {H : LH} {ty : TypeId} {x : Operand} {b k c : Nat} {ts : Array TypeId} (hc : c ≠ 0) (hx : ev F x = lit (.slice (some ⟨b, 0, none⟩) k c)) : OpV P (.call ⟨.builtin .unsafeSliceData, #[x], ts⟩) ty F H (lit (.pointer (some ⟨b, 0, none⟩))) :=
  OpV.pure fun m w o a ho _ _ _ h => by
    have h0 := h x (by simp [Op.operands, Call.operands]); rw [hx, lit_p] at h0
    have hrun := Lib.run_unsafeSliceData_row (P := P) (w := w) ts o.type ⟨b, 0, none⟩ k c hc
    exact ⟨_, by simp [execOp, ho, resolve, invoke, builtin, h0, hrun], lit_p.2 rfl⟩
theorem bstring_pu {w d : Nat} {l : List UInt8} {H : LH} (h : Wtr w l d H) (hne : l ≠ []) (hl : l.length ≤ 1000000000) : PuH Tryz.prog 110 [lit (.pointer (some ⟨w, 0, none⟩))] H (fun r H' => r = str l) noX := by
  obtain ⟨a, s, Hb, ha, hb, rfl⟩ := h
  rcases hb with ⟨rfl, _⟩ | ⟨_, b, c, hlc, hc, rfl, rfl⟩
  · exact absurd rfl hne
  have hlp := List.length_pos_iff.2 hne
  refine PuH.intro Tryz.func110 rfl (by kernel_rfl) fun C hC => ?_
  repeat (first | (refine AS ⟨?_⟩; intros) | (refine O1 ⟨?_⟩; intros))
  refine WdN 10 ?_
  repeat (refine A1 ⟨?_⟩; intros)
  refine Wdo (ov_sliceData (by omega) rfl) ?_
  repeat (refine A1 ⟨?_⟩; intros)
  simp only [List.drop_succ_cons, List.drop_zero]
  refine WPL.unsafeStr (by kernel_rfl) (by kernel_rfl) rfl rfl hne (by omega) (.there _ (.here _)) ?_ rfl
  repeat (refine A1 ⟨?_⟩; intros)
  exact endHR _ _ (end1 (RV.tmp rfl) (Le.refl _)) (List.nil_sublist _) rfl
end Go.Ab
