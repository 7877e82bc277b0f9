/- Texts laid one behind the other: Chr, Res, Name, Part, Expr, StrB, WExpr, Parse, LexS, Mix. -/
import Derived.Test.YtebghnhocigmlaaGreatDoorB03
import Derived.Test.YtebghnhocigmlaaGreatDoorB10
import Derived.Test.YtebghnhocigmlaaGreatDoorB04
set_option linter.unusedSectionVars false
set_option linter.unusedVariables false
set_option linter.unusedSimpArgs false
namespace Go.Ab
open Go.Proofs
variable [Base]
def letterN (b : Nat) : Bool := decide (97 ≤ b ∧ b ≤ 122 ∨ 65 ≤ b ∧ b ≤ 90 ∨ b = 95)
abbrev u8 (b : Nat) : SV := lit (.int .u8 (b : Int))
def idxB (l : List UInt8) (b : Nat) : Int := match (List.range (⟨l.toArray⟩ : ByteArray).size).find? fun i => (⟨l.toArray⟩ : ByteArray)[i]! == (b : Int).toNat.toUInt8 with
  | some i => (i : Int)
  | none => -1
theorem run_idxB (l : List UInt8) {b : Nat} (hb : b < 256) (w : World) : (Extern.BytealgIndexByte.indexByte #[.string ⟨l.toArray⟩, .int .u8 (b : Int)]).run Tryz.prog w = .ok (.int .i64 (idxB l b)) w := by
  have hdef : Extern.BytealgIndexByte.indexByte #[.string ⟨l.toArray⟩, .int .u8 (b : Int)] = (match (List.range (⟨l.toArray⟩ : ByteArray).size).find? fun i => (⟨l.toArray⟩ : ByteArray)[i]! == (b : Int).toNat.toUInt8 with
    | some i => pure (goInt i)
    | none => pure (goInt (-1))) := rfl
  rw [hdef]
  unfold idxB
  split <;> rfl
section
variable {F : Fr} {H : LH} {ty : TypeId}
theorem ov_idxB {x y : Operand} {l : List UInt8} {b : Nat} {tys : Array TypeId} (hx : ev F x = str l) (hy : ev F y = u8 b) (hb : b < 256) : OpV Tryz.prog (.call ⟨.value (.func 155), [x, y].toArray, tys⟩) ty F H (lit (.int .i64 (idxB l b))) :=
  OpV.pure fun m w o a ho _ _ _ h => by
    have h0 := h x (by simp [Op.operands, Call.operands]); rw [hx, lit_p] at h0
    have h1 := h y (by simp [Op.operands, Call.operands]); rw [hy, lit_p] at h1
    have h8 := @run_callFunc_extern Tryz.prog 155 _ Extern.BytealgIndexByte.indexByte Tryz.func155 (by kernel_rfl) (by kernel_rfl) (by kernel_rfl) (by kernel_rfl)
    refine ⟨_, ?_, lit_p.2 rfl⟩
    have := h8 #[a.eval x, a.eval y] w
    rw [h0, h1, run_idxB l hb] at this
    simp only [execOp, ho, resolve, Sem.run_bind, Sem.run_pure, Result.andThen_ok]
    have e1 : a.eval (.func 155) = .func (.func 155) #[] #[] := rfl
    simp only [e1, Deferred.ofValue, Sem.run_pure, Result.andThen_ok, invoke, List.map_toArray, List.map_cons, List.map_nil, Array.empty_append, Array.append_empty, h0, h1, this]
end
theorem sliteIdx_pu (l : List UInt8) {b : Nat} (hb : b < 256) : Pu Tryz.prog 101 [str l, u8 b] (lit (.int .i64 (idxB l b))) := by
  refine Pu.intro Tryz.func101 rfl (by kernel_rfl) fun C => ?_
  repeat (refine A1 ⟨?_⟩; intros)
  refine Wo (ov_idxB rfl rfl hb) ?_
  repeat (refine A1 ⟨?_⟩; intros)
  ((first | refine endR ?_ | refine endN ?_); exact end1 (RV.tmp rfl) (Le.refl _))
theorem sIdx_pu (l : List UInt8) {b : Nat} (hb : b < 256) : Pu Tryz.prog 255 [str l, u8 b] (lit (.int .i64 (idxB l b))) := by
  refine Pu.intro Tryz.func255 rfl (by kernel_rfl) fun C => ?_
  repeat (first | (refine A1 ⟨?_⟩; intros) | (refine Wcx (sliteIdx_pu l hb) ?_) | (refine Wdcx (sliteIdx_pu l hb) ?_) | (refine Wcgx (sliteIdx_pu l hb) ?_) | (refine Wdcgx (sliteIdx_pu l hb) ?_))
  ((first | refine endR ?_ | refine endN ?_); exact end1 (RV.tmp rfl) (Le.refl _))
def signs : List UInt8 := [40, 41, 123, 125, 44, 59, 61, 43, 45, 42, 47, 94, 126]
def clsN (b : Nat) : Int :=
  if b = 32 ∨ b = 9 ∨ b = 13 ∨ b = 10 then 1 else if b = 35 then 2 else if 48 ≤ b ∧ b ≤ 57 then 4 else if 97 ≤ b ∧ b ≤ 122 ∨ 65 ≤ b ∧ b ≤ 90 ∨ b = 95 then 3 else if 0 ≤ idxB signs b then 5 else 0
set_option maxHeartbeats 4000000 in
theorem classOf_pu {b : Nat} (hb : b < 256) : Pu Tryz.prog 202 [u8 b] (lit (.int .i64 (clsN b))) := by
  unfold clsN
  by_cases h1 : b = 32 ∨ b = 9 ∨ b = 13 ∨ b = 10
  · rw [if_pos h1]
    rcases h1 with rfl | rfl | rfl | rfl <;>
    · refine Pu.intro Tryz.func202 rfl (by kernel_rfl) fun C => ?_
      repeat (refine A1 ⟨?_⟩; intros)
      ((first | refine endR ?_ | refine endN ?_); exact end1 (RV.tmp rfl) (Le.refl _))
  · rw [if_neg h1]
    by_cases h2 : b = 35
    · rw [if_pos h2]
      subst h2
      refine Pu.intro Tryz.func202 rfl (by kernel_rfl) fun C => ?_
      repeat (refine A1 ⟨?_⟩; intros)
      ((first | refine endR ?_ | refine endN ?_); exact end1 (RV.tmp rfl) (Le.refl _))
    · rw [if_neg h2]
      have ha : b ≠ 32 := by omega
      have hc : b ≠ 9 := by omega
      have hd : b ≠ 13 := by omega
      have he : b ≠ 10 := by omega
      clear h1
      by_cases h3 : 48 ≤ b ∧ b ≤ 57
      · rw [if_pos h3]
        obtain ⟨h3, h4⟩ := h3
        refine Pu.intro Tryz.func202 rfl (by kernel_rfl) fun C => ?_
        repeat (refine A1 ⟨?_⟩; intros)
        ((first | refine endR ?_ | refine endN ?_); exact end1 (RV.tmp rfl) (Le.refl _))
      · rw [if_neg h3]
        by_cases h4 : 97 ≤ b ∧ b ≤ 122
        · rw [if_pos (.inl h4)]
          obtain ⟨h4, h5⟩ := h4
          clear h3
          refine Pu.intro Tryz.func202 rfl (by kernel_rfl) fun C => ?_
          repeat (refine A1 ⟨?_⟩; intros)
          ((first | refine endR ?_ | refine endN ?_); exact end1 (RV.tmp rfl) (Le.refl _))
        · by_cases h5 : 65 ≤ b ∧ b ≤ 90
          · rw [if_pos (.inr (.inl h5))]
            obtain ⟨h5, h6⟩ := h5
            clear h3 h4
            refine Pu.intro Tryz.func202 rfl (by kernel_rfl) fun C => ?_
            repeat (refine A1 ⟨?_⟩; intros)
            ((first | refine endR ?_ | refine endN ?_); exact end1 (RV.tmp rfl) (Le.refl _))
          · by_cases h6 : b = 95
            · rw [if_pos (.inr (.inr h6))]
              subst h6
              clear h3 h4 h5
              refine Pu.intro Tryz.func202 rfl (by kernel_rfl) fun C => ?_
              repeat (refine A1 ⟨?_⟩; intros)
              ((first | refine endR ?_ | refine endN ?_); exact end1 (RV.tmp rfl) (Le.refl _))
            · rw [if_neg (by omega)]
              have key : b < 48 ∨ (57 < b ∧ b < 65) ∨ (90 < b ∧ b < 97) ∨ 122 < b := by omega
              have c := sIdx_pu signs hb
              clear h3 h4 h5
              generalize idxB signs b = z at *
              by_cases hz : 0 ≤ z
              · rw [if_pos hz]
                rcases key with P1 | ⟨P1, P2⟩ | ⟨P1, P2⟩ | P1
                all_goals
                  refine Pu.intro Tryz.func202 rfl (by kernel_rfl) fun C => ?_
                  repeat (first | (refine A1 ⟨?_⟩; intros) | (refine Wcx (c) ?_) | (refine Wdcx (c) ?_) | (refine Wcgx (c) ?_) | (refine Wdcgx (c) ?_))
                  ((first | refine endR ?_ | refine endN ?_); exact end1 (RV.tmp rfl) (Le.refl _))
              · rw [if_neg hz]
                rcases key with P1 | ⟨P1, P2⟩ | ⟨P1, P2⟩ | P1
                all_goals
                  refine Pu.intro Tryz.func202 rfl (by kernel_rfl) fun C => ?_
                  repeat (first | (refine A1 ⟨?_⟩; intros) | (refine Wcx (c) ?_) | (refine Wdcx (c) ?_) | (refine Wcgx (c) ?_) | (refine Wdcgx (c) ?_))
                  ((first | refine endR ?_ | refine endN ?_); exact end1 (RV.tmp rfl) (Le.refl _))
theorem clsN_3 (b : Nat) : decide (clsN b = 3) = letterN b := by
  unfold clsN letterN
  by_cases h1 : b = 32 ∨ b = 9 ∨ b = 13 ∨ b = 10
  · rw [if_pos h1, decide_eq_false (by omega), decide_eq_false (by omega)]
  · rw [if_neg h1]
    by_cases h2 : b = 35
    · rw [if_pos h2, decide_eq_false (by omega), decide_eq_false (by omega)]
    · rw [if_neg h2]
      by_cases h3 : 48 ≤ b ∧ b ≤ 57
      · rw [if_pos h3, decide_eq_false (by omega), decide_eq_false (by omega)]
      · rw [if_neg h3]
        by_cases h4 : 97 ≤ b ∧ b ≤ 122 ∨ 65 ≤ b ∧ b ≤ 90 ∨ b = 95
        · rw [if_pos h4, decide_eq_true rfl, decide_eq_true h4]
        · rw [if_neg h4, decide_eq_false h4]
          split <;> rfl
theorem letter_pu {b : Nat} (hb : b < 256) : Pu Tryz.prog 162 [u8 b] (lit (.bool (letterN b))) := by
  rw [← clsN_3]
  have c := classOf_pu hb
  generalize clsN b = z at *
  refine Pu.intro Tryz.func162 rfl (by kernel_rfl) fun C => ?_
  repeat (first | (refine A1 ⟨?_⟩; intros) | (refine Wcx (c) ?_) | (refine Wdcx (c) ?_) | (refine Wcgx (c) ?_) | (refine Wdcgx (c) ?_))
  ((first | refine endR ?_ | refine endN ?_); exact end1 (RV.tmp rfl) (Le.refl _))
def words : List (List UInt8) := [[98, 117, 100, 103, 101, 116], [114, 105, 110, 103], [114, 101, 103, 105, 111, 110], [101, 118, 101, 110, 111, 100, 100], [110, 111, 110, 122, 101, 114, 111], [111, 117, 116, 108, 105, 110, 101], [102, 97, 114], [99, 104, 97, 105, 110], [108, 101, 116], [97, 114, 101, 97], [99, 101, 110, 116, 114, 111, 105, 100], [99, 108, 97, 115, 115, 105, 102, 121], [101, 109, 112, 116, 121], [101, 113, 117, 97, 108], [115, 117, 98, 115, 101, 116], [99, 101, 108, 108, 115], [110, 111, 100, 101, 115], [112, 97, 114, 116, 115], [101, 120, 112, 111, 114, 116], [97, 108, 108], [110, 111, 110, 101], [104, 97, 108, 102]]
def resv (s : List UInt8) : Bool := decide (s ∈ words)
theorem resv_t {s w : List UInt8} (h : s = w) (hw : decide (w ∈ words) = true := by decide +kernel) : lit (.bool true) = lit (.bool (resv s)) := by subst h; unfold resv; rw [hw]
theorem resv_f {s : List UInt8} (h0 : ¬s = [98, 117, 100, 103, 101, 116]) (h1 : ¬s = [114, 105, 110, 103]) (h2 : ¬s = [114, 101, 103, 105, 111, 110]) (h3 : ¬s = [101, 118, 101, 110, 111, 100, 100]) (h4 : ¬s = [110, 111, 110, 122, 101, 114, 111]) (h5 : ¬s = [111, 117, 116, 108, 105, 110, 101]) (h6 : ¬s = [102, 97, 114]) (h7 : ¬s = [99, 104, 97, 105, 110]) (h8 : ¬s = [108, 101, 116]) (h9 : ¬s = [97, 114, 101, 97]) (h10 : ¬s = [99, 101, 110, 116, 114, 111, 105, 100]) (h11 : ¬s = [99, 108, 97, 115, 115, 105, 102, 121]) (h12 : ¬s = [101, 109, 112, 116, 121]) (h13 : ¬s = [101, 113, 117, 97, 108]) (h14 : ¬s = [115, 117, 98, 115, 101, 116]) (h15 : ¬s = [99, 101, 108, 108, 115]) (h16 : ¬s = [110, 111, 100, 101, 115]) (h17 : ¬s = [112, 97, 114, 116, 115]) (h18 : ¬s = [101, 120, 112, 111, 114, 116]) (h19 : ¬s = [97, 108, 108]) (h20 : ¬s = [110, 111, 110, 101]) (h21 : ¬s = [104, 97, 108, 102]) : lit (.bool false) = lit (.bool (resv s)) := by
  unfold resv words
  rw [decide_eq_false (by simp only [List.mem_cons, List.not_mem_nil, or_false, not_or]; exact ⟨h0, h1, h2, h3, h4, h5, h6, h7, h8, h9, h10, h11, h12, h13, h14, h15, h16, h17, h18, h19, h20, h21⟩)]
set_option maxHeartbeats 4000000 in
theorem reserved_pu (s : List UInt8) : Pu Tryz.prog 163 [str s] (lit (.bool (resv s))) := by
  refine Pu.intro Tryz.func163 rfl (by kernel_rfl) fun C => ?_
  repeat (refine A1 ⟨?_⟩; intros)
  by_cases h0 : s = [98, 117, 100, 103, 101, 116]
  · refine Wo (ov_seql (b := [98, 117, 100, 103, 101, 116]) rfl rfl (decide_eq_true h0)) ?_
    repeat (refine A1 ⟨?_⟩; intros)
    ((first | refine endR ?_ | refine endN ?_); refine end1 (RV.tmp rfl) (Le.of_eq ?_))
    exact resv_t h0
  refine Wo (ov_seql (b := [98, 117, 100, 103, 101, 116]) rfl rfl (decide_eq_false h0)) ?_
  repeat (refine A1 ⟨?_⟩; intros)
  by_cases h1 : s = [114, 105, 110, 103]
  · refine Wo (ov_seql (b := [114, 105, 110, 103]) rfl rfl (decide_eq_true h1)) ?_
    repeat (refine A1 ⟨?_⟩; intros)
    ((first | refine endR ?_ | refine endN ?_); refine end1 (RV.tmp rfl) (Le.of_eq ?_))
    exact resv_t h1
  refine Wo (ov_seql (b := [114, 105, 110, 103]) rfl rfl (decide_eq_false h1)) ?_
  repeat (refine A1 ⟨?_⟩; intros)
  by_cases h2 : s = [114, 101, 103, 105, 111, 110]
  · refine Wo (ov_seql (b := [114, 101, 103, 105, 111, 110]) rfl rfl (decide_eq_true h2)) ?_
    repeat (refine A1 ⟨?_⟩; intros)
    ((first | refine endR ?_ | refine endN ?_); refine end1 (RV.tmp rfl) (Le.of_eq ?_))
    exact resv_t h2
  refine Wo (ov_seql (b := [114, 101, 103, 105, 111, 110]) rfl rfl (decide_eq_false h2)) ?_
  repeat (refine A1 ⟨?_⟩; intros)
  by_cases h3 : s = [101, 118, 101, 110, 111, 100, 100]
  · refine Wo (ov_seql (b := [101, 118, 101, 110, 111, 100, 100]) rfl rfl (decide_eq_true h3)) ?_
    repeat (refine A1 ⟨?_⟩; intros)
    ((first | refine endR ?_ | refine endN ?_); refine end1 (RV.tmp rfl) (Le.of_eq ?_))
    exact resv_t h3
  refine Wo (ov_seql (b := [101, 118, 101, 110, 111, 100, 100]) rfl rfl (decide_eq_false h3)) ?_
  repeat (refine A1 ⟨?_⟩; intros)
  by_cases h4 : s = [110, 111, 110, 122, 101, 114, 111]
  · refine Wo (ov_seql (b := [110, 111, 110, 122, 101, 114, 111]) rfl rfl (decide_eq_true h4)) ?_
    repeat (refine A1 ⟨?_⟩; intros)
    ((first | refine endR ?_ | refine endN ?_); refine end1 (RV.tmp rfl) (Le.of_eq ?_))
    exact resv_t h4
  refine Wo (ov_seql (b := [110, 111, 110, 122, 101, 114, 111]) rfl rfl (decide_eq_false h4)) ?_
  repeat (refine A1 ⟨?_⟩; intros)
  by_cases h5 : s = [111, 117, 116, 108, 105, 110, 101]
  · refine Wo (ov_seql (b := [111, 117, 116, 108, 105, 110, 101]) rfl rfl (decide_eq_true h5)) ?_
    repeat (refine A1 ⟨?_⟩; intros)
    ((first | refine endR ?_ | refine endN ?_); refine end1 (RV.tmp rfl) (Le.of_eq ?_))
    exact resv_t h5
  refine Wo (ov_seql (b := [111, 117, 116, 108, 105, 110, 101]) rfl rfl (decide_eq_false h5)) ?_
  repeat (refine A1 ⟨?_⟩; intros)
  by_cases h6 : s = [102, 97, 114]
  · refine Wo (ov_seql (b := [102, 97, 114]) rfl rfl (decide_eq_true h6)) ?_
    repeat (refine A1 ⟨?_⟩; intros)
    ((first | refine endR ?_ | refine endN ?_); refine end1 (RV.tmp rfl) (Le.of_eq ?_))
    exact resv_t h6
  refine Wo (ov_seql (b := [102, 97, 114]) rfl rfl (decide_eq_false h6)) ?_
  repeat (refine A1 ⟨?_⟩; intros)
  by_cases h7 : s = [99, 104, 97, 105, 110]
  · refine Wo (ov_seql (b := [99, 104, 97, 105, 110]) rfl rfl (decide_eq_true h7)) ?_
    repeat (refine A1 ⟨?_⟩; intros)
    ((first | refine endR ?_ | refine endN ?_); refine end1 (RV.tmp rfl) (Le.of_eq ?_))
    exact resv_t h7
  refine Wo (ov_seql (b := [99, 104, 97, 105, 110]) rfl rfl (decide_eq_false h7)) ?_
  repeat (refine A1 ⟨?_⟩; intros)
  by_cases h8 : s = [108, 101, 116]
  · refine Wo (ov_seql (b := [108, 101, 116]) rfl rfl (decide_eq_true h8)) ?_
    repeat (refine A1 ⟨?_⟩; intros)
    ((first | refine endR ?_ | refine endN ?_); refine end1 (RV.tmp rfl) (Le.of_eq ?_))
    exact resv_t h8
  refine Wo (ov_seql (b := [108, 101, 116]) rfl rfl (decide_eq_false h8)) ?_
  repeat (refine A1 ⟨?_⟩; intros)
  by_cases h9 : s = [97, 114, 101, 97]
  · refine Wo (ov_seql (b := [97, 114, 101, 97]) rfl rfl (decide_eq_true h9)) ?_
    repeat (refine A1 ⟨?_⟩; intros)
    ((first | refine endR ?_ | refine endN ?_); refine end1 (RV.tmp rfl) (Le.of_eq ?_))
    exact resv_t h9
  refine Wo (ov_seql (b := [97, 114, 101, 97]) rfl rfl (decide_eq_false h9)) ?_
  repeat (refine A1 ⟨?_⟩; intros)
  by_cases h10 : s = [99, 101, 110, 116, 114, 111, 105, 100]
  · refine Wo (ov_seql (b := [99, 101, 110, 116, 114, 111, 105, 100]) rfl rfl (decide_eq_true h10)) ?_
    repeat (refine A1 ⟨?_⟩; intros)
    ((first | refine endR ?_ | refine endN ?_); refine end1 (RV.tmp rfl) (Le.of_eq ?_))
    exact resv_t h10
  refine Wo (ov_seql (b := [99, 101, 110, 116, 114, 111, 105, 100]) rfl rfl (decide_eq_false h10)) ?_
  repeat (refine A1 ⟨?_⟩; intros)
  by_cases h11 : s = [99, 108, 97, 115, 115, 105, 102, 121]
  · refine Wo (ov_seql (b := [99, 108, 97, 115, 115, 105, 102, 121]) rfl rfl (decide_eq_true h11)) ?_
    repeat (refine A1 ⟨?_⟩; intros)
    ((first | refine endR ?_ | refine endN ?_); refine end1 (RV.tmp rfl) (Le.of_eq ?_))
    exact resv_t h11
  refine Wo (ov_seql (b := [99, 108, 97, 115, 115, 105, 102, 121]) rfl rfl (decide_eq_false h11)) ?_
  repeat (refine A1 ⟨?_⟩; intros)
  by_cases h12 : s = [101, 109, 112, 116, 121]
  · refine Wo (ov_seql (b := [101, 109, 112, 116, 121]) rfl rfl (decide_eq_true h12)) ?_
    repeat (refine A1 ⟨?_⟩; intros)
    ((first | refine endR ?_ | refine endN ?_); refine end1 (RV.tmp rfl) (Le.of_eq ?_))
    exact resv_t h12
  refine Wo (ov_seql (b := [101, 109, 112, 116, 121]) rfl rfl (decide_eq_false h12)) ?_
  repeat (refine A1 ⟨?_⟩; intros)
  by_cases h13 : s = [101, 113, 117, 97, 108]
  · refine Wo (ov_seql (b := [101, 113, 117, 97, 108]) rfl rfl (decide_eq_true h13)) ?_
    repeat (refine A1 ⟨?_⟩; intros)
    ((first | refine endR ?_ | refine endN ?_); refine end1 (RV.tmp rfl) (Le.of_eq ?_))
    exact resv_t h13
  refine Wo (ov_seql (b := [101, 113, 117, 97, 108]) rfl rfl (decide_eq_false h13)) ?_
  repeat (refine A1 ⟨?_⟩; intros)
  by_cases h14 : s = [115, 117, 98, 115, 101, 116]
  · refine Wo (ov_seql (b := [115, 117, 98, 115, 101, 116]) rfl rfl (decide_eq_true h14)) ?_
    repeat (refine A1 ⟨?_⟩; intros)
    ((first | refine endR ?_ | refine endN ?_); refine end1 (RV.tmp rfl) (Le.of_eq ?_))
    exact resv_t h14
  refine Wo (ov_seql (b := [115, 117, 98, 115, 101, 116]) rfl rfl (decide_eq_false h14)) ?_
  repeat (refine A1 ⟨?_⟩; intros)
  by_cases h15 : s = [99, 101, 108, 108, 115]
  · refine Wo (ov_seql (b := [99, 101, 108, 108, 115]) rfl rfl (decide_eq_true h15)) ?_
    repeat (refine A1 ⟨?_⟩; intros)
    ((first | refine endR ?_ | refine endN ?_); refine end1 (RV.tmp rfl) (Le.of_eq ?_))
    exact resv_t h15
  refine Wo (ov_seql (b := [99, 101, 108, 108, 115]) rfl rfl (decide_eq_false h15)) ?_
  repeat (refine A1 ⟨?_⟩; intros)
  by_cases h16 : s = [110, 111, 100, 101, 115]
  · refine Wo (ov_seql (b := [110, 111, 100, 101, 115]) rfl rfl (decide_eq_true h16)) ?_
    repeat (refine A1 ⟨?_⟩; intros)
    ((first | refine endR ?_ | refine endN ?_); refine end1 (RV.tmp rfl) (Le.of_eq ?_))
    exact resv_t h16
  refine Wo (ov_seql (b := [110, 111, 100, 101, 115]) rfl rfl (decide_eq_false h16)) ?_
  repeat (refine A1 ⟨?_⟩; intros)
  by_cases h17 : s = [112, 97, 114, 116, 115]
  · refine Wo (ov_seql (b := [112, 97, 114, 116, 115]) rfl rfl (decide_eq_true h17)) ?_
    repeat (refine A1 ⟨?_⟩; intros)
    ((first | refine endR ?_ | refine endN ?_); refine end1 (RV.tmp rfl) (Le.of_eq ?_))
    exact resv_t h17
  refine Wo (ov_seql (b := [112, 97, 114, 116, 115]) rfl rfl (decide_eq_false h17)) ?_
  repeat (refine A1 ⟨?_⟩; intros)
  by_cases h18 : s = [101, 120, 112, 111, 114, 116]
  · refine Wo (ov_seql (b := [101, 120, 112, 111, 114, 116]) rfl rfl (decide_eq_true h18)) ?_
    repeat (refine A1 ⟨?_⟩; intros)
    ((first | refine endR ?_ | refine endN ?_); refine end1 (RV.tmp rfl) (Le.of_eq ?_))
    exact resv_t h18
  refine Wo (ov_seql (b := [101, 120, 112, 111, 114, 116]) rfl rfl (decide_eq_false h18)) ?_
  repeat (refine A1 ⟨?_⟩; intros)
  by_cases h19 : s = [97, 108, 108]
  · refine Wo (ov_seql (b := [97, 108, 108]) rfl rfl (decide_eq_true h19)) ?_
    repeat (refine A1 ⟨?_⟩; intros)
    ((first | refine endR ?_ | refine endN ?_); refine end1 (RV.tmp rfl) (Le.of_eq ?_))
    exact resv_t h19
  refine Wo (ov_seql (b := [97, 108, 108]) rfl rfl (decide_eq_false h19)) ?_
  repeat (refine A1 ⟨?_⟩; intros)
  by_cases h20 : s = [110, 111, 110, 101]
  · refine Wo (ov_seql (b := [110, 111, 110, 101]) rfl rfl (decide_eq_true h20)) ?_
    repeat (refine A1 ⟨?_⟩; intros)
    ((first | refine endR ?_ | refine endN ?_); refine end1 (RV.tmp rfl) (Le.of_eq ?_))
    exact resv_t h20
  refine Wo (ov_seql (b := [110, 111, 110, 101]) rfl rfl (decide_eq_false h20)) ?_
  repeat (refine A1 ⟨?_⟩; intros)
  by_cases h21 : s = [104, 97, 108, 102]
  · refine Wo (ov_seql (b := [104, 97, 108, 102]) rfl rfl (decide_eq_true h21)) ?_
    repeat (refine A1 ⟨?_⟩; intros)
    ((first | refine endR ?_ | refine endN ?_); refine end1 (RV.tmp rfl) (Le.of_eq ?_))
    exact resv_t h21
  refine Wo (ov_seql (b := [104, 97, 108, 102]) rfl rfl (decide_eq_false h21)) ?_
  repeat (refine A1 ⟨?_⟩; intros)
  ((first | refine endR ?_ | refine endN ?_); refine end1 (RV.tmp rfl) (Le.of_eq ?_))
  exact resv_f h0 h1 h2 h3 h4 h5 h6 h7 h8 h9 h10 h11 h12 h13 h14 h15 h16 h17 h18 h19 h20 h21
def okB (b : UInt8) : Bool := letterN b.toNat || decide (48 ≤ b.toNat ∧ b.toNat ≤ 57)
def nmOk (s : List UInt8) : Bool := decide (1 ≤ s.length) && decide (s.length ≤ 24) && letterN (s.getD 0 0).toNat && !resv s && s.all okB
theorem all_false {s : List UInt8} {p : UInt8 → Bool} {k : Nat} (hk : k < s.length) (h : p (s.getD k 0) = false) : s.all p = false := by
  rw [List.all_eq_false]
  exact ⟨s.getD k 0, by simp [List.getD, hk], by rw [h]; exact Bool.false_ne_true⟩
theorem take_get {s : List UInt8} {k : Nat} (hk : k < s.length) : s.take (k + 1) = s.take k ++ [s.getD k 0] := by
  rw [List.take_add_one]
  simp [List.getD, hk]
theorem all_true {s : List UInt8} {p : UInt8 → Bool} (h : ∀ b ∈ s, p b = true) : s.all p = true := List.all_eq_true.2 h
theorem u8_lt (b : UInt8) : b.toNat < 256 := b.toNat_lt
theorem name_pu {a : SV} {w : Nat} (ha : a = fresh ∨ a = self w) {l : List UInt8} {sb : SV} {Hb : LH} (hb : Byt l sb Hb) (s : List UInt8) (hs : s.length ≤ 1000) (hl : l.length ≤ 100000000) (d : Nat) (lg : Bool) :
    PuH Tryz.prog 113 [lit (.pointer (some ⟨w, 0, none⟩)), str s] ((w, 201, wrC a sb d lg) :: Hb)
      (fun r H => nmOk s = true ∧ ∃ s' Hb', Byt (l ++ s) s' Hb' ∧ r = Ab.tup [] ∧ H = (w, 201, wrC (self w) s' d lg) :: Hb') (fun pv _ => nmOk s = false ∧ pv = inval) := by
  by_cases h1 : 1 ≤ s.length
  case neg =>
    refine PuH.intro Tryz.func113 rfl (by kernel_rfl) fun C hC => ?_
    repeat (refine A1 ⟨?_⟩; intros)
    refine WneedF ?_
    rw [hC]
    exact ⟨by unfold nmOk; rw [decide_eq_false h1]; rfl, rfl⟩
  by_cases h2 : s.length ≤ 24
  case neg =>
    refine PuH.intro Tryz.func113 rfl (by kernel_rfl) fun C hC => ?_
    repeat (refine A1 ⟨?_⟩; intros)
    refine WneedF ?_
    rw [hC]
    exact ⟨by unfold nmOk; rw [decide_eq_false h2, Bool.and_false]; rfl, rfl⟩
  have c1 := letter_pu (u8_lt (s.getD 0 0))
  have c2 := reserved_pu s
  have e0 : nmOk s = (letterN (s.getD 0 0).toNat && !resv s && s.all okB) := by unfold nmOk; rw [decide_eq_true h1, decide_eq_true h2, Bool.true_and, Bool.true_and]
  cases hq : letterN (s.getD 0 0).toNat with
  | false =>
    rw [hq] at c1 e0
    refine PuH.intro Tryz.func113 rfl (by kernel_rfl) fun C hC => ?_
    repeat (refine A1 ⟨?_⟩; intros)
    refine WgE ?_
    refine Wo (ov_sidx (i := 0) rfl rfl (by omega)) ?_
    repeat (first | (refine A1 ⟨?_⟩; intros) | (refine Wcx (c1) ?_) | (refine Wdcx (c1) ?_) | (refine Wcgx (c1) ?_) | (refine Wdcgx (c1) ?_))
    refine WneedF ?_
    rw [hC]
    exact ⟨e0, rfl⟩
  | true =>
    rw [hq] at c1 e0
    cases hr : resv s with
    | true =>
      rw [hr] at c2 e0
      refine PuH.intro Tryz.func113 rfl (by kernel_rfl) fun C hC => ?_
      repeat (refine A1 ⟨?_⟩; intros)
      refine WgE ?_
      refine Wo (ov_sidx (i := 0) rfl rfl (by omega)) ?_
      repeat (first | (refine A1 ⟨?_⟩; intros) | (refine Wcx (c1) ?_) | (refine Wdcx (c1) ?_) | (refine Wcgx (c1) ?_) | (refine Wdcgx (c1) ?_) | (refine Wcx (c2) ?_) | (refine Wdcx (c2) ?_) | (refine Wcgx (c2) ?_) | (refine Wdcgx (c2) ?_))
      refine WneedF ?_
      rw [hC]
      exact ⟨e0, rfl⟩
    | false =>
      rw [hr] at c2 e0
      have e1 : nmOk s = s.all okB := e0
      clear e0
      refine PuH.intro Tryz.func113 rfl (by kernel_rfl) fun C hC => ?_
      repeat (refine A1 ⟨?_⟩; intros)
      refine WgE ?_
      refine Wo (ov_sidx (i := 0) rfl rfl (by omega)) ?_
      repeat (first | (refine A1 ⟨?_⟩; intros) | (refine Wcx (c1) ?_) | (refine Wdcx (c1) ?_) | (refine Wcgx (c1) ?_) | (refine Wdcgx (c1) ?_) | (refine Wcx (c2) ?_) | (refine Wdcx (c2) ?_) | (refine Wcgx (c2) ?_) | (refine Wdcgx (c2) ?_))
      refine WneedT ?_
      repeat (refine A1 ⟨?_⟩; intros)
      refine WP.loopS (ι := Nat) (fun k => k ≤ s.length ∧ ∀ b ∈ s.take k, okB b = true) (fun k => s.length - k) (fun k => fm [(0, lit (.pointer (some ⟨w, 0, none⟩))), (1, str s), (25, lit (.int .i64 s.length)), (26, lit (.int .i64 k))]) (fun _ => (w, 201, wrC a sb d lg) :: Hb) 0
        ⟨Nat.zero_le _, by simp⟩ (by (repeat (first | exact LeF.nil _ | refine LeF.cons (Le.refl _) ?_ | refine LeF.cons (Le.int (by omega)) ?_))) (List.Sublist.refl _) ?_
      rintro k ⟨hk, hr⟩ K hK
      by_cases hkl : k < s.length
      · have ck := letter_pu (u8_lt (s.getD k 0))
        have hlt := u8_lt (s.getD k 0)
        have hok : okB (s.getD k 0) = (letterN (s.getD k 0).toNat || decide (48 ≤ (s.getD k 0).toNat ∧ (s.getD k 0).toNat ≤ 57)) := rfl
        have good : okB (s.getD k 0) = true → k + 1 ≤ s.length ∧ ∀ b ∈ s.take (k + 1), okB b = true := fun h => ⟨by omega, by
          rw [take_get hkl]
          intro b hb
          rcases List.mem_append.1 hb with hb | hb
          · exact hr b hb
          · rw [List.mem_singleton] at hb; subst hb; exact h⟩
        have bad : okB (s.getD k 0) = false → nmOk s = false := fun h => e1.trans (all_false hkl h)
        clear hr c1 c2 hq
        generalize letterN (s.getD k 0).toNat = lt at *
        cases lt with
        | true =>
          repeat (first | (refine A1 ⟨?_⟩; intros) | (refine Wcx (ck) ?_) | (refine Wdcx (ck) ?_) | (refine Wcgx (ck) ?_) | (refine Wdcgx (ck) ?_))
          refine WneedT ?_
          repeat (refine A1 ⟨?_⟩; intros)
          exact hK _ _ (k + 1) (good hok) (by omega) (by (repeat (first | exact LeF.nil _ | refine LeF.cons (Le.refl _) ?_ | refine LeF.cons (Le.int (by omega)) ?_))) (List.Sublist.refl _)
        | false =>
          rw [Bool.false_or] at hok
          by_cases h3 : 48 ≤ (s.getD k 0).toNat
          · by_cases h4 : (s.getD k 0).toNat ≤ 57
            · rw [decide_eq_true ⟨h3, h4⟩] at hok
              repeat (first | (refine A1 ⟨?_⟩; intros) | (refine Wcx (ck) ?_) | (refine Wdcx (ck) ?_) | (refine Wcgx (ck) ?_) | (refine Wdcgx (ck) ?_))
              refine WneedT ?_
              repeat (refine A1 ⟨?_⟩; intros)
              exact hK _ _ (k + 1) (good hok) (by omega) (by (repeat (first | exact LeF.nil _ | refine LeF.cons (Le.refl _) ?_ | refine LeF.cons (Le.int (by omega)) ?_))) (List.Sublist.refl _)
            · rw [decide_eq_false (fun h => h4 h.2)] at hok
              repeat (first | (refine A1 ⟨?_⟩; intros) | (refine Wcx (ck) ?_) | (refine Wdcx (ck) ?_) | (refine Wcgx (ck) ?_) | (refine Wdcgx (ck) ?_))
              refine WneedF ?_
              rw [hC]
              exact ⟨bad hok, rfl⟩
          · rw [decide_eq_false (fun h => h3 h.1)] at hok
            repeat (first | (refine A1 ⟨?_⟩; intros) | (refine Wcx (ck) ?_) | (refine Wdcx (ck) ?_) | (refine Wcgx (ck) ?_) | (refine Wdcgx (ck) ?_))
            refine WneedF ?_
            rw [hC]
            exact ⟨bad hok, rfl⟩
      · have hke : k = s.length := by omega
        subst hke
        rw [List.take_length] at hr
        have hall := e1.trans (all_true hr)
        clear hr c1 c2 hq e1
        repeat (refine A1 ⟨?_⟩; intros)
        refine WfT (put1_pu ha hb s (by omega) d lg) ?_
        rintro _ _ ⟨s', Hb', hb', rfl, rfl⟩
        simp only [List.cons_append, List.nil_append]
        repeat (refine A1 ⟨?_⟩; intros)
        exact endHN _ _ end0 (List.Sublist.refl _) ⟨hall, s', Hb', hb', rfl, rfl⟩
inductive Ex
  | leaf (n : Nd)
  | un (n : Nd) (x : Ex)
  | bi (n : Nd) (l r : Ex)
def Ex.top : Ex → Nd
  | .leaf n => n
  | .un n _ => n
  | .bi n _ _ => n
def Ex.size : Ex → Nat
  | .leaf _ => 1
  | .un _ x => 1 + x.size
  | .bi _ l r => 1 + l.size + r.size
def rk (n : Nd) : Int := if n.k = 6 then (if n.op = 2 then 2 else 1) else 3
def Ex.At (ns : List Nd) : Ex → Nat → Prop
  | .leaf n, i => ns[i]? = some n ∧ 1 ≤ n.k ∧ n.k ≤ 4
  | .un n x, i => ns[i]? = some n ∧ n.k = 5 ∧ ∃ j : Nat, n.x = j ∧ x.At ns j
  | .bi n l r, i => ns[i]? = some n ∧ n.k = 6 ∧ (1 ≤ n.op ∧ n.op ≤ 4) ∧ ∃ j k : Nat, n.x = j ∧ n.y = k ∧ l.At ns j ∧ r.At ns k
theorem Ex.At.top {ns : List Nd} : ∀ {t : Ex} {i : Nat}, t.At ns i → ns[i]? = some t.top
  | .leaf _, _, h => h.1
  | .un _ _, _, h => h.1
  | .bi _ _ _, _, h => h.1
def Ex.dep : Ex → Nat
  | .leaf _ => 0
  | .un _ x => (if rk x.top < 3 then x.dep + 1 else x.dep) + 1
  | .bi n l r => max (if rk l.top < rk n then l.dep + 1 else l.dep) (if rk r.top < rk n + 1 then r.dep + 1 else r.dep)
theorem Ex.size_pos : ∀ t : Ex, 1 ≤ t.size
  | .leaf _ => Nat.le_refl _
  | .un _ x => by simp only [Ex.size]; omega
  | .bi _ l r => by simp only [Ex.size]; omega
theorem Ex.dep_le : ∀ t : Ex, t.dep ≤ 2 * t.size
  | .leaf _ => Nat.zero_le _
  | .un _ x => by
    have := x.dep_le
    simp only [Ex.dep, Ex.size]
    split <;> omega
  | .bi _ l r => by
    have h1 := l.dep_le
    have h2 := r.dep_le
    simp only [Ex.dep, Ex.size]
    split <;> split <;> omega
def pdp (lv : Int) (x : Ex) : Nat := if rk x.top < lv then x.dep + 1 else x.dep
def sgn (op : Int) : List UInt8 := if op = 1 then [32, 43, 32] else if op = 2 then [32, 42, 32] else if op = 3 then [32, 45, 32] else [32, 94, 32]
def par (b : Bool) (s : List UInt8) : List UInt8 := if b = true then [40] ++ s ++ [41] else s
def Ex.txt : Ex → List UInt8
  | .leaf n => if n.k = 1 then n.nm else if n.k = 2 then [97, 108, 108] else if n.k = 3 then [110, 111, 110, 101] else [104, 97, 108, 102] ++ ptxt2 n.a n.b n.c n.e
  | .un _ x => [126] ++ par (decide (rk x.top < 3)) x.txt
  | .bi n l r => par (decide (rk l.top < rk n)) l.txt ++ sgn n.op ++ par (decide (rk r.top < rk n + 1)) r.txt
def Ex.good : Ex → Bool
  | .leaf n => if n.k = 1 then nmOk n.nm else if n.k = 4 then (nrmQ n.a && nrmQ n.b && (nrmQ n.c && nrmQ n.e)) else true
  | .un _ x => x.good
  | .bi _ l r => l.good && r.good
theorem par_len (b : Bool) (s : List UInt8) : s.length ≤ (par b s).length ∧ (par b s).length ≤ s.length + 2 := by
  unfold par
  split
  · simp only [List.length_append, List.length_cons, List.length_nil]; omega
  · omega
def PartOk (ns : List Nd) (w : Nat) (t : Ex) (i : Nat) : Prop :=
  ∀ (d : Nat) (l : List UInt8) (H : LH), Wtr w l d H → d + t.dep ≤ 200 → l.length + t.txt.length + 2 * t.size ≤ 80000000 →
    PuH Tryz.prog 160 [lit (.pointer (some ⟨w, 0, none⟩)), sl (ns.map ndx).flatten ns.length, lit (.int .i64 i)] H (fun r H' => t.good = true ∧ r = Ab.tup [] ∧ Wtr w (l ++ t.txt) d H') (fun pv _ => t.good = false ∧ pv = inval)
theorem operand1_pu {ns : List Nd} {w i d b4 b5 b6 : Nat} {t : Ex} {l : List UInt8} {H : LH} (hp : PartOk ns w t i) (h : Wtr w l d H) (hd : d + t.dep ≤ 200) (hl : l.length + t.txt.length + 2 * t.size ≤ 80000000) :
    PuH Tryz.prog 263 [lit (.pointer (some ⟨b4, 0, none⟩)), lit (.pointer (some ⟨b5, 0, none⟩)), lit (.pointer (some ⟨b6, 0, none⟩))]
      ([(b6, 3, [lit (.int .i64 i)]), (b5, 52, [sl (ns.map ndx).flatten ns.length]), (b4, 144, [lit (.pointer (some ⟨w, 0, none⟩))])] ++ H)
      (fun r H' => t.good = true ∧ r = Ab.tup [] ∧ ∃ H2, H' = [(b6, 3, [lit (.int .i64 i)]), (b5, 52, [sl (ns.map ndx).flatten ns.length]), (b4, 144, [lit (.pointer (some ⟨w, 0, none⟩))])] ++ H2 ∧ Wtr w (l ++ t.txt) d H2) (fun pv _ => t.good = false ∧ pv = inval) := by
  have c := hp d l H h hd hl
  refine PuH.intro Tryz.func263 rfl (by kernel_rfl) fun C hC => ?_
  simp only [List.cons_append, List.nil_append]
  repeat (refine A1 ⟨?_⟩; intros)
  refine WfX c ?_ ?_
  · rintro _ _ ⟨g, rfl, h'⟩
    simp only [List.cons_append, List.nil_append]
    repeat (refine A1 ⟨?_⟩; intros)
    exact endHN _ _ end0 (List.Sublist.refl _) ⟨g, rfl, _, rfl, h'⟩
  · rintro _ _ ⟨g, rfl⟩
    rw [hC]
    exact ⟨g, rfl⟩
theorem operand_pu {ns : List Nd} {w i d : Nat} {t : Ex} {l : List UInt8} {H : LH} (hns : ns.length ≤ 100000) (hp : PartOk ns w t i) (hat : ns[i]? = some t.top) (h : Wtr w l d H) (m : Int) (hd : d + pdp m t ≤ 200) (hl : l.length + t.txt.length + 2 * t.size + 2 ≤ 80000000) :
    PuH Tryz.prog 212 [lit (.pointer (some ⟨w, 0, none⟩)), sl (ns.map ndx).flatten ns.length, lit (.int .i64 i), lit (.int .i64 m)] H
      (fun r H' => t.good = true ∧ r = Ab.tup [] ∧ Wtr w (l ++ par (decide (rk t.top < m)) t.txt) d H') (fun pv _ => t.good = false ∧ pv = inval) := by
  have hil : i < ns.length := (List.getElem?_eq_some_iff.1 hat).1
  have hcut := flat_at (f := ndx) (n := 19) ndx_len hat
  have hne : (ns.map ndx).flatten ≠ [] := flat_ne ndx_len (by omega) (fun e => by rw [e] at hil; simp at hil)
  have c0 := rank_pu t.top
  change Pu _ _ _ (lit (.int .i64 (rk t.top))) at c0
  unfold pdp at hd
  generalize hn : t.top = n at *
  by_cases hr : m ≤ rk n
  · rw [show par (decide (rk n < m)) t.txt = t.txt from by rw [decide_eq_false (by omega)]; rfl]
    rw [if_neg (by omega)] at hd
    have c := hp d l H h (by omega) (by omega)
    refine PuH.intro Tryz.func212 rfl (by kernel_rfl) fun C hC => ?_
    repeat (refine A1 ⟨?_⟩; intros)
    refine Wo (ov_idxS (cs' := ndx n) rfl rfl (by omega) (by omega) hcut hne) ?_
    repeat (first | (refine A1 ⟨?_⟩; intros) | (refine Wcx (c0) ?_) | (refine Wdcx (c0) ?_) | (refine Wcgx (c0) ?_) | (refine Wdcgx (c0) ?_))
    refine WfX c ?_ ?_
    · rintro _ _ ⟨g, rfl, h'⟩
      simp only [List.cons_append, List.nil_append]
      repeat (refine A1 ⟨?_⟩; intros)
      exact endHR _ _ end0 (by repeat (first | exact List.Sublist.refl _ | refine List.Sublist.cons _ ?_)) ⟨g, rfl, h'⟩
    · rintro _ _ ⟨g, rfl⟩
      rw [hC]
      exact ⟨g, rfl⟩
  · rw [show par (decide (rk n < m)) t.txt = [40] ++ t.txt ++ [41] from by rw [decide_eq_true (by omega)]; rfl]
    have k1 : ([40] : List UInt8).length = 1 := rfl
    have k2 : ([41] : List UInt8).length = 1 := rfl
    have k3 : (l ++ [40]).length = l.length + 1 := by simp
    have k4 : (l ++ [40] ++ t.txt).length = l.length + 1 + t.txt.length := by rw [List.length_append, k3]
    rw [if_pos (by omega)] at hd
    refine PuH.intro Tryz.func212 rfl (by kernel_rfl) fun C hC => ?_
    repeat (refine A1 ⟨?_⟩; intros)
    refine Wo (ov_idxS (cs' := ndx n) rfl rfl (by omega) (by omega) hcut hne) ?_
    repeat (first | (refine A1 ⟨?_⟩; intros) | (refine Wcx (c0) ?_) | (refine Wdcx (c0) ?_) | (refine Wcgx (c0) ?_) | (refine Wdcgx (c0) ?_))
    refine WfH (putW_pu h [40] (by omega)) ?_
    rintro _ _ ⟨rfl, g1⟩
    refine WPL.perm List.perm_append_comm ?_
    simp only [List.cons_append, List.nil_append]
    repeat (refine A1 ⟨?_⟩; intros)
    refine WPL.perm (List.perm_append_comm (l₁ := [_, _, _])) ?_
    refine WfX (deeper_pu g1 (by omega) (fun H1 h1 => operand1_pu hp h1 (by omega) (by omega))) ?_ ?_ rfl (Tk.same _)
    · rintro _ _ ⟨g, rfl, H2, rfl, g2⟩
      simp only [List.nil_append]
      refine WPL.perm List.perm_append_comm ?_
      simp only [List.cons_append, List.nil_append]
      repeat (refine A1 ⟨?_⟩; intros)
      refine WfH (putW_pu g2 [41] (by omega)) ?_
      rintro _ _ ⟨rfl, g3⟩
      repeat (refine A1 ⟨?_⟩; intros)
      exact endHN _ _ end0 (List.sublist_append_left _ _) ⟨g, rfl, by rw [show l ++ 40 :: (t.txt ++ [41]) = l ++ [40] ++ t.txt ++ [41] by simp]; exact g3⟩
    · rintro _ _ ⟨g, rfl⟩
      rw [hC]
      exact ⟨g, rfl⟩
theorem nameW_pu {w d : Nat} {l : List UInt8} {H : LH} (h : Wtr w l d H) (s : List UInt8) (hs : s.length ≤ 1000) (hl : l.length ≤ 100000000) :
    PuH Tryz.prog 113 [lit (.pointer (some ⟨w, 0, none⟩)), str s] H (fun r H' => nmOk s = true ∧ r = Ab.tup [] ∧ Wtr w (l ++ s) d H') (fun pv _ => nmOk s = false ∧ pv = inval) := by
  obtain ⟨a, sb, Hb, ha, hb, rfl⟩ := h
  refine (name_pu ha hb s hs hl d false).mono (fun r H' => ?_) fun pv H' h => h
  rintro ⟨g, s', Hb', hb', rfl, rfl⟩
  exact ⟨g, rfl, _, _, _, .inr rfl, hb', rfl⟩
abbrev sgns : List SV := [str [], str [32, 43, 32], str [32, 42, 32], str [32, 45, 32], str [32, 94, 32]]
theorem part_leaf {ns : List Nd} {L : Nat} (hok : ∀ n ∈ ns, n.ok L) (hL : L ≤ 200) (hns : ns.length ≤ 100000) (w : Nat) (n : Nd) (i : Nat) (hat : (Ex.leaf n).At ns i) : PartOk ns w (.leaf n) i := fun d l H h hd hl => by
    obtain ⟨hat, hk1, hk4⟩ := hat
    have hil : i < ns.length := (List.getElem?_eq_some_iff.1 hat).1
    have hcut := flat_at (f := ndx) (n := 19) ndx_len hat
    have hne : (ns.map ndx).flatten ≠ [] := flat_ne ndx_len (by omega) (fun e => by rw [e] at hil; simp at hil)
    obtain ⟨na, nb, nc, ne, nn⟩ := hok n (List.mem_of_getElem? hat)
    clear hok
    by_cases k1 : n.k = 1
    · rw [show (Ex.leaf n).txt = n.nm from by unfold Ex.txt; rw [if_pos k1]] at hl ⊢
      rw [show (Ex.leaf n).good = nmOk n.nm from by unfold Ex.good; rw [if_pos k1]]
      refine PuH.intro Tryz.func160 rfl (by kernel_rfl) fun C hC => ?_
      repeat (refine A1 ⟨?_⟩; intros)
      refine Wo (ov_idxS (cs' := ndx n) rfl rfl (by omega) (by omega) hcut hne) ?_
      repeat (refine A1 ⟨?_⟩; intros)
      refine Wo (ov_buildA (e := 9) (len := 5) (cs := sgns) (by kernel_rfl) (by repeat (first | exact Parts.nil | (apply Parts.cons; exact Eq.refl (lit _); infer_instance))) (by exact rfl)) ?_
      repeat (refine A1 ⟨?_⟩; intros)
      refine WfX (nameW_pu h n.nm (by omega) (by omega)) ?_ ?_
      · rintro _ _ ⟨g, rfl, h'⟩
        simp only [List.cons_append, List.nil_append]
        repeat (refine A1 ⟨?_⟩; intros)
        exact endHN _ _ end0 (by repeat (first | exact List.Sublist.refl _ | exact List.sublist_append_left _ _ | refine List.Sublist.cons _ ?_)) ⟨g, rfl, h'⟩
      · rintro _ _ ⟨g, rfl⟩
        rw [hC]
        exact ⟨g, rfl⟩
    by_cases k2 : n.k = 2
    · rw [show (Ex.leaf n).txt = [97, 108, 108] from by unfold Ex.txt; rw [if_neg k1, if_pos k2]] at hl ⊢
      rw [show (Ex.leaf n).good = true from by unfold Ex.good; rw [if_neg (by omega), if_neg (by omega)]]
      have q : ([97, 108, 108] : List UInt8).length = 3 := rfl
      refine PuH.intro Tryz.func160 rfl (by kernel_rfl) fun C hC => ?_
      repeat (refine A1 ⟨?_⟩; intros)
      refine Wo (ov_idxS (cs' := ndx n) rfl rfl (by omega) (by omega) hcut hne) ?_
      repeat (refine A1 ⟨?_⟩; intros)
      refine Wo (ov_buildA (e := 9) (len := 5) (cs := sgns) (by kernel_rfl) (by repeat (first | exact Parts.nil | (apply Parts.cons; exact Eq.refl (lit _); infer_instance))) (by exact rfl)) ?_
      repeat (refine A1 ⟨?_⟩; intros)
      refine WfH (putW_pu h [97, 108, 108] (by omega)) ?_
      rintro _ _ ⟨rfl, h'⟩
      repeat (refine A1 ⟨?_⟩; intros)
      exact endHN _ _ end0 (by repeat (first | exact List.Sublist.refl _ | exact List.sublist_append_left _ _ | refine List.Sublist.cons _ ?_)) ⟨rfl, rfl, h'⟩
    by_cases k3 : n.k = 3
    · rw [show (Ex.leaf n).txt = [110, 111, 110, 101] from by unfold Ex.txt; rw [if_neg k1, if_neg k2, if_pos k3]] at hl ⊢
      rw [show (Ex.leaf n).good = true from by unfold Ex.good; rw [if_neg (by omega), if_neg (by omega)]]
      have q : ([110, 111, 110, 101] : List UInt8).length = 4 := rfl
      refine PuH.intro Tryz.func160 rfl (by kernel_rfl) fun C hC => ?_
      repeat (refine A1 ⟨?_⟩; intros)
      refine Wo (ov_idxS (cs' := ndx n) rfl rfl (by omega) (by omega) hcut hne) ?_
      repeat (refine A1 ⟨?_⟩; intros)
      refine Wo (ov_buildA (e := 9) (len := 5) (cs := sgns) (by kernel_rfl) (by repeat (first | exact Parts.nil | (apply Parts.cons; exact Eq.refl (lit _); infer_instance))) (by exact rfl)) ?_
      repeat (refine A1 ⟨?_⟩; intros)
      refine WfH (putW_pu h [110, 111, 110, 101] (by omega)) ?_
      rintro _ _ ⟨rfl, h'⟩
      repeat (refine A1 ⟨?_⟩; intros)
      exact endHN _ _ end0 (by repeat (first | exact List.Sublist.refl _ | exact List.sublist_append_left _ _ | refine List.Sublist.cons _ ?_)) ⟨rfl, rfl, h'⟩
    have k4 : n.k = 4 := by omega
    rw [show (Ex.leaf n).txt = [104, 97, 108, 102] ++ ptxt2 n.a n.b n.c n.e from by unfold Ex.txt; rw [if_neg k1, if_neg k2, if_neg k3]] at hl ⊢
    rw [show (Ex.leaf n).good = (nrmQ n.a && nrmQ n.b && (nrmQ n.c && nrmQ n.e)) from by unfold Ex.good; rw [if_neg k1, if_pos k4]]
    have q : ([104, 97, 108, 102] : List UInt8).length = 4 := rfl
    rw [List.length_append] at hl
    refine PuH.intro Tryz.func160 rfl (by kernel_rfl) fun C hC => ?_
    repeat (refine A1 ⟨?_⟩; intros)
    refine Wo (ov_idxS (cs' := ndx n) rfl rfl (by omega) (by omega) hcut hne) ?_
    repeat (refine A1 ⟨?_⟩; intros)
    refine Wo (ov_buildA (e := 9) (len := 5) (cs := sgns) (by kernel_rfl) (by repeat (first | exact Parts.nil | (apply Parts.cons; exact Eq.refl (lit _); infer_instance))) (by exact rfl)) ?_
    repeat (refine A1 ⟨?_⟩; intros)
    refine WfH (putW_pu h [104, 97, 108, 102] (by omega)) ?_
    rintro _ _ ⟨rfl, h1⟩
    refine WPL.perm List.perm_append_comm ?_
    simp only [List.cons_append, List.nil_append]
    repeat (refine A1 ⟨?_⟩; intros)
    refine WfX (points_pu h1 n.a n.b n.c n.e na nb nc ne hL (by rw [List.length_append]; omega)) ?_ ?_
    · rintro _ _ ⟨g, rfl, h'⟩
      simp only [List.cons_append, List.nil_append]
      repeat (refine A1 ⟨?_⟩; intros)
      rw [List.append_assoc] at h'
      exact endHN _ _ end0 (by repeat (first | exact List.Sublist.refl _ | exact List.sublist_append_left _ _ | refine List.Sublist.cons _ ?_)) ⟨g, rfl, h'⟩
    · rintro _ _ ⟨g, rfl⟩
      rw [hC]
      exact ⟨g, rfl⟩
theorem part1_pu {ns : List Nd} {w j d b3 b4 b6 b7 : Nat} {x : Ex} {n : Nd} {l : List UInt8} {H : LH} (hns : ns.length ≤ 100000) (hx : n.x = j) (hp : PartOk ns w x j) (hat : ns[j]? = some x.top) (h : Wtr w l d H) (hd : d + pdp 3 x ≤ 200) (hl : l.length + x.txt.length + 2 * x.size + 2 ≤ 80000000) :
    PuH Tryz.prog 211 [lit (.pointer (some ⟨b3, 0, none⟩)), lit (.pointer (some ⟨b4, 0, none⟩)), lit (.pointer (some ⟨b6, 0, none⟩))]
      ([(b7, 293, sgns), (b6, 75, ndx n), (b4, 52, [sl (ns.map ndx).flatten ns.length]), (b3, 144, [lit (.pointer (some ⟨w, 0, none⟩))])] ++ H)
      (fun r H' => x.good = true ∧ r = Ab.tup [] ∧ ∃ H2, H' = [(b7, 293, sgns), (b6, 75, ndx n), (b4, 52, [sl (ns.map ndx).flatten ns.length]), (b3, 144, [lit (.pointer (some ⟨w, 0, none⟩))])] ++ H2 ∧ Wtr w (l ++ par (decide (rk x.top < 3)) x.txt) d H2) (fun pv _ => x.good = false ∧ pv = inval) := by
  have c := operand_pu hns hp hat h 3 hd hl
  refine PuH.intro Tryz.func211 rfl (by kernel_rfl) fun C hC => ?_
  simp only [List.cons_append, List.nil_append]
  repeat (refine A1 ⟨?_⟩; intros)
  rw [hx]
  refine WfX c ?_ ?_
  · rintro _ _ ⟨g, rfl, h'⟩
    simp only [List.cons_append, List.nil_append]
    repeat (refine A1 ⟨?_⟩; intros)
    exact endHN _ _ end0 (List.Sublist.refl _) ⟨g, rfl, _, rfl, h'⟩
  · rintro _ _ ⟨g, rfl⟩
    rw [hC]
    exact ⟨g, rfl⟩
theorem part_un {ns : List Nd} (hns : ns.length ≤ 100000) (w : Nat) (n : Nd) (x : Ex) (i : Nat) (hat : (Ex.un n x).At ns i) (ih : ∀ j, x.At ns j → PartOk ns w x j) : PartOk ns w (.un n x) i := fun d l H h hd hl => by
    obtain ⟨hat, hk, j, hx, hxa⟩ := hat
    have hp := ih j hxa
    have hil : i < ns.length := (List.getElem?_eq_some_iff.1 hat).1
    have hcut := flat_at (f := ndx) (n := 19) ndx_len hat
    have hne : (ns.map ndx).flatten ≠ [] := flat_ne ndx_len (by omega) (fun e => by rw [e] at hil; simp at hil)
    have p1 := par_len (decide (rk x.top < 3)) x.txt
    rw [show (Ex.un n x).txt = [126] ++ par (decide (rk x.top < 3)) x.txt from rfl] at hl ⊢
    rw [show (Ex.un n x).good = x.good from rfl]
    rw [show (Ex.un n x).size = 1 + x.size from rfl] at hl
    rw [show (Ex.un n x).dep = pdp 3 x + 1 from rfl] at hd
    have q : ([126] : List UInt8).length = 1 := rfl
    rw [List.length_append] at hl
    have q1 : (l ++ [126]).length = l.length + 1 := by simp
    refine PuH.intro Tryz.func160 rfl (by kernel_rfl) fun C hC => ?_
    repeat (refine A1 ⟨?_⟩; intros)
    refine Wo (ov_idxS (cs' := ndx n) rfl rfl (by omega) (by omega) hcut hne) ?_
    repeat (refine A1 ⟨?_⟩; intros)
    refine Wo (ov_buildA (e := 9) (len := 5) (cs := sgns) (by kernel_rfl) (by repeat (first | exact Parts.nil | (apply Parts.cons; exact Eq.refl (lit _); infer_instance))) (by exact rfl)) ?_
    repeat (refine A1 ⟨?_⟩; intros)
    refine WfH (putW_pu h [126] (by omega)) ?_
    rintro _ _ ⟨rfl, h1⟩
    refine WPL.perm List.perm_append_comm ?_
    simp only [List.cons_append, List.nil_append]
    repeat (refine A1 ⟨?_⟩; intros)
    refine WPL.perm (List.perm_append_comm (l₁ := [_, _, _, _])) ?_
    refine WfX (deeper_pu h1 (by omega) (fun H1 g1 => part1_pu hns hx hp hxa.top g1 (by omega) (by omega))) ?_ ?_ rfl (Tk.same _)
    · rintro _ _ ⟨g, rfl, H2, rfl, h'⟩
      simp only [List.nil_append]
      rw [List.append_assoc] at h'
      repeat (refine A1 ⟨?_⟩; intros)
      exact endHN _ _ end0 (List.sublist_append_left _ _) ⟨g, rfl, h'⟩
    · rintro _ _ ⟨g, rfl⟩
      rw [hC]
      exact ⟨g, rfl⟩
theorem sgns_at {op : Int} (h1 : 1 ≤ op) (h4 : op ≤ 4) : sgns[op.toNat * 1]? = some (str (sgn op)) := by
  have h : op = 1 ∨ op = 2 ∨ op = 3 ∨ op = 4 := by omega
  rcases h with rfl | rfl | rfl | rfl <;> rfl
theorem sgn_len (op : Int) : (sgn op).length = 3 := by
  unfold sgn
  split
  · rfl
  split
  · rfl
  split <;> rfl
theorem part_bi {ns : List Nd} (hns : ns.length ≤ 100000) (w : Nat) (n : Nd) (x y : Ex) (i : Nat) (hat : (Ex.bi n x y).At ns i) (ihx : ∀ j, x.At ns j → PartOk ns w x j) (ihy : ∀ j, y.At ns j → PartOk ns w y j) : PartOk ns w (.bi n x y) i := fun d l H h hd hl => by
    obtain ⟨hat, hk, ⟨ho1, ho4⟩, j, k, hx, hy, hxa, hya⟩ := hat
    have hpx := ihx j hxa
    have hpy := ihy k hya
    have hil : i < ns.length := (List.getElem?_eq_some_iff.1 hat).1
    have hcut := flat_at (f := ndx) (n := 19) ndx_len hat
    have hne : (ns.map ndx).flatten ≠ [] := flat_ne ndx_len (by omega) (fun e => by rw [e] at hil; simp at hil)
    have c0 := rank_pu n
    change Pu _ _ _ (lit (.int .i64 (rk n))) at c0
    have hrk : 1 ≤ rk n ∧ rk n ≤ 2 := by unfold rk; rw [if_pos hk]; split <;> omega
    have p1 := par_len (decide (rk x.top < rk n)) x.txt
    have p2 := par_len (decide (rk y.top < rk n + 1)) y.txt
    have p3 := sgn_len n.op
    have hsg := sgns_at ho1 ho4
    rw [show (Ex.bi n x y).txt = par (decide (rk x.top < rk n)) x.txt ++ sgn n.op ++ par (decide (rk y.top < rk n + 1)) y.txt from rfl] at hl ⊢
    rw [show (Ex.bi n x y).good = (x.good && y.good) from rfl]
    rw [show (Ex.bi n x y).size = 1 + x.size + y.size from rfl] at hl
    rw [show (Ex.bi n x y).dep = max (pdp (rk n) x) (pdp (rk n + 1) y) from rfl] at hd
    have hd1 : d + pdp (rk n) x ≤ 200 := Nat.le_trans (Nat.add_le_add_left (Nat.le_max_left _ _) d) hd
    have hd2 : d + pdp (rk n + 1) y ≤ 200 := Nat.le_trans (Nat.add_le_add_left (Nat.le_max_right _ _) d) hd
    clear hd
    rw [List.length_append, List.length_append] at hl
    have q1 : (l ++ par (decide (rk x.top < rk n)) x.txt).length = l.length + (par (decide (rk x.top < rk n)) x.txt).length := List.length_append
    have q2 : (l ++ par (decide (rk x.top < rk n)) x.txt ++ sgn n.op).length = l.length + (par (decide (rk x.top < rk n)) x.txt).length + (sgn n.op).length := by rw [List.length_append, q1]
    generalize hpd1 : par (decide (rk x.top < rk n)) x.txt = s1 at *
    generalize hpd2 : par (decide (rk y.top < rk n + 1)) y.txt = s2 at *
    have c1 := operand_pu hns hpx hxa.top h (rk n) hd1 (by omega)
    rw [hpd1] at c1
    generalize hrn : rk n = r at *
    refine PuH.intro Tryz.func160 rfl (by kernel_rfl) fun C hC => ?_
    repeat (refine A1 ⟨?_⟩; intros)
    refine Wo (ov_idxS (cs' := ndx n) rfl rfl (by omega) (by omega) hcut hne) ?_
    repeat (refine A1 ⟨?_⟩; intros)
    refine Wo (ov_buildA (e := 9) (len := 5) (cs := sgns) (by kernel_rfl) (by repeat (first | exact Parts.nil | (apply Parts.cons; exact Eq.refl (lit _); infer_instance))) (by exact rfl)) ?_
    repeat (first | (refine A1 ⟨?_⟩; intros) | (refine Wcx (c0) ?_) | (refine Wdcx (c0) ?_) | (refine Wcgx (c0) ?_) | (refine Wdcgx (c0) ?_))
    rw [hx]
    refine WfX c1 ?_ ?_
    · rintro _ _ ⟨g1, rfl, h1⟩
      simp only [List.cons_append, List.nil_append]
      repeat (first | (refine AS ⟨?_⟩; intros) | (refine O1 ⟨?_⟩; intros))
      refine WdN 6 ?_
      repeat (refine A1 ⟨?_⟩; intros)
      refine Wdo (ov_idxA (e := 9) (len := 5) (by kernel_rfl) rfl rfl (by omega) (by omega)) ?_
      refine Wdo (ov_loadL rfl (by repeat (first | exact List.mem_cons_self | apply List.mem_cons_of_mem)) hsg) ?_
      repeat (refine A1 ⟨?_⟩; intros)
      simp only [List.drop_succ_cons, List.drop_zero]
      refine WfH (putW_pu h1 (sgn n.op) (by omega)) ?_
      rintro _ _ ⟨rfl, h2⟩
      refine WPL.perm List.perm_append_comm ?_
      simp only [List.cons_append, List.nil_append]
      have c2 := operand_pu hns hpy hya.top h2 (r + 1) hd2 (by omega)
      rw [hpd2] at c2
      repeat (refine A1 ⟨?_⟩; intros)
      rw [hy]
      refine WfX c2 ?_ ?_
      · rintro _ _ ⟨g2, rfl, h3⟩
        simp only [List.cons_append, List.nil_append]
        rw [List.append_assoc, List.append_assoc, ← List.append_assoc s1] at h3
        repeat (refine A1 ⟨?_⟩; intros)
        exact endHN _ _ end0 (by repeat (first | exact List.Sublist.refl _ | exact List.sublist_append_left _ _ | refine List.Sublist.cons _ ?_)) ⟨by rw [g1, g2]; rfl, rfl, h3⟩
      · rintro _ _ ⟨g, rfl⟩
        rw [hC]
        exact ⟨by rw [g, Bool.and_false], rfl⟩
    · rintro _ _ ⟨g, rfl⟩
      rw [hC]
      exact ⟨by rw [g]; rfl, rfl⟩
theorem part_pu {ns : List Nd} {L : Nat} (hok : ∀ n ∈ ns, n.ok L) (hL : L ≤ 200) (hns : ns.length ≤ 100000) (w : Nat) : ∀ (t : Ex) (i : Nat), t.At ns i → PartOk ns w t i
  | .leaf n, i, hat => part_leaf hok hL hns w n i hat
  | .un n x, i, hat => part_un hns w n x i hat (part_pu hok hL hns w x)
  | .bi n x y, i, hat => part_bi hns w n x y i hat (part_pu hok hL hns w x) (part_pu hok hL hns w y)
theorem okN_k {n : Nd} (h : okN n = true) : (1 ≤ n.k ∧ n.k ≤ 6) ∧ (n.k = 6 → 1 ≤ n.op ∧ n.op ≤ 4) := by
  unfold okN at h
  simp only [Bool.and_eq_true, Bool.or_eq_true, decide_eq_true_eq] at h
  obtain ⟨⟨⟨⟨⟨h1, _⟩, _⟩, h2⟩, _⟩, _⟩ := h
  refine ⟨h1, fun hk => ?_⟩
  rcases h2 with h2 | h2
  · exact ⟨h2.1.2, h2.2⟩
  · exact absurd hk h2.1
def Trees (ns : List Nd) (ss : List Nat) : Prop := ∀ j, j < ss.length → ∃ t : Ex, t.At ns j ∧ t.size = ss.getD j 0
theorem step1_trees {ns : List Nd} {ss : List Nat} {n : Nd} {s : Nat} (hat : ns[ss.length]? = some n) (h : step1 ss n = some s) (hT : Trees ns ss) : ∃ t : Ex, t.At ns ss.length ∧ t.size = s := by
  unfold step1 at h
  by_cases e : okN n = true
  · rw [if_pos e] at h
    obtain ⟨hk, ho⟩ := okN_k e
    by_cases k5 : n.k = 5
    · rw [if_pos k5] at h
      by_cases hc : 0 < ss.length ∧ n.x = (ss.length : Int) - 1
      · rw [if_pos hc] at h
        obtain ⟨x, hx, hs⟩ := hT (ss.length - 1) (by omega)
        refine ⟨.un n x, ⟨hat, k5, ss.length - 1, by omega, hx⟩, ?_⟩
        simp only [Ex.size, hs]
        exact Option.some.inj h
      · rw [if_neg hc] at h; cases h
    · rw [if_neg k5] at h
      by_cases k6 : n.k = 6
      · rw [if_pos k6] at h
        generalize hs1 : ss.getD (ss.length - 1) 0 = s1 at h
        by_cases hc : (0 < ss.length ∧ n.y = (ss.length : Int) - 1) ∧ s1 + 1 ≤ ss.length ∧ n.x = (ss.length : Int) - 1 - (s1 : Nat)
        · rw [if_pos hc] at h
          obtain ⟨⟨c1, c2⟩, c3, c4⟩ := hc
          obtain ⟨y, hy, hsy⟩ := hT (ss.length - 1) (by omega)
          obtain ⟨x, hx, hsx⟩ := hT (ss.length - 1 - s1) (by omega)
          refine ⟨.bi n x y, ⟨hat, k6, ho k6, ss.length - 1 - s1, ss.length - 1, by omega, by omega, hx, hy⟩, ?_⟩
          have := Option.some.inj h
          simp only [Ex.size, hsx, hsy, hs1]
          omega
        · rw [if_neg hc] at h; cases h
      · rw [if_neg k6] at h
        exact ⟨.leaf n, ⟨hat, hk.1, by omega⟩, Option.some.inj h⟩
  · rw [if_neg e] at h; cases h
theorem sizes_trees {ns : List Nd} : ∀ (rest : List Nd) (ss out : List Nat), ns.drop ss.length = rest → ss.length ≤ ns.length → sizes rest ss = some out → Trees ns ss → Trees ns out ∧ out.length = ns.length
  | [], ss, out, hd, hl, h, hT => by
    unfold sizes at h
    obtain rfl := Option.some.inj h
    refine ⟨hT, ?_⟩
    have := congrArg List.length hd
    simp at this
    omega
  | n :: rest, ss, out, hd, hl, h, hT => by
    rw [sizes_cons] at h
    have hat : ns[ss.length]? = some n := by
      have := congrArg (·[0]?) hd
      simpa using this
    have hlt : ss.length < ns.length := (List.getElem?_eq_some_iff.1 hat).1
    cases hs : step1 ss n with
    | none => rw [hs] at h; cases h
    | some s =>
      rw [hs] at h
      obtain ⟨t, ht, hts⟩ := step1_trees hat hs hT
      refine sizes_trees rest (ss ++ [s]) out ?_ (by simp; omega) h ?_
      · rw [List.length_append, List.length_singleton]
        have := drop_cons hat
        rw [hd] at this
        exact ((List.cons.inj this).2).symm
      · intro j hj
        simp only [List.length_append, List.length_singleton] at hj
        by_cases hjl : j < ss.length
        · obtain ⟨t', h1, h2⟩ := hT j hjl
          refine ⟨t', h1, ?_⟩
          rw [h2]; simp [List.getD, List.getElem?_append_left hjl]
        · have : j = ss.length := by omega
          subst this
          exact ⟨t, ht, by rw [hts]; simp [List.getD]⟩
theorem okL_tree {ns : List Nd} (h : okL ns = true) : 0 < ns.length ∧ ∃ t : Ex, t.At ns (ns.length - 1) ∧ t.size = ns.length := by
  unfold okL at h
  cases hs : sizes ns [] with
  | none => rw [hs] at h; cases h
  | some out =>
    rw [hs] at h
    simp only [Bool.and_eq_true, decide_eq_true_eq] at h
    obtain ⟨hT, hl⟩ := sizes_trees ns [] out rfl (Nat.zero_le _) hs (fun j hj => by simp at hj)
    obtain ⟨t, h1, h2⟩ := hT (ns.length - 1) (by omega)
    exact ⟨h.1, t, h1, by rw [h2]; exact h.2⟩
theorem expr_f {ns : List Nd} {L w d : Nat} {l : List UInt8} {H : LH} (hok : ∀ n ∈ ns, n.ok L) (hL : L ≤ 200) (hns : ns.length ≤ 100000) (h : Wtr w l d H) (hf : okL ns = false) :
    PuH Tryz.prog 107 [lit (.pointer (some ⟨w, 0, none⟩)), sl (ns.map ndx).flatten ns.length] H (fun _ _ => False) (fun pv _ => pv = inval) := by
  refine PuH.intro Tryz.func107 rfl (by kernel_rfl) fun C hC => ?_
  repeat (refine A1 ⟨?_⟩; intros)
  refine WfX (checkList_pu ns hok (by omega) hns) ?_ ?_
  · rintro _ _ ⟨e, _⟩
    rw [hf] at e; cases e
  · rintro _ _ ⟨_, rfl⟩
    rw [hC]
theorem expr_t {ns : List Nd} {L w d : Nat} {l : List UInt8} {H : LH} (hok : ∀ n ∈ ns, n.ok L) (hL : L ≤ 200) (hns : ns.length ≤ 100000) (h : Wtr w l d H) (ht : okL ns = true) {t : Ex} (hat : t.At ns (ns.length - 1)) (hsz : t.size = ns.length) (hdp : t.dep ≤ 200) (hl : l.length + t.txt.length ≤ 70000000) :
    PuH Tryz.prog 107 [lit (.pointer (some ⟨w, 0, none⟩)), sl (ns.map ndx).flatten ns.length] H (fun r H' => t.good = true ∧ r = Ab.tup [] ∧ Wtr w (l ++ t.txt) 0 H') (fun pv _ => t.good = false ∧ pv = inval) := by
  have hpos := (okL_tree ht).1
  have hp := part_pu hok hL (by omega) w t _ hat
  obtain ⟨a, s, Hb, ha, hb, rfl⟩ := h
  have c := hp 0 l _ ⟨a, s, Hb, ha, hb, rfl⟩ (by omega) (by omega)
  refine PuH.intro Tryz.func107 rfl (by kernel_rfl) fun C hC => ?_
  repeat (refine A1 ⟨?_⟩; intros)
  refine WfX (checkList_pu ns hok (by omega) (by omega)) ?_ ?_
  · rintro _ _ ⟨_, rfl, rfl⟩
    simp only [List.cons_append, List.nil_append, List.append_nil]
    repeat (refine A1 ⟨?_⟩; intros)
    rw [show ((ns.length : Int) - 1) = ((ns.length - 1 : Nat) : Int) by omega]
    refine WfX c ?_ ?_
    · rintro _ _ ⟨g, rfl, h'⟩
      simp only [List.cons_append, List.nil_append]
      repeat (refine A1 ⟨?_⟩; intros)
      exact endHN _ _ end0 (List.Sublist.refl _) ⟨g, rfl, h'⟩
    · rintro _ _ ⟨g, rfl⟩
      rw [hC]
      exact ⟨g, rfl⟩
  · rintro _ _ ⟨e, _⟩
    rw [ht] at e; cases e
theorem getD_cell {w : World} {b : Nat} {T : TypeId} {arr : Array Value} {l : List UInt8} {rest : List SV} {m : Mem} (hb : w.heap[b]? = some (.cells arr T (0, 0))) (hall : All2 m (bys l ++ rest) arr.toList) (j : Nat) (y : UInt8) (hj : l[j]? = some y) : w.cell? ((⟨b, 0, none⟩ : Addr).add j) = some (.int .u8 y.toNat) := by
  rw [add_none, cell_of w b _ arr _ _ hb]
  have hjl : j < l.length := (List.getElem?_eq_some_iff.1 hj).1
  have hg : (bys l ++ rest)[j]? = some (lit (.int .u8 (y.toNat : Nat))) := by
    rw [List.getElem?_append_left (by rw [bys_len]; exact hjl)]
    simp [bys, hj]
  obtain ⟨v, hv, hp, _⟩ := hall.get hg
  rw [lit_p] at hp
  subst hp
  simpa using hv
section
variable {P : Program} {C : Ctx} {n : Nat} {F : Fr} {H : LH} {ops : Array Oper} {K : Fr → LH → Prop} {rest : List Oper} {ty : TypeId} {pos : String} {aft : Array Edge}
theorem freeze_other (w : World) (b n k : Nat) (h : k ≠ b) : (w.freeze ⟨b, 0, none⟩ n).heap[k]? = w.heap[k]? := by
  unfold World.freeze
  split
  · rfl
  · simp only [Array.getElem?_modify]; rw [if_neg (fun e => h e.symm)]
theorem WPL.unsafeStr {d : Nat} {x y : Operand} {pt it e : TypeId} {g : Nat} {l : List UInt8} {more : List SV} {H' : LH} (hp : P.underlying pt = some (.pointer e)) (hc : P.cellsOf e = 1) (hx : ev F x = lit (.pointer (some ⟨g, 0, none⟩))) (hy : ev F y = lit (.int .i64 l.length)) (hl : l ≠ []) (hl2 : l.length ≤ 9223372036854775807)
    (hdel : HDel g e (bys l ++ more) H H') (k : WPL P C n ops rest K (upd F d (str l)) H') (hd : Nat.blt d n = true) :
    WPL P C n ops (⟨some d, .call ⟨.builtin .unsafeString, #[x, y], #[pt, it]⟩, ty, pos, aft, none⟩ :: rest) K F H := by
  unfold WPL
  intro a w hs Q hq
  refine wpList_plain rfl fun K' hK' => ?_
  have hs' := hs.drop hdel
  obtain ⟨hdef, hn, m, h1, h2, h3, h4, h5⟩ := hs
  have hpp : ∀ x, (ev F x).p m (a.eval x) := fun x => by
    cases x with
    | tmp t => exact h5 t
    | const v => unfold ev lit; rfl
    | global g => unfold ev lit; rfl
    | func f => unfold ev lit; rfl
  have e0 := hpp x; rw [hx, lit_p] at e0
  have e1 := hpp y; rw [hy, lit_p] at e1
  obtain ⟨hmb, arr, hb, hall⟩ := h2.2 _ hdel.mem
  have hlen := hall.length
  simp only [List.length_append, bys_len, Array.length_toList] at hlen
  have hsh : w.shape? g = some (e, arr.size) := by simp [World.shape?, hb]
  have hrun := Lib.run_unsafeString_row (P := P) (w := w) pt it ty e hp hc g arr.size hsh l hl (by omega) hl2 (fun j y hj => getD_cell hb hall j y hj)
  unfold Oper.wp
  have hexec : execOp a.eval (⟨some d, .call ⟨.builtin .unsafeString, #[x, y], #[pt, it]⟩, ty, pos, aft, none⟩ : Oper) = (do let v ← Builtin.unsafeString_ #[pt, it] ty #[a.eval x, a.eval y]; pure (.value v)) := by
    simp [execOp, resolve, invoke, builtin]
  rw [hexec, e0, e1]
  simp only [Sem.run_bind, hrun, Result.andThen_ok, Sem.run_pure]
  unfold WPL at k
  have hkeys := hdel.keys h2.1
  refine hK' _ _ (k (a.put (some d) (.string ⟨l.toArray⟩)) _ ⟨hdef, by simpa [Act.put] using hn, m, ?_, ?_, ?_, fun e he => h4 e (hdel.sub e he), fun t => ?_⟩ Q hq)
  · exact ⟨fun j o hj => by rw [freeze_other _ _ _ _ (fun e => by rw [e, hmb] at hj; cases hj)]; exact h1 j o hj, h1.base⟩
  · refine ⟨hkeys.1, fun e he => ?_⟩
    obtain ⟨q1, arr', q2, q3⟩ := h2.2 e (hdel.sub e he)
    exact ⟨q1, arr', by rw [freeze_other _ _ _ _ (hkeys.2 e he)]; exact q2, q3⟩
  · have hz : (w.freeze ⟨g, 0, none⟩ l.length).heap.size = w.heap.size := by unfold World.freeze; split <;> simp
    have ho : (w.freeze ⟨g, 0, none⟩ l.length).os = w.os ∧ (w.freeze ⟨g, 0, none⟩ l.length).tape = w.tape ∧ (w.freeze ⟨g, 0, none⟩ l.length).output = w.output := by unfold World.freeze; split <;> exact ⟨rfl, rfl, rfl⟩
    refine ⟨h3.le, h3.old, ho.1.trans h3.os, ho.2.1.trans h3.tape, ho.2.2.trans h3.output, hz ▸ h3.size, fun j hlt hnj => ?_⟩
    rw [freeze_other _ _ _ _ ?_]
    · exact h3.block j hlt hnj
    · rintro rfl
      rcases h4 _ hdel.mem with h | h
      · exact hnj h
      · exact absurd hlt (Nat.not_lt.2 h)
  · rw [getD_put (Nat.lt_of_lt_of_le (Nat.blt_eq.mp hd) hn)]
    unfold Ab.upd
    by_cases ht : t = d
    · subst ht; rw [if_pos rfl, Nat.beq_refl]; exact lit_p.2 rfl
    · rw [if_neg ht]
      have : Nat.beq t d = false := by
        cases hbb : Nat.beq t d with
        | false => rfl
        | true => exact absurd (Nat.eq_of_beq_eq_true hbb) ht
      rw [this]
      exact h5 t
end
theorem len_pu {w d : Nat} {l : List UInt8} {H : LH} (h : Wtr w l d H) : PuH Tryz.prog 109 [lit (.pointer (some ⟨w, 0, none⟩))] H (fun r H' => r = lit (.int .i64 l.length) ∧ H' = H) noX := by
  obtain ⟨a, s, Hb, ha, hb, rfl⟩ := h
  rcases hb with ⟨rfl, rfl, rfl⟩ | ⟨hne, b, c, hlc, hc, rfl, rfl⟩
  · refine PuH.intro Tryz.func109 rfl (by kernel_rfl) fun C hC => ?_
    repeat (refine A1 ⟨?_⟩; intros)
    exact endHR _ _ (end1 (RV.tmp rfl) (Le.refl _)) (List.Sublist.refl _) ⟨rfl, rfl⟩
  · refine PuH.intro Tryz.func109 rfl (by kernel_rfl) fun C hC => ?_
    repeat (refine A1 ⟨?_⟩; intros)
    exact endHR _ _ (end1 (RV.tmp rfl) (Le.refl _)) (List.Sublist.refl _) ⟨rfl, rfl⟩
theorem ov_sliceData {P : Program} {F : Fr} {H : LH} {ty : TypeId} {x : Operand} {b k c : Nat} {ts : Array TypeId} (hc : c ≠ 0) (hx : ev F x = lit (.slice (some ⟨b, 0, none⟩) k c)) : OpV P (.call ⟨.builtin .unsafeSliceData, #[x], ts⟩) ty F H (lit (.pointer (some ⟨b, 0, none⟩))) :=
  OpV.pure fun m w o a ho _ _ _ h => by
    have h0 := h x (by simp [Op.operands, Call.operands]); rw [hx, lit_p] at h0
    have hrun := Lib.run_unsafeSliceData_row (P := P) (w := w) ts o.type ⟨b, 0, none⟩ k c hc
    exact ⟨_, by simp [execOp, ho, resolve, invoke, builtin, h0, hrun], lit_p.2 rfl⟩
theorem bstring_pu {w d : Nat} {l : List UInt8} {H : LH} (h : Wtr w l d H) (hne : l ≠ []) (hl : l.length ≤ 1000000000) : PuH Tryz.prog 110 [lit (.pointer (some ⟨w, 0, none⟩))] H (fun r H' => r = str l) noX := by
  obtain ⟨a, s, Hb, ha, hb, rfl⟩ := h
  rcases hb with ⟨rfl, _⟩ | ⟨_, b, c, hlc, hc, rfl, rfl⟩
  · exact absurd rfl hne
  have hlp := List.length_pos_iff.2 hne
  refine PuH.intro Tryz.func110 rfl (by kernel_rfl) fun C hC => ?_
  repeat (first | (refine AS ⟨?_⟩; intros) | (refine O1 ⟨?_⟩; intros))
  refine WdN 10 ?_
  repeat (refine A1 ⟨?_⟩; intros)
  refine Wdo (ov_sliceData (by omega) rfl) ?_
  repeat (refine A1 ⟨?_⟩; intros)
  simp only [List.drop_succ_cons, List.drop_zero]
  refine WPL.unsafeStr (by kernel_rfl) (by kernel_rfl) rfl rfl hne (by omega) (.there _ (.here _)) ?_ rfl
  repeat (refine A1 ⟨?_⟩; intros)
  exact endHR _ _ (end1 (RV.tmp rfl) (Le.refl _)) (List.nil_sublist _) rfl
theorem wexpr1_f {ns : List Nd} {L w d b : Nat} {l : List UInt8} {H : LH} (hok : ∀ n ∈ ns, n.ok L) (hL : L ≤ 200) (hns : ns.length ≤ 100000) (h : Wtr w l d H) (hf : okL ns = false) :
    PuH Tryz.prog 106 [lit (.pointer (some ⟨w, 0, none⟩)), lit (.pointer (some ⟨b, 0, none⟩))] ((b, 52, [sl (ns.map ndx).flatten ns.length]) :: H) (fun _ _ => False) (fun pv _ => pv = inval) := by
  have c := expr_f hok hL hns h hf
  refine PuH.intro Tryz.func106 rfl (by kernel_rfl) fun C hC => ?_
  repeat (refine A1 ⟨?_⟩; intros)
  refine WfX c ?_ ?_
  · rintro _ _ ⟨⟩
  · rintro _ _ rfl
    rw [hC]
theorem wexpr1_t {ns : List Nd} {L w d b : Nat} {l : List UInt8} {H : LH} (hok : ∀ n ∈ ns, n.ok L) (hL : L ≤ 200) (hns : ns.length ≤ 90) (h : Wtr w l d H) (ht : okL ns = true) {t : Ex} (hat : t.At ns (ns.length - 1)) (hsz : t.size = ns.length) (hl : l.length + t.txt.length ≤ 70000000) :
    PuH Tryz.prog 106 [lit (.pointer (some ⟨w, 0, none⟩)), lit (.pointer (some ⟨b, 0, none⟩))] ((b, 52, [sl (ns.map ndx).flatten ns.length]) :: H) (fun r H' => t.good = true ∧ r = Ab.tup [] ∧ Wtr w (l ++ t.txt) 0 H') (fun pv _ => t.good = false ∧ pv = inval) := by
  have c := expr_t hok hL (by omega) h ht hat hsz (by have := t.dep_le; omega) hl
  refine PuH.intro Tryz.func106 rfl (by kernel_rfl) fun C hC => ?_
  repeat (refine A1 ⟨?_⟩; intros)
  refine WfX c ?_ ?_
  · rintro _ _ ⟨g, rfl, h'⟩
    simp only [List.cons_append, List.nil_append]
    repeat (refine A1 ⟨?_⟩; intros)
    exact endHN _ _ end0 (List.sublist_cons_self _ _) ⟨g, rfl, h'⟩
  · rintro _ _ ⟨g, rfl⟩
    rw [hC]
    exact ⟨g, rfl⟩
theorem wtr_new (w : Nat) : Wtr w [] 0 [(w, 201, wrC fresh (lit (.slice none 0 0)) 0 false)] := ⟨_, _, [], .inl rfl, Byt.nil, rfl⟩
structure Tok where
  k : Nat
  t : List UInt8
  l : Nat
  c : Nat
def TOk : List Tok → Prop
  | [] => False
  | [e] => e.k = 0 ∧ e.t = []
  | a :: r => (a.k = 1 ∨ a.k = 3) ∧ TOk r
theorem TOk.tail {a : Tok} {r : List Tok} (h : TOk (a :: r)) (h0 : a.k ≠ 0) : TOk r ∧ (a.k = 1 ∨ a.k = 3) := by
  cases r with
  | nil => exact absurd h.1 h0
  | cons b r => exact ⟨h.2, h.1⟩
theorem TOk.ne {ts : List Tok} (h : TOk ts) : ts ≠ [] := fun e => by rw [e] at h; exact h
theorem TOk.pos {ts : List Tok} (h : TOk ts) : 0 < ts.length := List.length_pos_iff.2 h.ne
theorem TOk.end {a : Tok} {r : List Tok} (h : TOk (a :: r)) (h0 : a.k = 0) : r = [] ∧ a.t = [] := by
  cases r with
  | nil => exact ⟨rfl, h.2⟩
  | cons b r => rcases h.1 with h | h <;> omega
def hd (ts : List Tok) : Tok := ts.headD ⟨0, [], 0, 0⟩
def tis (ts : List Tok) (s : List UInt8) : Bool := decide ((hd ts).k ≠ 0) && decide ((hd ts).t = s)
abbrev zz : RQ := ⟨false, [], []⟩
def ndB (op x y : Int) (a : Tok) : Nd := ⟨6, [], zz, zz, zz, zz, op, x, y, a.l, a.c⟩
def ndU (x : Int) (a : Tok) : Nd := ⟨5, [], zz, zz, zz, zz, 0, x, 0, a.l, a.c⟩
def ndA (k : Int) (a : Tok) : Nd := ⟨k, [], zz, zz, zz, zz, 0, 0, 0, a.l, a.c⟩
def ndN (a : Tok) : Nd := ⟨1, a.t, zz, zz, zz, zz, 0, 0, 0, a.l, a.c⟩
abbrev wAll : List UInt8 := [97, 108, 108]
abbrev wNone : List UInt8 := [110, 111, 110, 101]
abbrev wHalf : List UInt8 := [104, 97, 108, 102]
theorem rk_B {op x y : Int} {a : Tok} : rk (ndB op x y a) = if op = 2 then 2 else 1 := by
  unfold rk ndB; simp
section
variable {P : Program} {C : Ctx} {n : Nat} {F F' F0 Fe : Fr} {H : LH} {ops : Array Oper} {Q : Exit → Fr → LH → Prop} {rs : List Nat} {Hc : LH} {E : Nat → LH}
def befB (ops : Array Oper) (k t : Nat) : Bool := (List.range k).any fun j => dstAt ops j == some t
def lisB (ops : Array Oper) (listed : Array Bool) (t : Nat) : Bool := (List.range ops.size).any fun j => listed.getD j false && dstAt ops j == some t
def mixF (B : Nat → Bool) (Fe F0 : Fr) : Fr := fun t => bif B t then Fe t else F0 t
def mixOk (ops : Array Oper) (rs : List Nat) : Bool :=
  ((List.range ops.size).all fun i => backAt ops i) &&
  ((List.range ops.size).all fun i => (List.range i).all fun j => (dstAt ops j).isNone || !(dstAt ops i == dstAt ops j)) &&
  ((List.range ops.size).all fun i => (List.range ops.size).all fun j => match dstAt ops j with
    | some d => !looksAtB ops i d || (bif Nat.blt j i then edgeT ops i j else (Nat.beq i j || edgeT ops j i))
    | none => true) &&
  ((List.range rs.length).all fun t => Nat.blt (rs.getD t 0) ops.size && (List.range t).all fun u => edgeT ops (rs.getD t 0) (rs.getD u 0) && Nat.blt (rs.getD u 0) (rs.getD t 0))
inductive Mx (P : Program) (C : Ctx) (n : Nat) (ops : Array Oper) (rs : List Nat) (Hc : LH) (E : Nat → LH) : Nat → Nat → List Oper → Fr → Fr → Prop
  | nil {i s : Nat} (F : Fr) : Mx P C n ops rs Hc E i s [] F F
  | free {i s d : Nat} {o : Oper} {sv : SV} {r : List Oper} {F F' : Fr} (hr : rs.contains i = false) (hd : o.dst = some d) (hdn : Nat.blt d n = true) (hds : DS P ops n Hc o F sv) (h : Mx P C n ops rs Hc E (i + 1) s r (upd F d sv) F') : Mx P C n ops rs Hc E i s (o :: r) F F'
  | row {i s : Nat} {o : Oper} {sv : SV} {r : List Oper} {F F' : Fr} (hr : rs[s]? = some i) (hts : TS P C n ops i o F (E s ++ Hc) sv (E (s + 1) ++ Hc)) (h : Mx P C n ops rs Hc E (i + 1) (s + 1) r (dstf o F sv) F') : Mx P C n ops rs Hc E i s (o :: r) F F'
def Vld (P : Program) (C : Ctx) (n : Nat) (ops : Array Oper) (rs : List Nat) (Hc : LH) (E : Nat → LH) (F0 Fe : Fr) (k : Nat) : Prop := ∃ o, ops[k]? = some o ∧ ∃ Fk : Fr, (∀ t, Fk t = mixF (befB ops k) Fe F0 t) ∧
  ((rs.contains k = false ∧ ∃ d, o.dst = some d ∧ Nat.blt d n = true ∧ DS P ops n Hc o Fk (Fe d)) ∨
   ∃ s sv, rs[s]? = some k ∧ (∀ d, o.dst = some d → sv = Fe d) ∧ TS P C n ops k o Fk (E s ++ Hc) sv (E (s + 1) ++ Hc))
theorem Mx.keep {i s : Nat} {l : List Oper} (h : Mx P C n ops rs Hc E i s l F F') : ∀ t, (∀ o ∈ l, o.dst ≠ some t) → F' t = F t := by
  induction h with
  | nil => intro t _; rfl
  | free _ hd _ _ _ ih =>
    intro t ht
    rw [ih t fun o ho => ht o (by simp [ho])]
    exact upd_ne fun e => ht _ List.mem_cons_self (by rw [hd, e])
  | @row i s o sv r F F' _ _ _ ih =>
    intro t ht
    rw [ih t fun o ho => ht o (by simp [ho])]
    unfold dstf
    cases hd : o.dst with
    | none => rfl
    | some d => exact upd_ne fun e => ht o (by simp) (by rw [hd, e])
theorem befB_succ (k t : Nat) : befB ops (k + 1) t = (befB ops k t || dstAt ops k == some t) := by
  unfold befB; rw [List.range_succ, List.any_append]; simp
theorem mixOk_spec (h : mixOk ops rs = true) : (∀ i, i < ops.size → backAt ops i = true) ∧ (∀ i j d, i < ops.size → j < i → dstAt ops j = some d → dstAt ops i ≠ some d) ∧
    (∀ i j d, i < ops.size → j < ops.size → dstAt ops j = some d → looksAtB ops i d = true → (j < i → edgeT ops i j = true) ∧ (i < j → edgeT ops j i = true)) ∧
    ∀ (t k : Nat), rs[t]? = some k → k < ops.size ∧ ∀ (u : Nat) (k' : Nat), u < t → rs[u]? = some k' → edgeT ops k k' = true ∧ k' < k := by
  simp only [mixOk, Bool.and_eq_true, List.all_eq_true, List.mem_range, Bool.or_eq_true, Nat.blt_eq] at h
  obtain ⟨⟨⟨h1, h2⟩, h3⟩, h4⟩ := h
  refine ⟨h1, fun i j d hi hj hd he => ?_, fun i j d hi hj hd hl => ?_, fun t k hk => ?_⟩
  · rcases h2 i hi j hj with h | h
    · rw [hd] at h; cases h
    · rw [hd, he] at h; simp at h
  · have := h3 i hi j hj
    rw [hd] at this
    simp only [hl, Bool.not_true, Bool.false_or] at this
    refine ⟨fun hji => ?_, fun hij => ?_⟩
    · rw [show Nat.blt j i = true from by simpa using hji] at this
      exact this
    · rw [show Nat.blt j i = false from by
        cases hb : Nat.blt j i with
        | false => rfl
        | true => have := Nat.blt_eq.mp hb; omega] at this
      simp only [cond_false, Bool.or_eq_true] at this
      rcases this with h | h
      · have := Nat.eq_of_beq_eq_true h; omega
      · exact h
  · have ht := (List.getElem?_eq_some_iff.1 hk).1
    have gk : rs.getD t 0 = k := by simp [List.getD, hk]
    obtain ⟨g1, g2⟩ := h4 t ht
    rw [gk] at g1 g2
    refine ⟨g1, fun u k' hu hk' => ?_⟩
    have gk' : rs.getD u 0 = k' := by simp [List.getD, hk']
    have := g2 u hu
    rw [gk'] at this
    exact this
theorem dstAt_of {i : Nat} {o : Oper} (h : ops[i]? = some o) : dstAt ops i = o.dst := by unfold dstAt; rw [h]
theorem Mx.vld (hchk : mixOk ops rs = true) {i s : Nat} {l : List Oper} (h : Mx P C n ops rs Hc E i s l F Fe) : l = ops.toList.drop i → (∀ t, F t = mixF (befB ops i) Fe F0 t) → ∀ k, i ≤ k → k < ops.size → Vld P C n ops rs Hc E F0 Fe k := by
  obtain ⟨_, hdis, _, _⟩ := mixOk_spec hchk
  induction h with
  | nil =>
    intro hl _ k hik hk
    have := congrArg List.length hl
    simp at this
    omega
  | @free i s d o sv r F F' hr hd hdn hds h ih =>
    intro hl hF k hik hk
    have ho : ops[i]? = some o := by
      have := congrArg (·[0]?) hl
      simpa using this.symm
    have hr' : r = ops.toList.drop (i + 1) := by
      have := congrArg List.tail hl
      simpa using this
    have hsv : F' d = sv := by
      rw [h.keep d fun o' ho' => ?_]
      · exact upd_eq
      · rw [hr'] at ho'
        obtain ⟨j, hj, rfl⟩ := List.mem_iff_getElem.1 ho'
        simp only [List.length_drop, Array.length_toList] at hj
        simp only [List.getElem_drop, Array.getElem_toList]
        have := hdis (i + 1 + j) i d (by omega) (by omega) (by rw [dstAt_of ho, hd])
        rwa [dstAt_of (o := ops[i + 1 + j]) (by simp)] at this
    rcases Nat.lt_or_ge i k with hlt | hge
    · refine ih hr' (fun t => ?_) k (by omega) hk
      unfold mixF
      rw [befB_succ, dstAt_of ho, hd]
      by_cases ht : t = d
      · subst ht; rw [upd_eq, hsv]; simp
      · rw [upd_ne ht, hF t]
        unfold mixF
        have : (some d == some t) = false := by simpa using fun e => ht e.symm
        rw [this, Bool.or_false]
    · obtain rfl : k = i := by omega
      exact ⟨o, ho, F, hF, .inl ⟨hr, d, hd, hdn, hsv ▸ hds⟩⟩
  | @row i s o sv r F F' hr hts h ih =>
    intro hl hF k hik hk
    have ho : ops[i]? = some o := by
      have := congrArg (·[0]?) hl
      simpa using this.symm
    have hr' : r = ops.toList.drop (i + 1) := by
      have := congrArg List.tail hl
      simpa using this
    have hsv : ∀ d, o.dst = some d → F' d = sv := fun d hd => by
      rw [h.keep d fun o' ho' => ?_]
      · unfold dstf; rw [hd]; exact upd_eq
      · rw [hr'] at ho'
        obtain ⟨j, hj, rfl⟩ := List.mem_iff_getElem.1 ho'
        simp only [List.length_drop, Array.length_toList] at hj
        simp only [List.getElem_drop, Array.getElem_toList]
        have := hdis (i + 1 + j) i d (by omega) (by omega) (by rw [dstAt_of ho, hd])
        rwa [dstAt_of (o := ops[i + 1 + j]) (by simp)] at this
    rcases Nat.lt_or_ge i k with hlt | hge
    · refine ih hr' (fun t => ?_) k (by omega) hk
      unfold mixF dstf
      rw [befB_succ, dstAt_of ho]
      cases hd : o.dst with
      | none =>
        simp only
        rw [hF t]
        unfold mixF
        simp
      | some d =>
        by_cases ht : t = d
        · subst ht; simp only [upd_eq]; rw [hsv _ hd]; simp
        · simp only [upd_ne ht]
          rw [hF t]
          unfold mixF
          have : (some d == some t) = false := by simpa using fun e => ht e.symm
          rw [this, Bool.or_false]
    · obtain rfl : k = i := by omega
      exact ⟨o, ho, F, hF, .inr ⟨s, sv, hr, fun d hd => (hsv d hd).symm, hts⟩⟩
theorem lisB_set {listed : Array Bool} {i t : Nat} {o : Oper} (hs : listed.size = ops.size) (ho : ops[i]? = some o) : lisB ops (listed.setIfInBounds i true) t = (lisB ops listed t || o.dst == some t) := by
  have hio := (Array.getElem?_eq_some_iff.1 ho).1
  have key : ∀ j, j < ops.size → ((listed.setIfInBounds i true).getD j false = (listed.getD j false || Nat.beq j i)) := fun j hj => by
    by_cases hji : i = j
    · subst hji; simp [hs, hio]
    · rw [getD_set_ne false hji]
      have : Nat.beq j i = false := by
        cases hb : Nat.beq j i with
        | false => rfl
        | true => exact absurd (Nat.eq_of_beq_eq_true hb).symm hji
      rw [this, Bool.or_false]
  rw [Bool.eq_iff_iff]
  unfold lisB
  simp only [List.any_eq_true, List.mem_range, Bool.and_eq_true, Bool.or_eq_true]
  constructor
  · rintro ⟨j, hj, h1, h2⟩
    rw [key j hj, Bool.or_eq_true] at h1
    rcases h1 with h1 | h1
    · exact .inl ⟨j, hj, h1, h2⟩
    · have := Nat.eq_of_beq_eq_true h1
      subst this
      rw [dstAt_of ho] at h2
      exact .inr h2
  · rintro (⟨j, hj, h1, h2⟩ | h2)
    · exact ⟨j, hj, by rw [key j hj, h1]; rfl, h2⟩
    · exact ⟨i, hio, by rw [key i hio, Nat.beq_refl]; simp, by rw [dstAt_of ho]; exact h2⟩
theorem edgeT_on {i j : Nat} {listed : Array Bool} (hcl : Closed ops listed) (hi : listed.getD i false = true) (he : edgeT ops i j = true) : listed.getD j false = true := by
  have on : ∀ (k S : Nat), (∀ j, S.testBit j = true → listed.getD j false = true) → ∀ j, (clos ops k S).testBit j = true → listed.getD j false = true := by
    intro k
    induction k with
    | zero => intro S hS j h; exact hS j h
    | succ k ih =>
      intro S hS j h
      unfold clos at h
      refine ih _ (fun j h => ?_) j h
      cases hb : S.testBit k with
      | false => rw [hb] at h; exact hS j h
      | true =>
        rw [hb] at h
        simp only [cond_true, Nat.testBit_or, Bool.or_eq_true] at h
        rcases h with h | h
        · exact hS j h
        · exact hcl k j (hS k hb) (dmask_edge h)
  exact on i _ (fun j h => hcl i j hi (dmask_edge h)) j he
theorem mixRun {Q' : Exit → Act → World → Prop} (hchk : mixOk ops rs = true) (hv : ∀ k, k < ops.size → Vld P C n ops rs Hc E F0 Fe k) (hF0 : ∀ t, befB ops ops.size t = false → Fe t = F0 t)
    (fin : ∀ a w, St C n Fe (E rs.length ++ Hc) a w → Q' .normal a w) :
    ∀ (fuel s : Nat) (listed : Array Bool) (a : Act) (w : World), s ≤ rs.length → (left ops ops.size listed).length ≤ fuel → listed.size = ops.size → Closed ops listed →
      (∀ (u : Nat) (k : Nat), rs[u]? = some k → (listed.getD k true = true ↔ u < s)) → St C n (mixF (lisB ops listed) Fe F0) (E s ++ Hc) a w → wpAny P .any ops Q' fuel listed a w := by
  obtain ⟨hback, hdis, hlook, hrow⟩ := mixOk_spec hchk
  have done : ∀ (s : Nat) (listed : Array Bool) (a : Act) (w : World), s ≤ rs.length → left ops ops.size listed = [] → listed.size = ops.size →
      (∀ (u : Nat) (k : Nat), rs[u]? = some k → (listed.getD k true = true ↔ u < s)) → St C n (mixF (lisB ops listed) Fe F0) (E s ++ Hc) a w → Q' .normal a w := by
    intro s listed a w hsr hnil hs hr hst
    have all : ∀ j, j < ops.size → listed.getD j true = true := fun j hj => by
      cases hb : listed.getD j true with
      | true => rfl
      | false =>
        have : (j, ops[j]) ∈ left ops ops.size listed := mem_left.2 ⟨hj, by simp, hb⟩
        rw [hnil] at this; cases this
    have hs' : s = rs.length := by
      rcases Nat.lt_or_ge s rs.length with h | h
      · exfalso
        have h1 : rs[s]? = some rs[s] := by simp [h]
        have h2 := (hrow s _ h1).1
        have := (hr s _ h1).1 (all _ h2)
        omega
      · omega
    subst hs'
    refine fin a w (hst.le fun t => Le.of_eq ?_)
    unfold mixF
    have hb : lisB ops listed t = befB ops ops.size t := by
      rw [Bool.eq_iff_iff]
      unfold lisB befB
      simp only [List.any_eq_true, List.mem_range, Bool.and_eq_true]
      constructor
      · rintro ⟨j, h1, _, h3⟩; exact ⟨j, h1, h3⟩
      · rintro ⟨j, h1, h3⟩
        refine ⟨j, h1, ?_, h3⟩
        have := all j h1
        have hsz : j < listed.size := by omega
        simp [hsz] at this ⊢; exact this
    rw [hb]
    cases h : befB ops ops.size t with
    | true => rfl
    | false => exact (hF0 t h).symm
  have noready : ∀ (listed : Array Bool), listed.size = ops.size → Region.ready .any ops listed = [] → left ops ops.size listed = [] := fun listed hs hr => by
    cases hl : left ops ops.size listed with
    | nil => rfl
    | cons x l' =>
      exfalso
      obtain ⟨i, o⟩ := x
      have hmem : (i, o) ∈ left ops ops.size listed := by rw [hl]; simp
      obtain ⟨h1, h2, h3⟩ := mem_left.1 hmem
      simp only at h1 h2 h3
      have hready : i ∈ Region.ready .any ops listed := by
        rw [mem_ready]
        refine ⟨h3, o, h2, fun e he hb => ?_⟩
        have hlt := back_spec (hback i h1) h2 e he hb
        cases hle : listed.getD e.on false with
        | true => rfl
        | false =>
          have hsz : e.on < listed.size := by omega
          have h4 : listed.getD e.on true = false := by simp [hsz] at hle ⊢; exact hle
          have hm2 : (e.on, ops[e.on]'(by omega)) ∈ left ops ops.size listed := mem_left.2 ⟨by simp only; omega, by simp, h4⟩
          have hsort := left_sorted (ops := ops) ops.size listed
          rw [hl] at hsort hm2
          rcases List.mem_cons.1 hm2 with h | h
          · simp only [Prod.mk.injEq] at h; omega
          · have := (List.pairwise_cons.1 hsort).1 _ h; simp at this; omega
      rw [hr] at hready; cases hready
  intro fuel
  induction fuel with
  | zero =>
    intro s listed a w hsr hfu hs hcl hr hst
    have hnil := List.eq_nil_of_length_eq_zero (Nat.le_zero.1 hfu)
    refine ⟨?_, done s listed a w hsr hnil hs hr hst⟩
    cases hrd : Region.ready .any ops listed with
    | nil => rfl
    | cons i l =>
      exfalso
      have hi : i ∈ Region.ready .any ops listed := by rw [hrd]; simp
      obtain ⟨hun, o, ho, _⟩ := mem_ready.1 hi
      have : (i, o) ∈ left ops ops.size listed := mem_left.2 ⟨(Array.getElem?_eq_some_iff.1 ho).1, ho, hun⟩
      rw [hnil] at this; cases this
  | succ fuel ih =>
    intro s listed a w hsr hfu hs hcl hr hst
    refine ⟨fun hrd => done s listed a w hsr (noready listed hs hrd) hs hr hst, fun i hi => ?_⟩
    obtain ⟨hun, o, ho, _⟩ := mem_ready.1 hi
    have hio := (Array.getElem?_eq_some_iff.1 ho).1
    have hmem : (i, o) ∈ left ops ops.size listed := mem_left.2 ⟨hio, ho, hun⟩
    obtain ⟨l1, l2, hl12⟩ := List.append_of_mem hmem
    have hset := left_set hs hio hl12
    have hlen : (l1 ++ l2).length + 1 = (left ops ops.size listed).length := by rw [hl12]; simp; omega
    obtain ⟨o', ho', Fk, hFk, hcase⟩ := hv i hio
    rw [ho] at ho'
    obtain rfl := Option.some.inj ho'
    have hlooks : ∀ t ∈ o.looksAt ops, Fk t = mixF (lisB ops listed) Fe F0 t := fun t ht => by
      rw [hFk t]
      unfold mixF
      have hlk : looksAtB ops i t = true := by unfold looksAtB; rw [ho]; simpa using ht
      have : befB ops i t = lisB ops listed t := by
        rw [Bool.eq_iff_iff]
        unfold lisB befB
        simp only [List.any_eq_true, List.mem_range, Bool.and_eq_true]
        constructor
        · rintro ⟨j, h1, h2⟩
          have h2' : dstAt ops j = some t := by simpa using h2
          exact ⟨j, by omega, edgeT_listed hcl hi ((hlook i j t hio (by omega) h2' hlk).1 h1), h2⟩
        · rintro ⟨j, h1, h2, h3⟩
          have h3' : dstAt ops j = some t := by simpa using h3
          refine ⟨j, ?_, h3⟩
          rcases Nat.lt_trichotomy j i with h | h | h
          · exact h
          · exfalso; subst h; rw [listed_false hs h1 h2] at hun; cases hun
          · exfalso
            have he := (hlook i j t hio h1 h3' hlk).2 h
            have := listed_false hs hio (edgeT_on hcl h2 he)
            rw [this] at hun; cases hun
      rw [this]
    have hmix : ∀ d, o.dst = some d → upd (mixF (lisB ops listed) Fe F0) d (Fe d) = mixF (lisB ops (listed.setIfInBounds i true)) Fe F0 := fun d hd => by
      funext t
      unfold mixF
      rw [lisB_set hs ho, hd]
      by_cases ht : t = d
      · subst ht; rw [upd_eq]; simp
      · rw [upd_ne ht]
        have : (some d == some t) = false := by simpa using fun e => ht e.symm
        rw [this, Bool.or_false]
    have hmix0 : o.dst = none → mixF (lisB ops listed) Fe F0 = mixF (lisB ops (listed.setIfInBounds i true)) Fe F0 := fun hd => by
      funext t
      unfold mixF
      rw [lisB_set hs ho, hd]
      simp
    rcases hcase with ⟨hnr, d, hd, hdn, hds⟩ | ⟨u, sv, hu, hsv, hts⟩
    · have hds' := hds.frame hlooks
      obtain ⟨hdef, hn, m, h1, h2, h3, h4, h5⟩ := hst
      refine hds'.wp ho hd hn h1 h2.tail h5 fun v m' w' hv' hm' hH' r => ?_
      refine ih s _ _ _ hsr (by rw [hset]; omega) (by simpa using hs) (hcl.step hi) (fun u k hk => ?_) ?_
      · have hki : i ≠ k := fun e => by
          have : rs.contains i = true := by rw [e]; exact List.contains_iff_mem.2 (List.mem_of_getElem? hk)
          rw [hnr] at this; cases this
        rw [getD_set_ne true hki]
        exact hr u k hk
      · rw [← hmix d hd]
        exact St.put (Nat.blt_eq.mp hdn) hdef hn h2 h3 h4 h5 hv' hm' (h2.beside hH' r) (r.mono fun b hb => by unfold keys at *; rw [List.map_append]; exact List.mem_append_right _ hb)
    · have hus : u = s := by
        rcases Nat.lt_trichotomy u s with h | h | h
        · exfalso
          have := (hr u i hu).2 h
          rw [hun] at this; cases this
        · exact h
        · exfalso
          have hul := (List.getElem?_eq_some_iff.1 hu).1
          have h1 : rs[s]? = some (rs[s]'(by omega)) := by simp
          have h2 := ((hrow u i hu).2 s _ h h1).1
          have h3 := listed_false hs (hrow s _ h1).1 (edgeT_listed hcl hi h2)
          have := (hr s _ h1).1 h3
          omega
      subst hus
      have hul := (List.getElem?_eq_some_iff.1 hu).1
      refine hts _ hlooks a w hst Q' _ fun a' w' hst' => ?_
      refine ih (u + 1) _ _ _ hul (by rw [hset]; omega) (by simpa using hs) (hcl.step hi) (fun x k hk => ?_) ?_
      · by_cases hki : i = k
        · subst hki
          have hx : x = u := by
            rcases Nat.lt_trichotomy x u with h | h | h
            · have := ((hrow u i hu).2 x _ h hk).2; omega
            · exact h
            · have := ((hrow x i hk).2 u _ h hu).2; omega
          subst hx
          simp [hs, hio]
        · rw [getD_set_ne true hki, hr x k hk]
          constructor
          · intro h; omega
          · intro h
            rcases Nat.lt_or_ge x u with h' | h'
            · exact h'
            · exfalso
              have : x = u := by omega
              subst this
              rw [hu] at hk
              exact hki (Option.some.inj hk)
      · unfold dstf at hst'
        cases hd : o.dst with
        | none => rw [hd] at hst'; rw [← hmix0 hd]; exact hst'
        | some d =>
          rw [hd] at hst'
          simp only at hst'
          rw [hsv d hd] at hst'
          rw [← hmix d hd]; exact hst'
attribute [local semireducible] WP WPL Dk PuH
def Mk (P : Program) (C : Ctx) (n : Nat) (ops : Array Oper) (rs : List Nat) (Hc : LH) (E : Nat → LH) (i s : Nat) (l : List Oper) (K : Fr → Prop) (F : Fr) : Prop := ∃ Fe, Mx P C n ops rs Hc E i s l F Fe ∧ K Fe
theorem WdM {id : Nat} {l : List Oper} (rs : List Nat) (Hc : LH) (E : Nat → LH) (h : Mk P C n l.toArray rs Hc E 0 0 l (fun Fe => Q .normal Fe (E rs.length ++ Hc)) F) (h0 : E 0 ++ Hc = H := by exact rfl) (hm : P.follows .mixedOrders = true := by kernel_rfl) (hchk : mixOk l.toArray rs = true := by decide +kernel) :
    WP P C n (.region id l.toArray true) Q F H := by
  obtain ⟨Fe, hx, hQ⟩ := h
  intro a w hs
  subst h0
  refine wp_region_any hm ?_
  refine mixRun (C := C) (n := n) (F0 := F) (Fe := Fe) (rs := rs) (Hc := Hc) (E := E) hchk (fun k hk => hx.vld hchk (by simp) (fun t => by simp [mixF, befB]) k (Nat.zero_le _) hk) (fun t ht => hx.keep t fun o ho e => ?_) (fun a' w' hst => .mk hst hQ) l.toArray.size 0 _ a _ (Nat.zero_le _) ?_ (by simp) (fun m j hm => by by_cases hlt : m < l.length <;> simp [hlt] at hm) (fun u k hk => ?_) ?_
  · obtain ⟨j, hj, rfl⟩ := List.mem_iff_getElem.1 ho
    have : befB l.toArray l.toArray.size t = true := by
      unfold befB
      rw [List.any_eq_true]
      exact ⟨j, by simpa using hj, by rw [dstAt_of (o := l[j]) (by simp [hj]), e]; simp⟩
    rw [ht] at this; cases this
  · unfold left
    refine Nat.le_trans (List.length_filter_le _ _) ?_
    simp
  · have hkl := ((mixOk_spec hchk).2.2.2 u k hk).1
    have hkl' : k < l.length := by simpa using hkl
    simp [hkl']
  · obtain ⟨hdef, hn, m, h1, h2, h3, h4, h5⟩ := hs
    refine ⟨hdef, hn, m, ⟨h1.at', h1.base⟩, ⟨h2.1, h2.2⟩, ⟨h3.le, h3.old, h3.os, h3.tape, h3.output, h3.size, h3.block⟩, h4, fun t => ?_⟩
    have : lisB l.toArray (Array.replicate l.toArray.size false) t = false := by
      unfold lisB
      rw [List.any_eq_false]
      intro j hj
      have hj' : j < l.length := by simpa using hj
      simp [hj']
    unfold mixF
    rw [this]
    exact h5 t
section
variable {l : List Oper} {K : Fr → Prop} {i s : Nat}
theorem MkN (h : K F) : Mk P C n ops rs Hc E i s [] K F := ⟨F, .nil F, h⟩
def freeB (rs : List Nat) (i k : Nat) : Bool := (List.range k).all fun j => !rs.contains (i + j)
def mkD (P : Program) (C : Ctx) (n : Nat) (ops : Array Oper) (rs : List Nat) (Hc : LH) (E : Nat → LH) (i s : Nat) (l : List Oper) (K : Fr → Prop) : List NW → Fr → Prop := fun N F => N = [] ∧ Mk P C n ops rs Hc E i s l K F
theorem mkD0 (h : Mk P C n ops rs Hc E i s l K F) : mkD P C n ops rs Hc E i s l K [] F := ⟨rfl, h⟩
theorem Dr.mx {s : Nat} {Fe : Fr} : ∀ (k : Nat) (l : List Oper) (i : Nat) (F F' : Fr), freeB rs i k = true → k ≤ l.length → Dr P ops n Hc (preK i k l) [] F F' → Mx P C n ops rs Hc E (i + k) s (l.drop k) F' Fe → Mx P C n ops rs Hc E i s l F Fe
  | 0, l, i, F, F', _, _, h, hx => by
    cases h
    simpa using hx
  | k + 1, [], i, F, F', _, hk, _, _ => by simp at hk
  | k + 1, o :: l, i, F, F', hf, hk, h, hx => by
    have hfi : rs.contains i = false ∧ freeB rs (i + 1) k = true := by
      unfold freeB at hf ⊢
      simp only [List.all_eq_true, List.mem_range, Bool.not_eq_true'] at hf ⊢
      refine ⟨by simpa using hf 0 (by omega), fun j hj => ?_⟩
      have := hf (j + 1) (by omega)
      rwa [show i + (j + 1) = i + 1 + j from by omega] at this
    unfold preK at h
    cases h with
    | val hd hds hdn h =>
      exact .free hfi.1 hd hdn hds (Dr.mx k l (i + 1) _ _ hfi.2 (by simpa using hk) h (by rw [show i + 1 + k = i + (k + 1) from by omega]; simpa using hx))
theorem MkD (k : Nat) (h : Dk P ops n Hc (preK i k l) (mkD P C n ops rs Hc E (i + k) s (l.drop k) K) F) (hf : freeB rs i k = true := by exact rfl) (hk : Nat.ble k l.length = true := by exact rfl) : Mk P C n ops rs Hc E i s l K F := by
  obtain ⟨N, F', h1, rfl, Fe, hx, hK⟩ := h
  exact ⟨Fe, Dr.mx k l i F F' hf (Nat.le_of_ble_eq_true hk) h1 hx, hK⟩
theorem MkR {o : Oper} {sv : SV} (hts : TS P C n ops i o F (E s ++ Hc) sv (E (s + 1) ++ Hc)) (h : Mk P C n ops rs Hc E (i + 1) (s + 1) l K (dstf o F sv)) (hr : rs[s]? = some i := by exact rfl) : Mk P C n ops rs Hc E i s (o :: l) K F := by
  obtain ⟨Fe, hx, hK⟩ := h
  exact ⟨Fe, .row hr hts hx, hK⟩
theorem wp_agree {o : Oper} {a : Act} {w : World} {K' : Act → World → Prop} {Q1 Q2 : Exit → Act → World → Prop} (h : o.wp P a w K' Q1) (hp : ∀ ch a w, Q1 (.panic ch) a w → Q2 (.panic ch) a w) (ho : ∀ a w, Q1 .outgrown a w → Q2 .outgrown a w) : o.wp P a w K' Q2 := by
  unfold Oper.wp at *
  generalize (execOp a.eval o).run P w = r at *
  unfold Oper.upon at *
  split at h
  · exact h
  · exact h
  · exact h
  · refine Calls.mono h ?_
    intro e w'' he
    cases e with
    | returned v => exact he
    | panicked ch => exact hp _ _ _ he
    | outgrown => obtain ⟨a0, w0, h0⟩ := he; exact ⟨a0, w0, ho _ _ h0⟩
  · exact h
  · exact hp _ _ _ h
  · exact h.elim
theorem TS.call {i d : Nat} {f : FuncId} {la : List Operand} {tys : Array TypeId} {ty : TypeId} {pos : String} {aft : Array Edge} {svs : List SV} {Hin Hout Rs : LH} {res : SV} (hc : PuH P f svs Hin (fun r H => r = res ∧ H = Hout) noX) (ha : la.map (ev F) = svs) (hd : Nat.blt d n = true) (ho : ops[i]? = some ⟨some d, .call ⟨.value (.func f), la.toArray, tys⟩, ty, pos, aft, none⟩) :
    TS P C n ops i ⟨some d, .call ⟨.value (.func f), la.toArray, tys⟩, ty, pos, aft, none⟩ F (Hin ++ Rs) res (Hout ++ Rs) := by
  intro F1 hF a w hst Q' K' hK
  have ha' : la.map (ev F1) = svs := by
    rw [← ha]
    refine List.map_congr_left fun x hx => ?_
    exact ev_looks (o := ⟨some d, .call ⟨.value (.func f), la.toArray, tys⟩, ty, pos, aft, none⟩) (x := x) (by simp [Op.operands, Call.operands, hx]) hF
  have h := WPL.callHG (P := P) (C := { C with pan := noX }) (n := n) (F := F1) (H := Hin ++ Rs) (ops := ops) (rest := []) (d := d) (x := .func f) (s := lit (.func (.func f) #[] #[])) (f := f) (first := []) (caps := []) (l := la) (tys := tys) (ty := ty) (pos := pos) (aft := aft) (g := none)
    (K := fun F' H' => F' = upd F1 d res ∧ H' = Hout ++ Rs) rfl hc (Spl.app _ _) (by rw [List.nil_append, List.append_nil]; exact ha') hd (fun _ _ _ => rfl)
    (fun r H' ⟨hr, hH'⟩ => WPL.nil ⟨by rw [hr], by rw [hH']⟩) (fun _ _ h => h.elim)
  have h' := h a w hst (fun e a' w' => match e with | .normal => K' a' w' | e => False) ⟨fun a' w' F' H' hst' hKK => ?_, fun ch a' w' hp => ?_⟩
  · unfold wpOp
    rw [ho]
    unfold wpList at h'
    simp only [Region.wanted, if_true] at h' ⊢
    left
    rcases h' with h' | ⟨_, a0, w0, h0⟩
    · exact wp_agree h' (fun _ _ _ h => h.elim) (fun _ _ h => h.elim)
    · exact h0.elim
  · obtain ⟨rfl, rfl⟩ := hKK
    exact hK a' w' hst'
  · obtain ⟨_, _, _, _, _, _, _, _, _, _, _, hx⟩ := hp
    exact hx.elim
end
end
end Go.Ab
