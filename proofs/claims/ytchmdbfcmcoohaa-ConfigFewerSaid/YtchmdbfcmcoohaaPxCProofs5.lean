/- Configurations: the loop of the document's stops. -/
import Derived.Test.YtchmdbfcmcoohaaPxCProofs3
set_option linter.unusedVariables false
set_option linter.unusedSimpArgs false
namespace Go.Proofs.Ytchmdbfcmcoohaa.Px.PxC
open Go Go.Proofs
set_option linter.unusedSimpArgs false
set_option linter.unusedVariables false

theorem go_rstops (l0 : List (Int)) (l1 : List (Window)) (v2_0 v2_1 v2_2 v2_4 v2_5 v2_6 v2_7 v2_8 v2_9 v2_10 v2_11 v2_12 v2_13 v2_14 v2_15 v2_16 v2_17 v2_18 v2_19 v2_20 v2_21 v2_22 v2_23 v2_24 v2_25 v2_26 v2_27 v2_28 v2_29 v2_30 v2_31 v2_32 v2_33 v2_34 : Int) (v2_35 v2 : Bool) (v3 : Int) (F d : Nat) : ∀ (suf pre : List Int) (n : Nat), suf.length < n → (pre ++ suf).length ≤ 1048576 →
    I_rstops F (d + 3) n (S_rstops (pre ++ suf) l1 v2_0 v2_1 v2_2 v2_4 v2_5 v2_6 v2_7 v2_8 v2_9 v2_10 v2_11 v2_12 v2_13 v2_14 v2_15 v2_16 v2_17 v2_18 v2_19 v2_20 v2_21 v2_22 v2_23 v2_24 v2_25 v2_26 v2_27 v2_28 v2_29 v2_30 v2_31 v2_32 v2_33 v2_34 v2_35 v2 ((pre.length : Nat) : Int)) = cond (chkR v2_0 pre.getLast? suf) (some (.exit 0, (X_rstops_1 (pre ++ suf) l1 v2_0 v2_1 v2_2 v2_4 v2_5 v2_6 v2_7 v2_8 v2_9 v2_10 v2_11 v2_12 v2_13 v2_14 v2_15 v2_16 v2_17 v2_18 v2_19 v2_20 v2_21 v2_22 v2_23 v2_24 v2_25 v2_26 v2_27 v2_28 v2_29 v2_30 v2_31 v2_32 v2_33 v2_34 v2_35 v2))) (some (.ret, (X_rstops_0 (pre ++ suf) l1 v2_0 v2_1 v2_2 v2_4 v2_5 v2_6 v2_7 v2_8 v2_9 v2_10 v2_11 v2_12 v2_13 v2_14 v2_15 v2_16 v2_17 v2_18 v2_19 v2_20 v2_21 v2_22 v2_23 v2_24 v2_25 v2_26 v2_27 v2_28 v2_29 v2_30 v2_31 v2_32 v2_33 v2_34 v2_35))) := by
  intro suf
  induction suf with
  | nil =>
    intro pre n hn hl
    obtain ⟨n, rfl⟩ : ∃ k, n = k + 1 := ⟨n - 1, by omega⟩
    rw [step_rstops, idx_end, cond_false]
    cases pre.getLast? <;> rfl
  | cons x suf ih =>
    intro pre n hn hl
    obtain ⟨n, rfl⟩ : ∃ k, n = k + 1 := ⟨n - 1, by omega⟩
    have ih' := ih (pre ++ [x]) n (by simp at hn; omega) (by simpa using hl)
    have hpl : pre.length + (suf.length + 1) ≤ 1048576 := by simpa using hl
    rw [step_rstops]
    simp only [idx_lt, idx_ge, Bool.and_self, cond_true, idx_nat, idx_at, idx_next hl, Bool.true_or]
    rw [← idx_step] at ih'
    have hout : (bif decide (x < 0) then true else decide (x ≥ v2_0)) = !(decide (0 ≤ x) && decide (x < v2_0)) := by
      rw [Bool.eq_iff_iff]; simp; try omega
    rw [hout]
    rcases nil_or_snoc pre with rfl | ⟨q, p, rfl⟩
    · simp only [List.length_nil, show decide (((0 : Nat) : Int) > 0) = false from rfl, Bool.and_false, Bool.not_false, Bool.or_true, cond_true, cond_false, or_true', Bool.or_false, List.getLast?_nil]
      rw [show chkR v2_0 none (x :: suf) = ((decide (0 ≤ x) && decide (x < v2_0)) && chkR v2_0 (some x) suf) from rfl]
      cases (decide (0 ≤ x) && decide (x < v2_0))
      · rfl
      · simp only [Bool.not_true, Bool.true_and, cond_false]
        simpa using ih'
    · have hw : IntKind.wrap IntKind.i64 ((((q ++ [p]).length : Nat) : Int) - 1) = (((q ++ [p]).length : Nat) : Int) - 1 := IntWalk.i64_in _ (by simp at hpl ⊢; omega)
      have g1 : (decide (0 ≤ (((q ++ [p]).length : Nat) : Int) - 1) && decide ((((q ++ [p]).length : Nat) : Int) - 1 < (((q ++ [p] ++ x :: suf).length : Nat) : Int))) = true := by simp; omega
      have g2 : decide (0 + Int.toNat ((((q ++ [p]).length : Nat) : Int) - 1) < (q ++ [p] ++ x :: suf).length) = true := by simp
      have g3 : decide ((((q ++ [p]).length : Nat) : Int) > 0) = true := by simp; try omega
      rw [hw]
      simp only [g1, g2, g3, idx_last, Bool.true_or, cond_true]
      rw [show (q ++ [p]).getLast? = some p by simp, show chkR v2_0 (some p) (x :: suf) = ((decide (0 ≤ x) && decide (x < v2_0)) && decide (p < x) && chkR v2_0 (some x) suf) from rfl]
      cases (decide (0 ≤ x) && decide (x < v2_0))
      · rfl
      · have hd : decide (x ≤ p) = !decide (p < x) := by rw [Bool.eq_iff_iff]; simp
        rw [hd]
        cases decide (p < x)
        · rfl
        · simp only [Bool.not_true, Bool.true_and, cond_false, Bool.and_true]
          simpa using ih'

theorem main_rstops (l0 : List (Int)) (l1 : List (Window)) (v2_0 v2_1 v2_2 v2_4 v2_5 v2_6 v2_7 v2_8 v2_9 v2_10 v2_11 v2_12 v2_13 v2_14 v2_15 v2_16 v2_17 v2_18 v2_19 v2_20 v2_21 v2_22 v2_23 v2_24 v2_25 v2_26 v2_27 v2_28 v2_29 v2_30 v2_31 v2_32 v2_33 v2_34 : Int) (v2_35 v2 : Bool) (v3 : Int) (hg : (decide (l0.length ≤ 1048576) && v3 == 0) = true) : ∃ N d, I_rstops N d N (S_rstops l0 l1 v2_0 v2_1 v2_2 v2_4 v2_5 v2_6 v2_7 v2_8 v2_9 v2_10 v2_11 v2_12 v2_13 v2_14 v2_15 v2_16 v2_17 v2_18 v2_19 v2_20 v2_21 v2_22 v2_23 v2_24 v2_25 v2_26 v2_27 v2_28 v2_29 v2_30 v2_31 v2_32 v2_33 v2_34 v2_35 v2 v3) = some (altK Prod.mk [(chkR v2_0 none l0, .exit 0, (X_rstops_1 l0 l1 v2_0 v2_1 v2_2 v2_4 v2_5 v2_6 v2_7 v2_8 v2_9 v2_10 v2_11 v2_12 v2_13 v2_14 v2_15 v2_16 v2_17 v2_18 v2_19 v2_20 v2_21 v2_22 v2_23 v2_24 v2_25 v2_26 v2_27 v2_28 v2_29 v2_30 v2_31 v2_32 v2_33 v2_34 v2_35 v2))] (.ret) (X_rstops_0 l0 l1 v2_0 v2_1 v2_2 v2_4 v2_5 v2_6 v2_7 v2_8 v2_9 v2_10 v2_11 v2_12 v2_13 v2_14 v2_15 v2_16 v2_17 v2_18 v2_19 v2_20 v2_21 v2_22 v2_23 v2_24 v2_25 v2_26 v2_27 v2_28 v2_29 v2_30 v2_31 v2_32 v2_33 v2_34 v2_35)) := by
  simp only [Bool.and_eq_true, decide_eq_true_eq, beq_iff_eq] at hg
  obtain ⟨h1, rfl⟩ := hg
  have := go_rstops l0 l1 v2_0 v2_1 v2_2 v2_4 v2_5 v2_6 v2_7 v2_8 v2_9 v2_10 v2_11 v2_12 v2_13 v2_14 v2_15 v2_16 v2_17 v2_18 v2_19 v2_20 v2_21 v2_22 v2_23 v2_24 v2_25 v2_26 v2_27 v2_28 v2_29 v2_30 v2_31 v2_32 v2_33 v2_34 v2_35 v2 0 (l0.length + 3) 0 l0 [] (l0.length + 3) (by omega) (by simpa using h1)
  refine ⟨l0.length + 3, 3, ?_⟩
  simp only [List.nil_append, List.length_nil, List.getLast?_nil] at this
  rw [show ((0 : Nat) : Int) = 0 from rfl] at this
  rw [this]
  cases h : chkR v2_0 none l0 <;> simp [altK, h]
end Go.Proofs.Ytchmdbfcmcoohaa.Px.PxC
