/- What is said of functions that other seats have, too. -/
import Derived.Test.YtdpdmjjpdebpeaaGreatPxRSteps
import Derived.Test.YtdpdmjjpdebpeaaGreatPxIdx
import Derived.Test.YtdpdmjjpdebpeaaGreatPxSpecCycle
set_option linter.unusedVariables false
set_option linter.unusedSimpArgs false
namespace Go.Proofs.YtdpdmjjpdebpeaaGreat.Px.PxR
open Go Go.Proofs
set_option linter.unusedSimpArgs false
set_option linter.unusedVariables false

theorem chkG_last (ok : Int → Bool) (p : Int) (x : Int) (l : List Int) : chkG ok (some p) (x :: l) = (ok x && decide (p < x) && chkG ok (some x) l) := rfl

theorem go_stops (l0 : List (Int)) (l1 : List (Window)) (v2_0 v2_1 v2_2 v2_4 v2_5 v2_6 v2_7 v2_8 v2_9 v2_10 v2_11 v2_12 v2_13 v2_14 v2_15 v2_16 v2_17 v2_18 v2_19 v2_20 v2_21 v2_22 v2_23 v2_24 v2_25 v2_26 v2_27 v2_28 v2_29 v2_30 v2_31 v2_32 v2_33 v2_34 : Int) (v2_35 v3 : Bool) (v12 v13 : Int) (F d : Nat) : ∀ (suf pre : List Int) (v : Bool) (n : Nat), suf.length < n → (pre ++ suf).length ≤ 1048576 →
    I_stops F (d + 3) n (S_stops (pre ++ suf) l1 v2_0 v2_1 v2_2 v2_4 v2_5 v2_6 v2_7 v2_8 v2_9 v2_10 v2_11 v2_12 v2_13 v2_14 v2_15 v2_16 v2_17 v2_18 v2_19 v2_20 v2_21 v2_22 v2_23 v2_24 v2_25 v2_26 v2_27 v2_28 v2_29 v2_30 v2_31 v2_32 v2_33 v2_34 v2_35 v (((pre ++ suf).length : Nat) : Int) ((pre.length : Nat) : Int)) = some (.exit 0, (X_stops_0 (pre ++ suf) l1 v2_0 v2_1 v2_2 v2_4 v2_5 v2_6 v2_7 v2_8 v2_9 v2_10 v2_11 v2_12 v2_13 v2_14 v2_15 v2_16 v2_17 v2_18 v2_19 v2_20 v2_21 v2_22 v2_23 v2_24 v2_25 v2_26 v2_27 v2_28 v2_29 v2_30 v2_31 v2_32 v2_33 v2_34 v2_35 (v && chkS (IntKind.i64.wrap (v2_0 - 1)) pre.getLast? suf))) := by
  intro suf
  induction suf with
  | nil =>
    intro pre v n hn hl
    obtain ⟨n, rfl⟩ : ∃ k, n = k + 1 := ⟨n - 1, by omega⟩
    rw [step_stops, idx_end, cond_false]
    simp [chkG, chkS]
  | cons x suf ih =>
    intro pre v n hn hl
    obtain ⟨n, rfl⟩ : ∃ k, n = k + 1 := ⟨n - 1, by omega⟩
    have ih' := ih (pre ++ [x]) (v && (inB x 0 (IntKind.i64.wrap (v2_0 - 1)) && (pre.length == 0 || decide (pre.getLast?.getD 0 < x)))) n (by simp at hn; omega) (by simpa using hl)
    have hpl : pre.length + (suf.length + 1) ≤ 1048576 := by simpa using hl
    rw [step_stops]
    simp only [idx_lt, idx_ge, Bool.and_self, cond_true, idx_nat, idx_at, idx_next hl]
    rw [← idx_step] at ih'
    have hacc : (bif bif v then inB x 0 (IntKind.wrap IntKind.i64 (v2_0 - 1)) else false then bif ((pre.length : Nat) : Int) == 0 then true else decide (List.getD (pre ++ x :: suf) (0 + Int.toNat (IntKind.wrap IntKind.i64 ((pre.length : Int) - 1))) 0 < x) else false) = (v && (inB x 0 (IntKind.i64.wrap (v2_0 - 1)) && (pre.length == 0 || decide (pre.getLast?.getD 0 < x)))) := by
      cases v
      · rfl
      · cases inB x 0 (IntKind.wrap IntKind.i64 (v2_0 - 1))
        · rfl
        · rcases nil_or_snoc pre with rfl | ⟨q, p, rfl⟩
          · simp
          · rw [IntWalk.i64_in _ (by simp at hpl ⊢; omega), idx_last, idx_ne0]
            simp
    rw [hacc]
    have g1 : (decide (0 ≤ IntKind.wrap IntKind.i64 ((pre.length : Int) - 1)) && decide (IntKind.wrap IntKind.i64 ((pre.length : Int) - 1) < (((pre ++ x :: suf).length : Nat) : Int)) || !((bif v then inB x 0 (IntKind.wrap IntKind.i64 (v2_0 - 1)) else false) && !((pre.length : Nat) : Int) == 0)) = true := by
      rcases nil_or_snoc pre with rfl | ⟨q, p, rfl⟩
      · simp
      · rw [IntWalk.i64_in _ (by simp at hpl ⊢; omega)]
        simp
        try omega
    have g2 : (decide (0 + Int.toNat (IntKind.wrap IntKind.i64 ((pre.length : Int) - 1)) < (pre ++ x :: suf).length) || !((bif v then inB x 0 (IntKind.wrap IntKind.i64 (v2_0 - 1)) else false) && !((pre.length : Nat) : Int) == 0)) = true := by
      rcases nil_or_snoc pre with rfl | ⟨q, p, rfl⟩
      · simp
      · rw [IntWalk.i64_in _ (by simp at hpl ⊢; omega)]
        simp
        try omega
    rw [g1, cond_true, g2, cond_true]
    rw [ih']
    congr 3
    rcases nil_or_snoc pre with rfl | ⟨q, p, rfl⟩
    · simp [chkG, chkS, Bool.and_assoc]
    · simp [chkG, chkS, Bool.and_assoc]

theorem main_stops (l0 : List (Int)) (l1 : List (Window)) (v2_0 v2_1 v2_2 v2_4 v2_5 v2_6 v2_7 v2_8 v2_9 v2_10 v2_11 v2_12 v2_13 v2_14 v2_15 v2_16 v2_17 v2_18 v2_19 v2_20 v2_21 v2_22 v2_23 v2_24 v2_25 v2_26 v2_27 v2_28 v2_29 v2_30 v2_31 v2_32 v2_33 v2_34 : Int) (v2_35 v3 : Bool) (v12 v13 : Int) (hg : (decide (l0.length ≤ 1048576) && (v12 == (l0.length : Int) && v13 == 0)) = true) : ∃ N d, I_stops N d N (S_stops l0 l1 v2_0 v2_1 v2_2 v2_4 v2_5 v2_6 v2_7 v2_8 v2_9 v2_10 v2_11 v2_12 v2_13 v2_14 v2_15 v2_16 v2_17 v2_18 v2_19 v2_20 v2_21 v2_22 v2_23 v2_24 v2_25 v2_26 v2_27 v2_28 v2_29 v2_30 v2_31 v2_32 v2_33 v2_34 v2_35 v3 v12 v13) = some (altK Prod.mk [] (.exit 0) (X_stops_0 l0 l1 v2_0 v2_1 v2_2 v2_4 v2_5 v2_6 v2_7 v2_8 v2_9 v2_10 v2_11 v2_12 v2_13 v2_14 v2_15 v2_16 v2_17 v2_18 v2_19 v2_20 v2_21 v2_22 v2_23 v2_24 v2_25 v2_26 v2_27 v2_28 v2_29 v2_30 v2_31 v2_32 v2_33 v2_34 v2_35 (v3 && chkS (IntKind.i64.wrap (v2_0 - 1)) none l0))) := by
  simp only [Bool.and_eq_true, decide_eq_true_eq, beq_iff_eq] at hg
  obtain ⟨h1, rfl, rfl⟩ := hg
  have := go_stops l0 l1 v2_0 v2_1 v2_2 v2_4 v2_5 v2_6 v2_7 v2_8 v2_9 v2_10 v2_11 v2_12 v2_13 v2_14 v2_15 v2_16 v2_17 v2_18 v2_19 v2_20 v2_21 v2_22 v2_23 v2_24 v2_25 v2_26 v2_27 v2_28 v2_29 v2_30 v2_31 v2_32 v2_33 v2_34 v2_35 v3 0 0 (l0.length + 3) 0 l0 [] v3 (l0.length + 3) (by omega) (by simpa using h1)
  exact ⟨l0.length + 3, 3, by simpa [altK] using this⟩

theorem go_wins (l0 : List (Int)) (l1 : List (Window)) (v2_0 v2_1 v2_2 v2_4 v2_5 v2_6 v2_7 v2_8 v2_9 v2_10 v2_11 v2_12 v2_13 v2_14 v2_15 v2_16 v2_17 v2_18 v2_19 v2_20 v2_21 v2_22 v2_23 v2_24 v2_25 v2_26 v2_27 v2_28 v2_29 v2_30 v2_31 v2_32 v2_33 v2_34 : Int) (v2_35 : Bool) (v7 v8 : Int) (F d : Nat) : ∀ (suf pre : List Window) (n : Nat), suf.length < n → (pre ++ suf).length ≤ 1048576 →
    I_wins F (d + 3) n (S_wins l0 (pre ++ suf) v2_0 v2_1 v2_2 v2_4 v2_5 v2_6 v2_7 v2_8 v2_9 v2_10 v2_11 v2_12 v2_13 v2_14 v2_15 v2_16 v2_17 v2_18 v2_19 v2_20 v2_21 v2_22 v2_23 v2_24 v2_25 v2_26 v2_27 v2_28 v2_29 v2_30 v2_31 v2_32 v2_33 v2_34 v2_35 (((pre ++ suf).length : Nat) : Int) ((pre.length : Nat) : Int)) = cond (suf.all windowB) (some (.exit 0, (X_wins_1 l0 (pre ++ suf) v2_0 v2_1 v2_2 v2_4 v2_5 v2_6 v2_7 v2_8 v2_9 v2_10 v2_11 v2_12 v2_13 v2_14 v2_15 v2_16 v2_17 v2_18 v2_19 v2_20 v2_21 v2_22 v2_23 v2_24 v2_25 v2_26 v2_27 v2_28 v2_29 v2_30 v2_31 v2_32 v2_33 v2_34 v2_35))) (some (.ret, (X_wins_0 l0 (pre ++ suf) v2_0 v2_1 v2_2 v2_4 v2_5 v2_6 v2_7 v2_8 v2_9 v2_10 v2_11 v2_12 v2_13 v2_14 v2_15 v2_16 v2_17 v2_18 v2_19 v2_20 v2_21 v2_22 v2_23 v2_24 v2_25 v2_26 v2_27 v2_28 v2_29 v2_30 v2_31 v2_32 v2_33 v2_34 v2_35 ((pre.length + suf.findIdx (fun w => !windowB w) : Nat) : Int)))) := by
  intro suf
  induction suf with
  | nil =>
    intro pre n hn hl
    obtain ⟨n, rfl⟩ : ∃ k, n = k + 1 := ⟨n - 1, by omega⟩
    rw [step_wins, idx_end, cond_false]
    rfl
  | cons x suf ih =>
    intro pre n hn hl
    obtain ⟨n, rfl⟩ : ∃ k, n = k + 1 := ⟨n - 1, by omega⟩
    have ih' := ih (pre ++ [x]) n (by simp at hn; omega) (by simpa using hl)
    rw [step_wins]
    simp only [idx_lt, idx_ge, Bool.and_self, cond_true, idx_nat, idx_at, idx_next hl]
    rw [← idx_step] at ih'
    cases hw : windowB x
    · have : (config_Window x != 0) = true := by simp [config_Window, hw, errIf]
      rw [this, cond_true]
      simp [hw, List.findIdx_cons]
    · have : (config_Window x != 0) = false := by simp [config_Window, hw, errIf]
      rw [this, cond_false, ih']
      simp only [List.all_cons, hw, Bool.true_and, List.findIdx_cons, Bool.not_true, cond_false, List.length_append, List.length_singleton]
      rw [show pre.length + 1 + suf.findIdx (fun w => !windowB w) = pre.length + (suf.findIdx (fun w => !windowB w) + 1) by omega]

theorem main_wins (l0 : List (Int)) (l1 : List (Window)) (v2_0 v2_1 v2_2 v2_4 v2_5 v2_6 v2_7 v2_8 v2_9 v2_10 v2_11 v2_12 v2_13 v2_14 v2_15 v2_16 v2_17 v2_18 v2_19 v2_20 v2_21 v2_22 v2_23 v2_24 v2_25 v2_26 v2_27 v2_28 v2_29 v2_30 v2_31 v2_32 v2_33 v2_34 : Int) (v2_35 : Bool) (v7 v8 : Int) (hg : (decide (l1.length ≤ 1048576) && (v7 == (l1.length : Int) && v8 == 0)) = true) : ∃ N d, I_wins N d N (S_wins l0 l1 v2_0 v2_1 v2_2 v2_4 v2_5 v2_6 v2_7 v2_8 v2_9 v2_10 v2_11 v2_12 v2_13 v2_14 v2_15 v2_16 v2_17 v2_18 v2_19 v2_20 v2_21 v2_22 v2_23 v2_24 v2_25 v2_26 v2_27 v2_28 v2_29 v2_30 v2_31 v2_32 v2_33 v2_34 v2_35 v7 v8) = some (altK Prod.mk [(l1.all windowB, .exit 0, (X_wins_1 l0 l1 v2_0 v2_1 v2_2 v2_4 v2_5 v2_6 v2_7 v2_8 v2_9 v2_10 v2_11 v2_12 v2_13 v2_14 v2_15 v2_16 v2_17 v2_18 v2_19 v2_20 v2_21 v2_22 v2_23 v2_24 v2_25 v2_26 v2_27 v2_28 v2_29 v2_30 v2_31 v2_32 v2_33 v2_34 v2_35))] (.ret) (X_wins_0 l0 l1 v2_0 v2_1 v2_2 v2_4 v2_5 v2_6 v2_7 v2_8 v2_9 v2_10 v2_11 v2_12 v2_13 v2_14 v2_15 v2_16 v2_17 v2_18 v2_19 v2_20 v2_21 v2_22 v2_23 v2_24 v2_25 v2_26 v2_27 v2_28 v2_29 v2_30 v2_31 v2_32 v2_33 v2_34 v2_35 (firstBad l1))) := by
  simp only [Bool.and_eq_true, decide_eq_true_eq, beq_iff_eq] at hg
  obtain ⟨h1, rfl, rfl⟩ := hg
  have := go_wins l0 l1 v2_0 v2_1 v2_2 v2_4 v2_5 v2_6 v2_7 v2_8 v2_9 v2_10 v2_11 v2_12 v2_13 v2_14 v2_15 v2_16 v2_17 v2_18 v2_19 v2_20 v2_21 v2_22 v2_23 v2_24 v2_25 v2_26 v2_27 v2_28 v2_29 v2_30 v2_31 v2_32 v2_33 v2_34 v2_35 0 0 (l1.length + 3) 0 l1 [] (l1.length + 3) (by omega) (by simpa using h1)
  refine ⟨l1.length + 3, 3, ?_⟩
  simp only [List.nil_append, List.length_nil, Nat.zero_add] at this
  rw [show ((0 : Nat) : Int) = 0 from rfl] at this
  rw [this]
  cases h : l1.all windowB <;> simp [altK, h, firstBad]

theorem go_rwins (l0 : List (Int)) (l1 : List (Window)) (v2_0 v2_1 v2_2 v2_4 v2_5 v2_6 v2_7 v2_8 v2_9 v2_10 v2_11 v2_12 v2_13 v2_14 v2_15 v2_16 v2_17 v2_18 v2_19 v2_20 v2_21 v2_22 v2_23 v2_24 v2_25 v2_26 v2_27 v2_28 v2_29 v2_30 v2_31 v2_32 v2_33 v2_34 : Int) (v2_35 : Bool) (v7 : Int) (F d : Nat) : ∀ (suf pre : List Window) (n : Nat), suf.length < n → (pre ++ suf).length ≤ 1048576 →
    I_rwins F (d + 3) n (S_rwins l0 (pre ++ suf) v2_0 v2_1 v2_2 v2_4 v2_5 v2_6 v2_7 v2_8 v2_9 v2_10 v2_11 v2_12 v2_13 v2_14 v2_15 v2_16 v2_17 v2_18 v2_19 v2_20 v2_21 v2_22 v2_23 v2_24 v2_25 v2_26 v2_27 v2_28 v2_29 v2_30 v2_31 v2_32 v2_33 v2_34 v2_35 ((pre.length : Nat) : Int)) = cond (suf.all windowB) (some (.exit 0, (X_rwins_1 l0 (pre ++ suf) v2_0 v2_1 v2_2 v2_4 v2_5 v2_6 v2_7 v2_8 v2_9 v2_10 v2_11 v2_12 v2_13 v2_14 v2_15 v2_16 v2_17 v2_18 v2_19 v2_20 v2_21 v2_22 v2_23 v2_24 v2_25 v2_26 v2_27 v2_28 v2_29 v2_30 v2_31 v2_32 v2_33 v2_34 v2_35))) (some (.ret, (X_rwins_0 l0 (pre ++ suf) v2_0 v2_1 v2_2 v2_4 v2_5 v2_6 v2_7 v2_8 v2_9 v2_10 v2_11 v2_12 v2_13 v2_14 v2_15 v2_16 v2_17 v2_18 v2_19 v2_20 v2_21 v2_22 v2_23 v2_24 v2_25 v2_26 v2_27 v2_28 v2_29 v2_30 v2_31 v2_32 v2_33 v2_34 v2_35))) := by
  intro suf
  induction suf with
  | nil =>
    intro pre n hn hl
    obtain ⟨n, rfl⟩ : ∃ k, n = k + 1 := ⟨n - 1, by omega⟩
    rw [step_rwins, idx_end, cond_false]
    rfl
  | cons x suf ih =>
    intro pre n hn hl
    obtain ⟨n, rfl⟩ : ∃ k, n = k + 1 := ⟨n - 1, by omega⟩
    have ih' := ih (pre ++ [x]) n (by simp at hn; omega) (by simpa using hl)
    rw [step_rwins]
    simp only [idx_lt, idx_ge, Bool.and_self, cond_true, idx_nat, idx_at, idx_next hl]
    rw [← idx_step] at ih'
    cases hw : windowB x
    · simp [hw]
    · simp only [Bool.not_true, cond_false]
      rw [ih']
      simp only [List.all_cons, hw, Bool.true_and]

theorem main_rwins (l0 : List (Int)) (l1 : List (Window)) (v2_0 v2_1 v2_2 v2_4 v2_5 v2_6 v2_7 v2_8 v2_9 v2_10 v2_11 v2_12 v2_13 v2_14 v2_15 v2_16 v2_17 v2_18 v2_19 v2_20 v2_21 v2_22 v2_23 v2_24 v2_25 v2_26 v2_27 v2_28 v2_29 v2_30 v2_31 v2_32 v2_33 v2_34 : Int) (v2_35 : Bool) (v7 : Int) (hg : (decide (l1.length ≤ 1048576) && v7 == 0) = true) : ∃ N d, I_rwins N d N (S_rwins l0 l1 v2_0 v2_1 v2_2 v2_4 v2_5 v2_6 v2_7 v2_8 v2_9 v2_10 v2_11 v2_12 v2_13 v2_14 v2_15 v2_16 v2_17 v2_18 v2_19 v2_20 v2_21 v2_22 v2_23 v2_24 v2_25 v2_26 v2_27 v2_28 v2_29 v2_30 v2_31 v2_32 v2_33 v2_34 v2_35 v7) = some (altK Prod.mk [(l1.all windowB, .exit 0, (X_rwins_1 l0 l1 v2_0 v2_1 v2_2 v2_4 v2_5 v2_6 v2_7 v2_8 v2_9 v2_10 v2_11 v2_12 v2_13 v2_14 v2_15 v2_16 v2_17 v2_18 v2_19 v2_20 v2_21 v2_22 v2_23 v2_24 v2_25 v2_26 v2_27 v2_28 v2_29 v2_30 v2_31 v2_32 v2_33 v2_34 v2_35))] (.ret) (X_rwins_0 l0 l1 v2_0 v2_1 v2_2 v2_4 v2_5 v2_6 v2_7 v2_8 v2_9 v2_10 v2_11 v2_12 v2_13 v2_14 v2_15 v2_16 v2_17 v2_18 v2_19 v2_20 v2_21 v2_22 v2_23 v2_24 v2_25 v2_26 v2_27 v2_28 v2_29 v2_30 v2_31 v2_32 v2_33 v2_34 v2_35)) := by
  simp only [Bool.and_eq_true, decide_eq_true_eq, beq_iff_eq] at hg
  obtain ⟨h1, rfl⟩ := hg
  have := go_rwins l0 l1 v2_0 v2_1 v2_2 v2_4 v2_5 v2_6 v2_7 v2_8 v2_9 v2_10 v2_11 v2_12 v2_13 v2_14 v2_15 v2_16 v2_17 v2_18 v2_19 v2_20 v2_21 v2_22 v2_23 v2_24 v2_25 v2_26 v2_27 v2_28 v2_29 v2_30 v2_31 v2_32 v2_33 v2_34 v2_35 0 (l1.length + 3) 0 l1 [] (l1.length + 3) (by omega) (by simpa using h1)
  refine ⟨l1.length + 3, 3, ?_⟩
  simp only [List.nil_append, List.length_nil] at this
  rw [show ((0 : Nat) : Int) = 0 from rfl] at this
  rw [this]
  cases h : l1.all windowB <;> simp [altK, h]

theorem run_newelref10_timed (a0 : Window) : ∃ F d, run k15 F d 74 Tryz.f74 s_newelref10_timed (a0, ()) = some (r_newelref10_timed.enc (timedB a0)) := by
  refine ⟨200, 6, ?_⟩
  rw [tree_newelref10_timed]
  simp only [r_newelref10_timed, Res.bool]
  refine congrArg (fun b => some (AV.bool b)) ?_
  rw [Bool.eq_iff_iff]
  simp [timedB, inB]
  try omega

theorem run_newelref10_tick (a0 : Int) : ∃ F d, run k16 F d 72 Tryz.f72 s_newelref10_tick (a0, ()) = some (r_newelref10_tick.enc (tickB a0)) := by
  refine ⟨200, 6, ?_⟩
  rw [tree_newelref10_tick]
  simp only [r_newelref10_tick, Res.bool]
  refine congrArg (fun b => some (AV.bool b)) ?_
  rw [Bool.eq_iff_iff]
  simp [tickB, inB]
  try omega

theorem run_newelref06_turn (a0 : Turn) : ∃ F d, run k17 F d 73 Tryz.f73 s_newelref06_turn (a0, ()) = some (r_newelref06_turn.enc (turnB a0)) := by
  refine ⟨200, 6, ?_⟩
  rw [tree_newelref06_turn]
  simp only [r_newelref06_turn, Res.bool]
  refine congrArg (fun b => some (AV.bool b)) ?_
  rw [Bool.eq_iff_iff]
  simp [turnB, inB]
  try omega

theorem run_config_must (a0 : Bool) (a1 : Int) : ∃ F d, run k2 F d 81 Tryz.f81 s_config_must (a0, a1, ()) = some (r_config_must.enc (errIf a0 a1)) := by
  refine ⟨200, 6, ?_⟩
  rw [tree_config_must]
  cases a0 <;> rfl

theorem run_config_size (a0 : Config) : ∃ F d, run k4 F d 54 Tryz.f54 s_config_size (a0, ()) = some (r_config_size.enc (config_size a0)) := by
  refine ⟨200, 6, ?_⟩
  rw [tree_config_size]
  simp only [r_config_size, Res.int, config_size, sizeB, beqn, ble0, Bool.true_and, Bool.and_true, Bool.and_self, cond_true, cond_false, and_false', or_true']

theorem run_config_stops (a0 : Config) (hg : smallC a0 = true) : ∃ F d, run k6 F d 55 Tryz.f55 s_config_stops (a0, ()) = some (r_config_stops.enc (config_stops a0)) := by
  refine ⟨200, 6, ?_⟩
  rw [tree_config_stops]
  simp only [smallC, Bool.and_eq_true, decide_eq_true_eq] at hg
  simp only [beqn, ble0, Bool.true_and, Bool.and_true, Bool.and_self, cond_true, cond_false, and_false', or_true', hg.1, decide_true, BEq.rfl]
  simp only [r_config_stops, Res.int, config_stops, stopsB]
  congr 5
  simp
  omega

theorem run_newelref10_stops (a0 : Config) (hg : smallC a0 = true) : ∃ F d, run k23 F d 41 Tryz.f41 s_newelref10_stops (a0, ()) = some (r_newelref10_stops.enc (ref_stops a0)) := by
  refine ⟨200, 6, ?_⟩
  rw [tree_newelref10_stops]
  simp only [smallC, Bool.and_eq_true, decide_eq_true_eq] at hg
  simp only [beqn, ble0, Bool.true_and, Bool.and_true, Bool.and_self, cond_true, cond_false, and_false', or_true', hg.1, decide_true, BEq.rfl]
  simp only [r_newelref10_stops, Res.bool, ref_stops]
  cases h : chkR a0.floors none a0.stops <;> simp
  omega

theorem run_config_windows (a0 : Config) (hg : smallC a0 = true) : ∃ F d, run k11 F d 61 Tryz.f61 s_config_windows (a0, ()) = some (r_config_windows.enc (config_windows a0)) := by
  refine ⟨200, 6, ?_⟩
  rw [tree_config_windows]
  simp only [smallC, Bool.and_eq_true, decide_eq_true_eq] at hg
  simp only [beqn, ble0, Bool.true_and, Bool.and_true, Bool.and_self, cond_true, cond_false, and_false', or_true', hg.2, decide_true, BEq.rfl]
  simp only [r_config_windows, Res.int, config_windows, errIf]
  by_cases h : a0.windows.length > 16
  · simp [h, show ((a0.windows.length : Nat) : Int) > 16 by omega]
  · simp only [h, show ¬ ((a0.windows.length : Nat) : Int) > 16 by omega, decide_false, cond_false]
    cases a0.windows.all windowB <;> rfl

theorem run_config_Check (a0 : Config) (hg : smallC a0 = true) : ∃ F d, run k12 F d 29 Tryz.f29 s_config_Check (a0, ()) = some (r_config_Check.enc (config_Check a0)) := by
  refine ⟨200, 6, ?_⟩
  rw [tree_config_Check]
  simp only [beqn, ble0, Bool.true_and, Bool.and_true, Bool.and_self, cond_true, cond_false, and_false', or_true', hg]
  simp only [r_config_Check, Res.int, config_Check, orE, bne]
  cases h1 : (config_size a0 == 0) <;> cases h2 : (config_stops a0 == 0) <;> cases h3 : (config_times a0 == 0) <;> cases h4 : (zone_Check a0.zone == 0) <;> cases h5 : (sunset_Check a0.sun == 0) <;> cases h6 : (config_windows a0 == 0) <;> simp_all

theorem run_newelref10_Few (a0 : Config) : ∃ F d, run k13 F d 4 Tryz.f4 s_newelref10_Few (a0, ()) = some (r_newelref10_Few.enc (few10 a0)) := by
  refine ⟨200, 6, ?_⟩
  rw [tree_newelref10_Few]
  simp only [r_newelref10_Few, Res.bool, few10, and_false']
  refine congrArg (fun b => some (AV.bool b)) ?_
  rw [Bool.eq_iff_iff]
  simp
  omega

theorem run_config_Window (a0 : Window) : ∃ F d, run k3 F d 88 Tryz.f88 s_config_Window (a0, ()) = some (r_config_Window.enc (config_Window a0)) := by
  refine ⟨200, 6, ?_⟩
  rw [tree_config_Window]
  simp only [r_config_Window, Res.int, config_Window, windowB, timedB, and_false', or_true', errK]
  cases a0.kind == 1 <;> cases a0.kind == 2 <;> cases a0.kind == 3 <;> cases a0.kind == 4 <;> simp only [cond_true, cond_false, Bool.and_assoc, Bool.true_and, Bool.false_and, Bool.and_false] <;> rfl

theorem run_newelref10_Window (a0 : Window) : ∃ F d, run k18 F d 45 Tryz.f45 s_newelref10_Window (a0, ()) = some (r_newelref10_Window.enc (windowB a0)) := by
  refine ⟨200, 6, ?_⟩
  rw [tree_newelref10_Window]
  simp only [r_newelref10_Window, Res.bool, windowB, timedB, inB, and_false', or_true', some_false, dlt, dgt, dge, Bool.not_or, Bool.not_not]
  cases a0.kind == 1 <;> cases a0.kind == 2 <;> cases a0.kind == 3 <;> simp only [cond_true, cond_false, some_false, Bool.not_or, Bool.not_not, Bool.and_assoc, Bool.not_and, Bool.or_assoc]

theorem run_config_times (a0 : Config) : ∃ F d, run k7 F d 56 Tryz.f56 s_config_times (a0, ()) = some (r_config_times.enc (config_times a0)) := by
  refine ⟨200, 6, ?_⟩
  rw [tree_config_times]
  simp only [r_config_times, Res.int, config_times]
  congr 3
  simp only [timesC, tickB, inB, and_false', or_true', Bool.cond_eq_ite]
  rw [Bool.eq_iff_iff]
  simp only [Bool.and_eq_true, decide_eq_true_eq]
  (repeat' split) <;> simp_all <;> omega

theorem run_newelref10_times (a0 : Config) : ∃ F d, run k21 F d 42 Tryz.f42 s_newelref10_times (a0, ()) = some (r_newelref10_times.enc (timesC a0)) := by
  refine ⟨200, 6, ?_⟩
  rw [tree_newelref10_times]
  simp only [r_newelref10_times, Res.bool, timesC, tickB, inB, and_false', or_true', some_false, dlt, dgt, dge, Bool.not_or, Bool.not_not, Bool.and_assoc]

theorem run_newelref10_Check (a0 : Config) (hg : smallC a0 = true) : ∃ F d, run k25 F d 22 Tryz.f22 s_newelref10_Check (a0, ()) = some (r_newelref10_Check.enc (ref_Check a0)) := by
  refine ⟨200, 6, ?_⟩
  rw [tree_newelref10_Check]
  have hg' := hg
  simp only [smallC, Bool.and_eq_true, decide_eq_true_eq] at hg
  simp only [beqn, ble0, Bool.true_and, Bool.and_true, Bool.and_self, cond_true, cond_false, and_false', or_true', hg', hg.2, decide_true, BEq.rfl, Bool.true_or, Bool.or_true]
  simp only [r_newelref10_Check, Res.int, ref_Check, orE, ref_size, inB, dlt, dgt, dge, bne, errIf, config_windows, Bool.not_not, Bool.not_and, Bool.not_or]
  have hS : ∀ a b c d e f : Bool, (!a || !b || !c || !d || !e || f) = !(a && b && (c && d) && (e && !f)) := by decide
  rw [hS]
  generalize (decide (2 ≤ a0.floors) && decide (a0.floors ≤ 64) && (decide (1 ≤ a0.cars) && decide (a0.cars ≤ 8)) && (decide (0 ≤ a0.park) && !decide (a0.floors ≤ a0.park))) = S
  have hW : (!decide (((a0.windows.length : Nat) : Int) ≤ 16)) = decide (a0.windows.length > 16) := by rw [Bool.eq_iff_iff]; simp; omega
  rw [hW]
  simp only [config_times, errIf]
  cases S
  · rfl
  cases ref_stops a0
  · rfl
  cases timesC a0
  · rfl
  cases hz : (zone_Check a0.zone == 0)
  · rfl
  cases hu : (sunset_Check a0.sun == 0)
  · rfl
  cases decide (a0.windows.length > 16)
  · cases a0.windows.all windowB <;> rfl
  · rfl

theorem run_newellaw10_Own (a0 : Config) (hg : smallC a0 = true) : ∃ F d, runO k14 F d 19 Tryz.f19 s_newellaw10_Own r_newellaw10_Own (a0, ()) = some (own10 a0) := by
  refine ⟨200, 6, ?_⟩
  rw [tree_newellaw10_Own]
  simp only [smallC, Bool.and_eq_true, decide_eq_true_eq] at hg
  have e1 : Nat.ble a0.stops.length 1048576 = true := by simpa using hg.1
  have e2 : Nat.ble a0.windows.length 1048576 = true := by simpa using hg.2
  simp only [beqn, ble0, Bool.true_and, Bool.and_true, Bool.and_self, cond_true, cond_false, and_false', or_true', e1, e2, List.nil_append, own10]

theorem out_in (x a b : Int) : (bif decide (x < a) then true else decide (x > b)) = !inB x a b := by
  rw [Bool.eq_iff_iff]; simp [inB]; try omega

theorem out_in' (x a b : Int) : (bif decide (x > b) then true else decide (x < a)) = !inB x a b := by
  rw [Bool.eq_iff_iff]; simp [inB]; try omega

theorem wrap_sub {x y a b : Int} (hx : inB x a b = true) (hy : inB y a b = true) (h : -10000 ≤ a) (h' : b ≤ 10000) : IntKind.wrap IntKind.i64 (y - x) = y - x := by
  rw [inB_iff] at hx hy
  exact IntWalk.i64_in _ (by omega)

theorem two0 (x y : Int) : List.getD [x, y] 0 0 = x := rfl

theorem two1 (x y : Int) : List.getD [x, y] 1 0 = y := rfl

theorem turn_eq0 (x : Turn) : (Turn.month x == 0 && (Turn.week x == 0 && (Turn.weekday x == 0 && (Turn.minute x == 0 && true)))) = decide (x = turn0) := by
  cases x; rw [Bool.eq_iff_iff]; simp [turn0]

theorem turn_eq (x y : Turn) : (Turn.month x == Turn.month y && (Turn.week x == Turn.week y && (Turn.weekday x == Turn.weekday y && (Turn.minute x == Turn.minute y && true)))) = decide (x = y) := by
  cases x; cases y; rw [Bool.eq_iff_iff]; simp

theorem max_min {x y : Int} (hx : inB x 1 12 = true) (hy : inB y 1 12 = true) : inB (IntKind.wrap IntKind.i64 ((bif decide (y > x) then y else x) - bif decide (y < x) then y else x)) 2 10 = inB (apart x y) 2 10 := by
  rw [inB_iff] at hx hy
  unfold apart
  by_cases h : x ≤ y
  · by_cases h2 : y ≤ x
    · have : x = y := by omega
      subst this
      simp [IntKind.wrap, IntKind.bits, IntKind.signed, inB]
    · simp only [show y > x by omega, show ¬ y < x by omega, decide_true, decide_false, cond_true, cond_false, if_pos h]
      rw [IntWalk.i64_in _ (by omega)]
  · simp only [show ¬ y > x by omega, show y < x by omega, decide_true, decide_false, cond_true, cond_false, if_neg h]
    rw [IntWalk.i64_in _ (by omega)]

theorem run_zone_Check (a0 : Zone) : ∃ F d, run k8 F d 58 Tryz.f58 s_zone_Check (a0, ()) = some (r_zone_Check.enc (zone_Check a0)) := by
  refine ⟨200, 6, ?_⟩
  rw [tree_zone_Check]
  simp only [r_zone_Check, Res.int, zone_Check, turnsB, turnB, turn_eq0]
  cases h1 : inB a0.base (-720) 840
  · rfl
  cases h2 : inB a0.shift 0 120
  · rfl
  have h2' := inB_iff.1 h2
  by_cases h3 : a0.shift = 0
  · simp only [h3, show decide ((0 : Int) > 0) = false from rfl, show ((0 : Int) == 0) = true from rfl]
    cases decide (a0.on = turn0) <;> cases decide (a0.off = turn0) <;> rfl
  · have e1 : decide (a0.shift > 0) = true := by simp; omega
    have e2 : (a0.shift == 0) = false := by simp; omega
    rw [e1, e2]
    cases g1 : inB a0.on.month 1 12
    · rfl
    cases g2 : inB a0.on.week 1 5
    · rfl
    cases g3 : inB a0.on.weekday 0 6
    · rfl
    cases g4 : inB a0.on.minute 0 1439
    · rfl
    cases g5 : inB a0.off.month 1 12
    · rfl
    cases g6 : inB a0.off.week 1 5
    · rfl
    cases g7 : inB a0.off.weekday 0 6
    · rfl
    cases g8 : inB a0.off.minute 0 1439
    · rfl
    rw [max_min g1 g5]
    cases inB (apart a0.on.month a0.off.month) 2 10 <;> rfl

theorem run_newelref06_Check (a0 : Zone) : ∃ F d, run k19 F d 43 Tryz.f43 s_newelref06_Check (a0, ()) = some (r_newelref06_Check.enc (zone_Check a0)) := by
  refine ⟨200, 6, ?_⟩
  rw [tree_newelref06_Check]
  simp only [r_newelref06_Check, Res.int, zone_Check, turnsB, turn_eq0, out_in]
  cases h1 : inB a0.base (-720) 840
  · rfl
  cases h2 : inB a0.shift 0 120
  · rfl
  cases h3 : a0.shift == 0
  · cases g1 : turnB a0.on
    · cases decide (IntKind.wrap IntKind.i64 (a0.on.month - a0.off.month) < 0) <;> rfl
    cases g2 : turnB a0.off
    · cases decide (IntKind.wrap IntKind.i64 (a0.on.month - a0.off.month) < 0) <;> rfl
    have b1 : inB a0.on.month 1 12 = true := by simp only [turnB, Bool.and_eq_true] at g1; exact g1.1.1.1
    have b2 : inB a0.off.month 1 12 = true := by simp only [turnB, Bool.and_eq_true] at g2; exact g2.1.1.1
    rw [wrap_sub b2 b1 (by omega) (by omega)]
    have b1' := inB_iff.1 b1
    have b2' := inB_iff.1 b2
    unfold apart
    by_cases h : a0.on.month ≤ a0.off.month
    · by_cases h' : a0.on.month = a0.off.month
      · simp [h', inB]
      · rw [if_pos h, IntWalk.i64_in (0 - (a0.on.month - a0.off.month)) (by omega), show decide (a0.on.month - a0.off.month < 0) = true by simp; omega, show 0 - (a0.on.month - a0.off.month) = a0.off.month - a0.on.month by omega]
        simp only [Bool.not_true, cond_true, cond_false, out_in, Bool.true_and]
        cases inB (a0.off.month - a0.on.month) 2 10 <;> rfl
    · rw [if_neg h, show decide (a0.on.month - a0.off.month < 0) = false by simp; omega]
      simp only [Bool.not_true, cond_true, cond_false, out_in, Bool.true_and]
      cases inB (a0.on.month - a0.off.month) 2 10 <;> rfl
  · cases decide (a0.on = turn0) <;> cases decide (a0.off = turn0) <;> rfl

theorem run_sunset_Check (a0 : Sun) : ∃ F d, run k9 F d 60 Tryz.f60 s_sunset_Check (a0, ()) = some (r_sunset_Check.enc (sunset_Check a0)) := by
  refine ⟨200, 6, ?_⟩
  rw [tree_sunset_Check]
  simp only [r_sunset_Check, Res.int, sunset_Check, sunL, List.all_cons, List.all_nil, stepsB, List.cons_append, List.nil_append, out_in, two0, two1]
  cases h0 : inB a0.m0 900 1320
  · rfl
  cases h1 : inB a0.m1 900 1320
  · rfl
  cases h2 : inB a0.m2 900 1320
  · rfl
  cases h3 : inB a0.m3 900 1320
  · rfl
  cases h4 : inB a0.m4 900 1320
  · rfl
  cases h5 : inB a0.m5 900 1320
  · rfl
  cases h6 : inB a0.m6 900 1320
  · rfl
  cases h7 : inB a0.m7 900 1320
  · rfl
  cases h8 : inB a0.m8 900 1320
  · rfl
  cases h9 : inB a0.m9 900 1320
  · rfl
  cases h10 : inB a0.m10 900 1320
  · rfl
  cases h11 : inB a0.m11 900 1320
  · rfl
  simp only [ wrap_sub h0 h1 (by omega) (by omega), wrap_sub h1 h2 (by omega) (by omega), wrap_sub h2 h3 (by omega) (by omega), wrap_sub h3 h4 (by omega) (by omega), wrap_sub h4 h5 (by omega) (by omega), wrap_sub h5 h6 (by omega) (by omega), wrap_sub h6 h7 (by omega) (by omega), wrap_sub h7 h8 (by omega) (by omega), wrap_sub h8 h9 (by omega) (by omega), wrap_sub h9 h10 (by omega) (by omega), wrap_sub h10 h11 (by omega) (by omega), wrap_sub h11 h0 (by omega) (by omega), out_in']
  cases inB (a0.m1 - a0.m0) (-120) 120
  · rfl
  cases inB (a0.m2 - a0.m1) (-120) 120
  · rfl
  cases inB (a0.m3 - a0.m2) (-120) 120
  · rfl
  cases inB (a0.m4 - a0.m3) (-120) 120
  · rfl
  cases inB (a0.m5 - a0.m4) (-120) 120
  · rfl
  cases inB (a0.m6 - a0.m5) (-120) 120
  · rfl
  cases inB (a0.m7 - a0.m6) (-120) 120
  · rfl
  cases inB (a0.m8 - a0.m7) (-120) 120
  · rfl
  cases inB (a0.m9 - a0.m8) (-120) 120
  · rfl
  cases inB (a0.m10 - a0.m9) (-120) 120
  · rfl
  cases inB (a0.m11 - a0.m10) (-120) 120
  · rfl
  cases inB (a0.m0 - a0.m11) (-120) 120
  · rfl
  rfl

theorem run_newelref07_Check (a0 : Sun) : ∃ F d, run k20 F d 44 Tryz.f44 s_newelref07_Check (a0, ()) = some (r_newelref07_Check.enc (sunset_Check a0)) := by
  refine ⟨200, 6, ?_⟩
  rw [tree_newelref07_Check]
  simp only [r_newelref07_Check, Res.int, sunset_Check, sunL, List.all_cons, List.all_nil, stepsB, List.cons_append, List.nil_append, out_in, two0, two1]
  cases h0 : inB a0.m0 900 1320
  · rfl
  cases h1 : inB a0.m1 900 1320
  · rfl
  cases h2 : inB a0.m2 900 1320
  · rfl
  cases h3 : inB a0.m3 900 1320
  · rfl
  cases h4 : inB a0.m4 900 1320
  · rfl
  cases h5 : inB a0.m5 900 1320
  · rfl
  cases h6 : inB a0.m6 900 1320
  · rfl
  cases h7 : inB a0.m7 900 1320
  · rfl
  cases h8 : inB a0.m8 900 1320
  · rfl
  cases h9 : inB a0.m9 900 1320
  · rfl
  cases h10 : inB a0.m10 900 1320
  · rfl
  cases h11 : inB a0.m11 900 1320
  · rfl
  simp only [ wrap_sub h0 h1 (by omega) (by omega), wrap_sub h1 h2 (by omega) (by omega), wrap_sub h2 h3 (by omega) (by omega), wrap_sub h3 h4 (by omega) (by omega), wrap_sub h4 h5 (by omega) (by omega), wrap_sub h5 h6 (by omega) (by omega), wrap_sub h6 h7 (by omega) (by omega), wrap_sub h7 h8 (by omega) (by omega), wrap_sub h8 h9 (by omega) (by omega), wrap_sub h9 h10 (by omega) (by omega), wrap_sub h10 h11 (by omega) (by omega), wrap_sub h11 h0 (by omega) (by omega), out_in']
  cases inB (a0.m1 - a0.m0) (-120) 120
  · rfl
  cases inB (a0.m2 - a0.m1) (-120) 120
  · rfl
  cases inB (a0.m3 - a0.m2) (-120) 120
  · rfl
  cases inB (a0.m4 - a0.m3) (-120) 120
  · rfl
  cases inB (a0.m5 - a0.m4) (-120) 120
  · rfl
  cases inB (a0.m6 - a0.m5) (-120) 120
  · rfl
  cases inB (a0.m7 - a0.m6) (-120) 120
  · rfl
  cases inB (a0.m8 - a0.m7) (-120) 120
  · rfl
  cases inB (a0.m9 - a0.m8) (-120) 120
  · rfl
  cases inB (a0.m10 - a0.m9) (-120) 120
  · rfl
  cases inB (a0.m11 - a0.m10) (-120) 120
  · rfl
  cases inB (a0.m0 - a0.m11) (-120) 120
  · rfl
  rfl

theorem times_eq (x y : Times) : (Times.travel x == Times.travel y && (Times.level x == Times.level y && (Times.open_ x == Times.open_ y && (Times.dwell x == Times.dwell y && (Times.lead x == Times.lead y && (Times.close x == Times.close y && (Times.hold x == Times.hold y && true))))))) = decide (x = y) := by
  cases x; cases y; rw [Bool.eq_iff_iff]; simp

theorem zone_eq (x y : Zone) : (Zone.base x == Zone.base y && (Zone.shift x == Zone.shift y && (Turn.month (Zone.on x) == Turn.month (Zone.on y) && (Turn.week (Zone.on x) == Turn.week (Zone.on y) && (Turn.weekday (Zone.on x) == Turn.weekday (Zone.on y) && (Turn.minute (Zone.on x) == Turn.minute (Zone.on y) && (Turn.month (Zone.off x) == Turn.month (Zone.off y) && (Turn.week (Zone.off x) == Turn.week (Zone.off y) && (Turn.weekday (Zone.off x) == Turn.weekday (Zone.off y) && (Turn.minute (Zone.off x) == Turn.minute (Zone.off y) && true)))))))))) = decide (x = y) := by
  obtain ⟨a, b, ⟨c, d, e, f⟩, ⟨g, h, i, j⟩⟩ := x
  obtain ⟨a', b', ⟨c', d', e', f'⟩, ⟨g', h', i', j'⟩⟩ := y
  rw [Bool.eq_iff_iff]; simp [and_assoc]

theorem sun_eq (x y : Sun) : (Sun.m0 x == Sun.m0 y && (Sun.m1 x == Sun.m1 y && (Sun.m2 x == Sun.m2 y && (Sun.m3 x == Sun.m3 y && (Sun.m4 x == Sun.m4 y && (Sun.m5 x == Sun.m5 y && (Sun.m6 x == Sun.m6 y && (Sun.m7 x == Sun.m7 y && (Sun.m8 x == Sun.m8 y && (Sun.m9 x == Sun.m9 y && (Sun.m10 x == Sun.m10 y && (Sun.m11 x == Sun.m11 y && true)))))))))))) = decide (x = y) := by
  cases x; cases y; rw [Bool.eq_iff_iff]; simp

theorem lenInt {α : Type} (a b : List α) : (((a.length : Nat) : Int) != ((b.length : Nat) : Int)) = !(a.length == b.length) := by
  rw [Bool.eq_iff_iff]; simp; try omega

theorem few_small {c : Config} (h : few10 c = true) : smallC c = true ∧ c.stops.length ≤ 80 ∧ c.windows.length ≤ 20 := by
  simp only [few10, smallC, Bool.and_eq_true, decide_eq_true_eq] at h ⊢
  omega

theorem orE_eq (a b : Int) : orE a b = if a = 0 then b else a := by
  unfold orE
  by_cases h : a = 0
  · simp [h]
  · rw [if_neg h, show (a == 0) = false by simpa using h]; rfl

theorem errIf_or (b : Bool) (e : Int) : errIf b e = 0 ∨ errIf b e = e := by cases b <;> simp [errIf]

theorem check0 {c : Config} (h : config_Check c = 0) : config_size c = 0 ∧ config_stops c = 0 ∧ config_times c = 0 ∧ zone_Check c.zone = 0 ∧ sunset_Check c.sun = 0 ∧ config_windows c = 0 := by
  simp only [config_Check, orE_eq] at h
  split at h <;> rename_i h1
  · split at h <;> rename_i h2
    · split at h <;> rename_i h3
      · split at h <;> rename_i h4
        · split at h <;> rename_i h5
          · exact ⟨h1, h2, h3, h4, h5, h⟩
          · exact absurd h h5
        · exact absurd h h4
      · exact absurd h h3
    · exact absurd h h2
  · exact absurd h h1

theorem zone_range (z : Zone) : zone_Check z = 0 ∨ zone_Check z = 60 ∨ zone_Check z = 61 ∨ zone_Check z = 62 := by
  unfold zone_Check
  cases inB z.base (-720) 840
  · simp
  cases inB z.shift 0 120
  · simp
  cases (bif z.shift == 0 then decide (z.on = turn0) && decide (z.off = turn0) else turnsB z) <;> simp

theorem sun_range (s : Sun) : sunset_Check s = 0 ∨ sunset_Check s = 70 ∨ sunset_Check s = 71 := by
  unfold sunset_Check
  cases (sunL s).all fun n => inB n 900 1320
  · simp
  have := errIf_or (stepsB (sunL s ++ [s.m0])) 71
  simp only [cond_true]
  omega

theorem win_range (c : Config) : config_windows c = 0 ∨ config_windows c = 103 ∨ config_windows c = 104 := by
  unfold config_windows
  have := errIf_or (c.windows.all windowB) 104
  cases decide (c.windows.length > 16)
  · simp only [cond_false]; omega
  · simp

theorem go_rstops (l0 : List (Int)) (l1 : List (Window)) (v2_0 v2_1 v2_2 v2_4 v2_5 v2_6 v2_7 v2_8 v2_9 v2_10 v2_11 v2_12 v2_13 v2_14 v2_15 v2_16 v2_17 v2_18 v2_19 v2_20 v2_21 v2_22 v2_23 v2_24 v2_25 v2_26 v2_27 v2_28 v2_29 v2_30 v2_31 v2_32 v2_33 v2_34 : Int) (v2_35 : Bool) (v3 : Int) (F d : Nat) : ∀ (suf pre : List Int) (n : Nat), suf.length < n → (pre ++ suf).length ≤ 1048576 →
    I_rstops F (d + 3) n (S_rstops (pre ++ suf) l1 v2_0 v2_1 v2_2 v2_4 v2_5 v2_6 v2_7 v2_8 v2_9 v2_10 v2_11 v2_12 v2_13 v2_14 v2_15 v2_16 v2_17 v2_18 v2_19 v2_20 v2_21 v2_22 v2_23 v2_24 v2_25 v2_26 v2_27 v2_28 v2_29 v2_30 v2_31 v2_32 v2_33 v2_34 v2_35 ((pre.length : Nat) : Int)) = cond (chkR v2_0 pre.getLast? suf) (some (.exit 0, (X_rstops_1 (pre ++ suf) l1 v2_0 v2_1 v2_2 v2_4 v2_5 v2_6 v2_7 v2_8 v2_9 v2_10 v2_11 v2_12 v2_13 v2_14 v2_15 v2_16 v2_17 v2_18 v2_19 v2_20 v2_21 v2_22 v2_23 v2_24 v2_25 v2_26 v2_27 v2_28 v2_29 v2_30 v2_31 v2_32 v2_33 v2_34 v2_35))) (some (.ret, (X_rstops_0 (pre ++ suf) l1 v2_0 v2_1 v2_2 v2_4 v2_5 v2_6 v2_7 v2_8 v2_9 v2_10 v2_11 v2_12 v2_13 v2_14 v2_15 v2_16 v2_17 v2_18 v2_19 v2_20 v2_21 v2_22 v2_23 v2_24 v2_25 v2_26 v2_27 v2_28 v2_29 v2_30 v2_31 v2_32 v2_33 v2_34 v2_35))) := by
  intro suf
  induction suf with
  | nil =>
    intro pre n hn hl
    obtain ⟨n, rfl⟩ : ∃ k, n = k + 1 := ⟨n - 1, by omega⟩
    rw [step_rstops, idx_end, cond_false]
    cases pre.getLast? <;> rfl
  | cons x suf ih =>
    intro pre n hn hl
    obtain ⟨n, rfl⟩ : ∃ k, n = k + 1 := ⟨n - 1, by omega⟩
    have ih' := ih (pre ++ [x]) n (by simp at hn; omega) (by simpa using hl)
    have hpl : pre.length + (suf.length + 1) ≤ 1048576 := by simpa using hl
    rw [step_rstops]
    simp only [idx_lt, idx_ge, Bool.and_self, cond_true, idx_nat, idx_at, idx_next hl, Bool.true_or]
    rw [← idx_step] at ih'
    have hout : (bif decide (x < 0) then true else decide (x ≥ v2_0)) = !(decide (0 ≤ x) && decide (x < v2_0)) := by
      rw [Bool.eq_iff_iff]; simp; try omega
    rw [hout]
    rcases nil_or_snoc pre with rfl | ⟨q, p, rfl⟩
    · simp only [List.length_nil, show decide (((0 : Nat) : Int) > 0) = false from rfl, Bool.and_false, Bool.not_false, Bool.or_true, cond_true, cond_false, or_true', Bool.or_false, List.getLast?_nil]
      rw [show chkR v2_0 none (x :: suf) = ((decide (0 ≤ x) && decide (x < v2_0)) && chkR v2_0 (some x) suf) from rfl]
      cases (decide (0 ≤ x) && decide (x < v2_0))
      · rfl
      · simp only [Bool.not_true, Bool.true_and, cond_false]
        simpa using ih'
    · have hw : IntKind.wrap IntKind.i64 ((((q ++ [p]).length : Nat) : Int) - 1) = (((q ++ [p]).length : Nat) : Int) - 1 := IntWalk.i64_in _ (by simp at hpl ⊢; omega)
      have g1 : (decide (0 ≤ (((q ++ [p]).length : Nat) : Int) - 1) && decide ((((q ++ [p]).length : Nat) : Int) - 1 < (((q ++ [p] ++ x :: suf).length : Nat) : Int))) = true := by simp; omega
      have g2 : decide (0 + Int.toNat ((((q ++ [p]).length : Nat) : Int) - 1) < (q ++ [p] ++ x :: suf).length) = true := by simp
      have g3 : decide ((((q ++ [p]).length : Nat) : Int) > 0) = true := by simp; try omega
      rw [hw]
      simp only [g1, g2, g3, idx_last, Bool.true_or, cond_true]
      rw [show (q ++ [p]).getLast? = some p by simp, show chkR v2_0 (some p) (x :: suf) = ((decide (0 ≤ x) && decide (x < v2_0)) && decide (p < x) && chkR v2_0 (some x) suf) from rfl]
      cases (decide (0 ≤ x) && decide (x < v2_0))
      · rfl
      · have hd : decide (x ≤ p) = !decide (p < x) := by rw [Bool.eq_iff_iff]; simp
        rw [hd]
        cases decide (p < x)
        · rfl
        · simp only [Bool.not_true, Bool.true_and, cond_false, Bool.and_true]
          simpa using ih'

theorem main_rstops (l0 : List (Int)) (l1 : List (Window)) (v2_0 v2_1 v2_2 v2_4 v2_5 v2_6 v2_7 v2_8 v2_9 v2_10 v2_11 v2_12 v2_13 v2_14 v2_15 v2_16 v2_17 v2_18 v2_19 v2_20 v2_21 v2_22 v2_23 v2_24 v2_25 v2_26 v2_27 v2_28 v2_29 v2_30 v2_31 v2_32 v2_33 v2_34 : Int) (v2_35 : Bool) (v3 : Int) (hg : (decide (l0.length ≤ 1048576) && v3 == 0) = true) : ∃ N d, I_rstops N d N (S_rstops l0 l1 v2_0 v2_1 v2_2 v2_4 v2_5 v2_6 v2_7 v2_8 v2_9 v2_10 v2_11 v2_12 v2_13 v2_14 v2_15 v2_16 v2_17 v2_18 v2_19 v2_20 v2_21 v2_22 v2_23 v2_24 v2_25 v2_26 v2_27 v2_28 v2_29 v2_30 v2_31 v2_32 v2_33 v2_34 v2_35 v3) = some (altK Prod.mk [(chkR v2_0 none l0, .exit 0, (X_rstops_1 l0 l1 v2_0 v2_1 v2_2 v2_4 v2_5 v2_6 v2_7 v2_8 v2_9 v2_10 v2_11 v2_12 v2_13 v2_14 v2_15 v2_16 v2_17 v2_18 v2_19 v2_20 v2_21 v2_22 v2_23 v2_24 v2_25 v2_26 v2_27 v2_28 v2_29 v2_30 v2_31 v2_32 v2_33 v2_34 v2_35))] (.ret) (X_rstops_0 l0 l1 v2_0 v2_1 v2_2 v2_4 v2_5 v2_6 v2_7 v2_8 v2_9 v2_10 v2_11 v2_12 v2_13 v2_14 v2_15 v2_16 v2_17 v2_18 v2_19 v2_20 v2_21 v2_22 v2_23 v2_24 v2_25 v2_26 v2_27 v2_28 v2_29 v2_30 v2_31 v2_32 v2_33 v2_34 v2_35)) := by
  simp only [Bool.and_eq_true, decide_eq_true_eq, beq_iff_eq] at hg
  obtain ⟨h1, rfl⟩ := hg
  have := go_rstops l0 l1 v2_0 v2_1 v2_2 v2_4 v2_5 v2_6 v2_7 v2_8 v2_9 v2_10 v2_11 v2_12 v2_13 v2_14 v2_15 v2_16 v2_17 v2_18 v2_19 v2_20 v2_21 v2_22 v2_23 v2_24 v2_25 v2_26 v2_27 v2_28 v2_29 v2_30 v2_31 v2_32 v2_33 v2_34 v2_35 0 (l0.length + 3) 0 l0 [] (l0.length + 3) (by omega) (by simpa using h1)
  refine ⟨l0.length + 3, 3, ?_⟩
  simp only [List.nil_append, List.length_nil, List.getLast?_nil] at this
  rw [show ((0 : Nat) : Int) = 0 from rfl] at this
  rw [this]
  cases h : chkR v2_0 none l0 <;> simp [altK, h]

theorem chkG_congr {f g : Int → Bool} (h : ∀ x, f x = g x) : ∀ (l : List Int) (p : Option Int), chkG f p l = chkG g p l
  | [], p => by cases p <;> rfl
  | x :: l, none => by simp only [chkG, h, chkG_congr h l]
  | x :: l, some p => by simp only [chkG, h, chkG_congr h l]

theorem ref_Check_eq (c : Config) : ref_Check c = config_Check c := by
  unfold ref_Check config_Check
  by_cases hf : 2 ≤ c.floors ∧ c.floors ≤ 64
  · have hw : IntKind.i64.wrap (c.floors - 1) = c.floors - 1 := IntWalk.i64_in _ (by omega)
    have h1 : ref_size c = sizeB c := by
      unfold ref_size sizeB
      rw [hw]
      congr 1
      rw [Bool.eq_iff_iff]
      simp [inB]
      omega
    have h2 : ref_stops c = stopsB c := by
      unfold ref_stops stopsB chkR chkS
      rw [hw]
      congr 1
      refine chkG_congr (fun x => ?_) _ _
      rw [Bool.eq_iff_iff]
      simp [inB]
      omega
    rw [h1, h2]
    rfl
  · have h0 : inB c.floors 2 64 = false := by
      rw [Bool.eq_false_iff]
      intro h
      exact hf (inB_iff.1 h)
    have h1 : ref_size c = false := by simp [ref_size, h0]
    have h2 : sizeB c = false := by simp [sizeB, h0]
    simp [config_size, h1, h2, errIf, orE]

theorem win_code (w : Window) : ((config_Window w == 0) = windowB w) ∧ (config_Window w = 0 ∨ config_Window w = 104) := by
  unfold config_Window
  cases windowB w
  · exact ⟨rfl, .inr rfl⟩
  · exact ⟨rfl, .inl rfl⟩

theorem and_true' (a : Bool) : (a && true) = a := by cases a <;> rfl

theorem stopG_pos {g : Gear} (h : gearB g = true) : 4 ≤ stopG g ∧ stopG g ≤ 480 ∧ 1 ≤ g.times.travel ∧ g.times.travel ≤ 60 := by
  simp only [gearB_iff, timesB_iff] at h
  simp only [stopG]
  omega

theorem run_cycle_stop (a0 : Gear) (hg : gearB a0 = true) : ∃ F d, run k49 F d 93 Tryz.f93 s_cycle_stop (a0, ()) = some (r_cycle_stop.enc (stopG a0)) := by
  refine ⟨200, 6, ?_⟩
  rw [tree_cycle_stop]
  simp only [gearB_iff, timesB_iff] at hg
  rw [IntWalk.i64_in (a0.times.level + a0.times.open_) (by omega), IntWalk.i64_in (a0.times.level + a0.times.open_ + a0.dwell) (by omega), IntWalk.i64_in _ (by omega)]
  rfl

theorem go_row (l0 l4 : List (Int)) (v1_1 v1_2 v4 : Int) (F d : Nat) : ∀ (k n : Nat) (l4 : List Int), k < n → k < l0.length → l0.length ≤ 70 → l4.length + k ≤ 2000 →
    I_row F (d + 3) n (S_row l0 l4 v1_1 v1_2 ((k : Nat) : Int)) = some (.exit 0, (X_row_0 l0 (l4 ++ ((l0.take (k + 1)).drop 1).reverse) v1_1 v1_2)) := by
  intro k
  induction k with
  | zero =>
    intro n l4 hn hk h70 hl
    obtain ⟨n, rfl⟩ : ∃ m, n = m + 1 := ⟨n - 1, by omega⟩
    rw [step_row]
    cases l0 with
    | nil => simp at hk
    | cons x l => simp
  | succ k ih =>
    intro n l4 hn hk h70 hl
    obtain ⟨n, rfl⟩ : ∃ m, n = m + 1 := ⟨n - 1, by omega⟩
    rw [step_row]
    have e1 : decide (((k + 1 : Nat) : Int) > 0) = true := by simp; try omega
    have e2 : (decide (0 ≤ ((k + 1 : Nat) : Int)) && decide (((k + 1 : Nat) : Int) < ((l0.length : Nat) : Int))) = true := by simp; omega
    have e3 : decide (0 + Int.toNat ((k + 1 : Nat) : Int) < l0.length) = true := by simp; omega
    have e4 : Nat.ble l4.length 1048576 = true := by simp; omega
    have e5 : IntKind.wrap IntKind.i64 (((k + 1 : Nat) : Int) - 1) = ((k : Nat) : Int) := by rw [IntWalk.i64_in _ (by omega)]; omega
    simp only [e1, e2, e3, e4, e5, beqn, Bool.and_self, Bool.and_true, Bool.true_and, cond_true]
    rw [ih n (l4 ++ [List.getD l0 (0 + Int.toNat ((k + 1 : Nat) : Int)) 0]) (by omega) (by omega) h70 (by simp; omega)]
    have e6 : l0.take (k + 1 + 1) = l0.take (k + 1) ++ [l0.getD (0 + Int.toNat ((k + 1 : Nat) : Int)) 0] := by
      rw [List.take_add_one]
      congr 1
      have : 0 + Int.toNat ((k + 1 : Nat) : Int) = k + 1 := by omega
      rw [this, List.getD_eq_getElem?_getD, List.getElem?_eq_getElem hk]
      rfl
    have e7 : 1 ≤ (l0.take (k + 1)).length := by simp; omega
    rw [e6, List.drop_append_of_le_length e7, List.reverse_append, List.append_assoc]
    rfl

theorem main_row (l0 l4 : List (Int)) (v1_1 v1_2 v4 : Int) (hg : (decide (v4 < (l0.length : Int)) && (decide (-3 ≤ v4) && (decide (l0.length ≤ 70) && decide (l4.length ≤ 1000)))) = true) : ∃ N d, I_row N d N (S_row l0 l4 v1_1 v1_2 v4) = some (altK Prod.mk [] (.exit 0) (X_row_0 l0 (l4 ++ ((l0.take (v4 + 1).toNat).drop 1).reverse) v1_1 v1_2)) := by
  simp only [Bool.and_eq_true, decide_eq_true_eq] at hg
  obtain ⟨h1, h2, h3, h4⟩ := hg
  refine ⟨100, 3, ?_⟩
  by_cases h : v4 ≤ 0
  · rw [show (100 : Nat) = 99 + 1 from rfl, show (3 : Nat) = 0 + 3 from rfl, step_row]
    have e1 : decide (v4 > 0) = false := by simp; omega
    have e2 : (l0.take (v4 + 1).toNat).drop 1 = [] := by
      rw [List.drop_eq_nil_iff, List.length_take]
      omega
    simp [e1, e2, altK]
  · obtain ⟨k, rfl⟩ : ∃ k : Nat, v4 = (k : Int) := ⟨v4.toNat, by omega⟩
    have := go_row l0 l4 v1_1 v1_2 0 100 0 k 100 l4 (by omega) (by omega) h3 (by omega)
    have e : (((k : Nat) : Int) + 1).toNat = k + 1 := by omega
    rw [e]
    simpa [altK] using this

theorem run_cycle_row (a0 : Plan) (hg : smallP a0 = true) : ∃ F d, runO k51 F d 66 Tryz.f66 s_cycle_row r_cycle_row (a0, ()) = some (rowP a0) := by
  refine ⟨200, 6, ?_⟩
  rw [tree_cycle_row]
  simp only [smallP, decide_eq_true_eq] at hg
  have e1 : IntKind.wrap IntKind.i64 (((a0.stops.length : Nat) : Int) - 2) = ((a0.stops.length : Nat) : Int) - 2 := IntWalk.i64_in _ (by omega)
  have e2 : Nat.ble a0.stops.length 1048576 = true := by simp; omega
  have e3 : decide (((a0.stops.length : Nat) : Int) - 2 < ((a0.stops.length : Nat) : Int)) = true := by simp; omega
  have e4 : decide ((-3 : Int) ≤ ((a0.stops.length : Nat) : Int) - 2) = true := by simp; omega
  have e5 : decide (a0.stops.length ≤ 70) = true := by simpa using hg
  have e6 : decide (a0.stops.length ≤ 1000) = true := by simp; omega
  simp only [List.nil_append, e1, e2, e3, e4, e5, e6, beqn, Bool.and_self, Bool.and_true, Bool.true_and, cond_true]
  congr 1
  unfold rowP rowL
  rw [List.dropLast_eq_take]
  congr 4
  omega

theorem run_cycle_place (a0 : Plan) (a1 : Int) (hg : placeOk a0 a1 = true) : ∃ F d, run k52 F d 67 Tryz.f67 s_cycle_place (a0, a1, ()) = some (r_cycle_place.enc (placeP a0 a1)) := by
  refine ⟨200, 6, ?_⟩
  rw [tree_cycle_place]
  simp only [placeOk, smallP, Bool.and_eq_true, decide_eq_true_eq] at hg
  obtain ⟨h1, h2, h3, h4, h5⟩ := hg
  have e0 : (a0.cars != 0) = true := by simp; omega
  have e1 : IntKind.wrap IntKind.i64 (2 * ((a0.stops.length : Nat) : Int)) = 2 * ((a0.stops.length : Nat) : Int) := IntWalk.i64_in _ (by omega)
  have e2 : IntKind.wrap IntKind.i64 (2 * ((a0.stops.length : Nat) : Int) - 2) = 2 * ((a0.stops.length : Nat) : Int) - 2 := IntWalk.i64_in _ (by omega)
  have b1 : a1 * (2 * ((a0.stops.length : Nat) : Int) - 2) ≤ 8 * 140 := by
    have hx : a1 * (2 * ((a0.stops.length : Nat) : Int) - 2) ≤ a1 * 140 := Int.mul_le_mul_of_nonneg_left (by omega) h4
    omega
  have b2 : -16 ≤ a1 * (2 * ((a0.stops.length : Nat) : Int) - 2) := by
    have hx : a1 * (-2) ≤ a1 * (2 * ((a0.stops.length : Nat) : Int) - 2) := Int.mul_le_mul_of_nonneg_left (by omega) h4
    omega
  have e3 : IntKind.wrap IntKind.i64 (a1 * (2 * ((a0.stops.length : Nat) : Int) - 2)) = a1 * (2 * ((a0.stops.length : Nat) : Int) - 2) := IntWalk.i64_in _ (by omega)
  have e4 : IntKind.wrap IntKind.i64 (Int.tdiv (a1 * (2 * ((a0.stops.length : Nat) : Int) - 2)) a0.cars) = Int.tdiv (a1 * (2 * ((a0.stops.length : Nat) : Int) - 2)) a0.cars := by
    refine IntWalk.i64_in _ ?_
    have hn := Int.natAbs_tdiv_le_natAbs (a1 * (2 * ((a0.stops.length : Nat) : Int) - 2)) a0.cars
    omega
  rw [e0, cond_true, e1, e2, e3, e4]
  rfl

theorem go_check (l0 : List (Int)) (v1_0 v1_1 v1_2 v1_3 v1_4 v1_5 v1_6 v1_7 v1_8 v1_9 v2_1 v2_2 : Int) (v5 : Bool) (v38 v39 : Int) (F d : Nat) : ∀ (suf pre : List Int) (v : Bool) (n : Nat), suf.length < n → (pre ++ suf).length ≤ 1048576 →
    I_check F (d + 3) n (S_check (pre ++ suf) v1_0 v1_1 v1_2 v1_3 v1_4 v1_5 v1_6 v1_7 v1_8 v1_9 v2_1 v2_2 v (((pre ++ suf).length : Nat) : Int) ((pre.length : Nat) : Int)) = some (.exit 0, (X_check_0 (pre ++ suf) v1_0 v1_1 v1_2 v1_3 v1_4 v1_5 v1_6 v1_7 v1_8 v1_9 v2_1 v2_2 (v && chkR v1_0 pre.getLast? suf))) := by
  intro suf
  induction suf with
  | nil =>
    intro pre v n hn hl
    obtain ⟨n, rfl⟩ : ∃ k, n = k + 1 := ⟨n - 1, by omega⟩
    rw [step_check, idx_end, cond_false]
    cases pre.getLast? <;> simp [chkG, chkR]
  | cons x suf ih =>
    intro pre v n hn hl
    obtain ⟨n, rfl⟩ : ∃ k, n = k + 1 := ⟨n - 1, by omega⟩
    have ih' := ih (pre ++ [x]) (v && ((decide (0 ≤ x) && decide (x < v1_0)) && (pre.length == 0 || decide (pre.getLast?.getD 0 < x)))) n (by simp at hn; omega) (by simpa using hl)
    have hpl : pre.length + (suf.length + 1) ≤ 1048576 := by simpa using hl
    rw [step_check]
    simp only [idx_lt, idx_ge, Bool.and_self, cond_true, idx_nat, idx_at, idx_next hl]
    rw [← idx_step] at ih'
    have hacc : (bif bif bif v then decide (0 ≤ x) else false then decide (x < v1_0) else false then bif ((pre.length : Nat) : Int) == 0 then true else decide (List.getD (pre ++ x :: suf) (0 + Int.toNat (IntKind.wrap IntKind.i64 ((pre.length : Int) - 1))) 0 < x) else false) = (v && ((decide (0 ≤ x) && decide (x < v1_0)) && (pre.length == 0 || decide (pre.getLast?.getD 0 < x)))) := by
      cases v
      · rfl
      · cases decide (0 ≤ x)
        · rfl
        · cases decide (x < v1_0)
          · rfl
          · rcases nil_or_snoc pre with rfl | ⟨q, p, rfl⟩
            · simp
            · rw [IntWalk.i64_in _ (by simp at hpl ⊢; omega), idx_last, idx_ne0]
              simp
    rw [hacc]
    have hin : ((pre.length : Nat) : Int) = 0 ∨ (decide (0 ≤ IntKind.wrap IntKind.i64 ((pre.length : Int) - 1)) && decide (IntKind.wrap IntKind.i64 ((pre.length : Int) - 1) < (((pre ++ x :: suf).length : Nat) : Int))) = true ∧ decide (0 + Int.toNat (IntKind.wrap IntKind.i64 ((pre.length : Int) - 1)) < (pre ++ x :: suf).length) = true := by
      rcases nil_or_snoc pre with rfl | ⟨q, p, rfl⟩
      · exact .inl rfl
      · refine .inr ?_
        rw [IntWalk.i64_in _ (by simp at hpl ⊢; omega)]
        simp
        omega
    have g : ∀ (a b c : Bool), (((pre.length : Nat) : Int) = 0 ∨ a = true ∧ b = true) → ((a || !(c && !((pre.length : Nat) : Int) == 0)) = true ∧ (b || !(c && !((pre.length : Nat) : Int) == 0)) = true) := by
      rintro a b c (h | ⟨rfl, rfl⟩)
      · simp [h]
      · simp
    obtain ⟨g1, g2⟩ := g _ _ (bif bif v then decide (0 ≤ x) else false then decide (x < v1_0) else false) hin
    rw [g1, cond_true, g2, cond_true]
    rw [ih']
    congr 3
    rcases nil_or_snoc pre with rfl | ⟨q, p, rfl⟩
    · simp [chkG, chkR, Bool.and_assoc]
    · simp [chkG, chkR, Bool.and_assoc]

theorem main_check (l0 : List (Int)) (v1_0 v1_1 v1_2 v1_3 v1_4 v1_5 v1_6 v1_7 v1_8 v1_9 v2_1 v2_2 : Int) (v5 : Bool) (v38 v39 : Int) (hg : (decide (l0.length ≤ 1048576) && (v38 == (l0.length : Int) && v39 == 0)) = true) : ∃ N d, I_check N d N (S_check l0 v1_0 v1_1 v1_2 v1_3 v1_4 v1_5 v1_6 v1_7 v1_8 v1_9 v2_1 v2_2 v5 v38 v39) = some (altK Prod.mk [] (.exit 0) (X_check_0 l0 v1_0 v1_1 v1_2 v1_3 v1_4 v1_5 v1_6 v1_7 v1_8 v1_9 v2_1 v2_2 (v5 && chkR v1_0 none l0))) := by
  simp only [Bool.and_eq_true, decide_eq_true_eq, beq_iff_eq] at hg
  obtain ⟨h1, rfl, rfl⟩ := hg
  have := go_check l0 v1_0 v1_1 v1_2 v1_3 v1_4 v1_5 v1_6 v1_7 v1_8 v1_9 v2_1 v2_2 v5 0 0 (l0.length + 3) 0 l0 [] v5 (l0.length + 3) (by omega) (by simpa using h1)
  exact ⟨l0.length + 3, 3, by simpa [altK] using this⟩

theorem carOk0 (g : Gear) : carOk g ⟨0, 0, 0, 0, ⟨0, 0, 0⟩⟩ = gearB g := by
  rw [Bool.eq_iff_iff]
  simp only [carOk, Bool.and_eq_true, carB_iff, gearB_iff, doorB_iff]
  simp
  omega

theorem run_cycle_check (a0 : Gear) (a1 : Plan) (hg : smallGP a0 a1 = true) : ∃ F d, run k54 F d 63 Tryz.f63 s_cycle_check (a0, a1, ()) = some (r_cycle_check.enc (cycle_check a0 a1)) := by
  refine ⟨200, 6, ?_⟩
  rw [tree_cycle_check]
  simp only [smallGP, smallP, decide_eq_true_eq] at hg
  have e1 : decide (a1.stops.length ≤ 1048576) = true := by simp; omega
  simp only [beqn, e1, Bool.and_self, Bool.and_true, Bool.true_and, cond_true, beq_self_eq_true, carOk0]
  have e2 : decide (((a1.stops.length : Nat) : Int) ≥ 2) = decide (2 ≤ a1.stops.length) := by rw [Bool.eq_iff_iff]; simp; omega
  simp only [e2, r_cycle_check, Res.int, cycle_check, planB, errOf]
  cases gearB a0 <;> cases decide (2 ≤ a1.stops.length) <;> cases decide (1 ≤ a1.cars) <;> cases decide (a1.cars ≤ 8) <;> cases decide (0 ≤ a1.car) <;> cases decide (a1.car < a1.cars) <;> cases chkR a0.floors none a1.stops <;> rfl

theorem planB_iff {g : Gear} {p : Plan} : planB g p = true ↔ 2 ≤ p.stops.length ∧ 1 ≤ p.cars ∧ p.cars ≤ 8 ∧ 0 ≤ p.car ∧ p.car < p.cars ∧ chkR g.floors none p.stops = true ∧ gearB g = true := by
  simp only [planB, Bool.and_eq_true, decide_eq_true_eq]

/-- Stops that rise lie within the floors. -/
theorem chkR_all {fl : Int} : ∀ {l : List Int} {p : Option Int}, chkR fl p l = true → ∀ x ∈ l, 0 ≤ x ∧ x < fl
  | [], _, _, x, hx => by simp at hx
  | y :: l, none, h, x, hx => by
    simp only [chkR, chkG, Bool.and_eq_true, decide_eq_true_eq] at h
    rcases List.mem_cons.1 hx with rfl | hx
    · exact h.1
    · exact chkR_all (p := some y) h.2 x hx
  | y :: l, some q, h, x, hx => by
    simp only [chkR, chkG, Bool.and_eq_true, decide_eq_true_eq] at h
    rcases List.mem_cons.1 hx with rfl | hx
    · exact h.1.1
    · exact chkR_all (p := some y) h.2 x hx

theorem getD_mem {l : List Int} {i : Nat} {P : Int → Prop} (h : ∀ x ∈ l, P x) (hi : i < l.length) : P (l.getD i 0) := by
  rw [List.getD_eq_getElem?_getD, List.getElem?_eq_getElem hi]
  exact h _ (List.getElem_mem hi)

theorem run_cycle_length (a0 : Gear) (a1 : Plan) (hg : planOk a0 a1 = true) : ∃ F d, run k55 F d 64 Tryz.f64 s_cycle_length (a0, a1, ()) = some (r_cycle_length.enc (lenP a0 a1)) := by
  refine ⟨200, 6, ?_⟩
  rw [tree_cycle_length]
  simp only [planOk, smallP, Bool.and_eq_true, decide_eq_true_eq] at hg
  obtain ⟨hp, h70⟩ := hg
  rw [planB_iff] at hp
  obtain ⟨h2, c1, c2, c3, c4, hr, hG⟩ := hp
  obtain ⟨s1, s2, s3, s4⟩ := stopG_pos hG
  have hfl : a0.floors ≤ 64 := by simp only [gearB_iff] at hG; omega
  have hall := chkR_all hr
  have e0 : IntKind.wrap IntKind.i64 (((a1.stops.length : Nat) : Int) - 1) = ((a1.stops.length : Nat) : Int) - 1 := IntWalk.i64_in _ (by omega)
  have e1 : (decide ((0 : Int) ≤ ((a1.stops.length : Nat) : Int) - 1) && decide (((a1.stops.length : Nat) : Int) - 1 < ((a1.stops.length : Nat) : Int))) = true := by simp; omega
  have e2 : 0 + Int.toNat (((a1.stops.length : Nat) : Int) - 1) = a1.stops.length - 1 := by omega
  have e3 : decide (a1.stops.length - 1 < a1.stops.length) = true := by simp; omega
  have e4 : decide ((0 : Int) < ((a1.stops.length : Nat) : Int)) = true := by simp; omega
  have e5 : decide (0 < a1.stops.length) = true := by simp; omega
  simp only [hG, e0, e1, e2, e3, e4, e5, Bool.and_self, Bool.and_true, Bool.true_and, cond_true]
  have hl := getD_mem (P := fun x => 0 ≤ x ∧ x < a0.floors) hall (show a1.stops.length - 1 < a1.stops.length by omega)
  have hf := getD_mem (P := fun x => 0 ≤ x ∧ x < a0.floors) hall (show 0 < a1.stops.length by omega)
  simp only [r_cycle_length, Res.int, lenP, lastS, firstS]
  generalize a1.stops.getD (a1.stops.length - 1) 0 = la at *
  generalize a1.stops.getD 0 0 = fi at *
  generalize stopG a0 = st at *
  generalize a0.times.travel = tr at *
  have w1 : IntKind.wrap IntKind.i64 (2 * ((a1.stops.length : Nat) : Int)) = 2 * ((a1.stops.length : Nat) : Int) := IntWalk.i64_in _ (by omega)
  have w2 : IntKind.wrap IntKind.i64 (2 * ((a1.stops.length : Nat) : Int) - 2) = 2 * ((a1.stops.length : Nat) : Int) - 2 := IntWalk.i64_in _ (by omega)
  have b1 : 0 ≤ (2 * ((a1.stops.length : Nat) : Int) - 2) * st := Int.mul_nonneg (by omega) (by omega)
  have b2 : (2 * ((a1.stops.length : Nat) : Int) - 2) * st ≤ 140 * 480 := Int.mul_le_mul (by omega) s2 (by omega) (by omega)
  have w3 := IntWalk.i64_in ((2 * ((a1.stops.length : Nat) : Int) - 2) * st) (by omega)
  have w4 := IntWalk.i64_in (la - fi) (by omega)
  have w5 := IntWalk.i64_in (2 * (la - fi)) (by omega)
  have b3 : 2 * (la - fi) * tr ≤ 128 * 60 := by
    have : 2 * (la - fi) * tr ≤ 128 * tr := Int.mul_le_mul_of_nonneg_right (by omega) (by omega)
    omega
  have b4 : -(128 * 60) ≤ 2 * (la - fi) * tr := by
    have : (-128) * tr ≤ 2 * (la - fi) * tr := Int.mul_le_mul_of_nonneg_right (by omega) (by omega)
    omega
  have w6 := IntWalk.i64_in (2 * (la - fi) * tr) (by omega)
  have w7 := IntWalk.i64_in ((2 * ((a1.stops.length : Nat) : Int) - 2) * st + 2 * (la - fi) * tr) (by omega)
  rw [w1, w2, w3, w4, w5, w6, w7]

theorem errOf_ne (b : Bool) (e : Int) (he : e ≠ 0) : (errOf b e != 0) = !b := by cases b <;> simp [errOf, he]

theorem run_cycle_Length (a0 : Gear) (a1 : Plan) (hg : smallGP a0 a1 = true) : ∃ F d, run k56 F d 32 Tryz.f32 s_cycle_Length (a0, a1, ()) = some (r_cycle_Length.enc (cycle_Length a0 a1)) := by
  refine ⟨200, 6, ?_⟩
  rw [tree_cycle_Length]
  simp only [planOk, cycle_check, errOf_ne _ 220 (by decide), hg, beqn, ble0, Bool.and_self, Bool.and_true, Bool.true_and, cond_true]
  have hs : smallP a1 = true := hg
  simp only [r_cycle_Length, Res.tup2, Res.int, cycle_Length, hs]
  cases planB a0 a1 <;> rfl

theorem rowL_length {l : List Int} (h : 2 ≤ l.length) : (rowL l).length = 2 * l.length - 2 := by
  simp [rowL]; omega

theorem placeP_range {p : Plan} {n : Int} (h2 : 2 ≤ p.stops.length) (hc : 1 ≤ p.cars) (h0 : 0 ≤ n) (hn : n < p.cars) : 0 ≤ placeP p n ∧ placeP p n < ((rowP p).length : Int) := by
  unfold placeP rowP
  rw [rowL_length h2]
  have hk : (0 : Int) ≤ 2 * (p.stops.length : Int) - 2 := by omega
  have hm : 0 ≤ n * (2 * (p.stops.length : Int) - 2) := Int.mul_nonneg h0 hk
  rw [Int.tdiv_eq_ediv_of_nonneg hm]
  refine ⟨Int.ediv_nonneg hm (by omega), ?_⟩
  have hlt : n * (2 * (p.stops.length : Int) - 2) < p.cars * (2 * (p.stops.length : Int) - 2) := Int.mul_lt_mul_of_pos_right hn (by omega)
  have : n * (2 * (p.stops.length : Int) - 2) / p.cars < 2 * (p.stops.length : Int) - 2 := by
    apply Int.ediv_lt_of_lt_mul (by omega)
    rw [Int.mul_comm (2 * (p.stops.length : Int) - 2)]
    exact hlt
  omega

theorem run_cycle_First (a0 : Gear) (a1 : Plan) (hg : smallGP a0 a1 = true) : ∃ F d, run k57 F d 35 Tryz.f35 s_cycle_First (a0, a1, ()) = some (r_cycle_First.enc (cycle_First a0 a1)) := by
  refine ⟨200, 6, ?_⟩
  rw [tree_cycle_First]
  simp only [cycle_check, errOf_ne _ 220 (by decide), hg, beqn, ble0, Bool.and_self, Bool.and_true, Bool.true_and, cond_true]
  have hs : smallP a1 = true := hg
  simp only [r_cycle_First, Res.tup2, Res.int, cycle_First]
  cases hp : planB a0 a1
  · rfl
  · rw [planB_iff] at hp
    obtain ⟨h2, c1, c2, c3, c4, hr, hG⟩ := hp
    have hpl : placeOk a1 a1.car = true := by simp [placeOk, hs, c1, c2, c3]; omega
    obtain ⟨p1, p2⟩ := placeP_range h2 c1 c3 c4
    have e1 : (decide (0 ≤ placeP a1 a1.car) && decide (placeP a1 a1.car < (((rowP a1).length : Nat) : Int))) = true := by simp [p1, p2]
    have e2 : decide (Int.toNat (placeP a1 a1.car) < (rowP a1).length) = true := by simp; omega
    simp only [hs, hpl, e1, e2, Bool.and_self, Bool.and_true, cond_true, cond_false, Bool.not_true, Nat.zero_add, errOf]

theorem go_wride (l0 l11 : List (Int)) (v1_0 v1_1 v1_2 v1_3 v1_4 v1_5 v1_6 v1_7 v1_8 v1_9 v2_1 v2_2 v3_0 v4_0 v4_1 v4_2 v5_0 v6_0 v7_0 v7_1 v7_2 v7_3 v7_4 v7_5 v7_6 v7_7 v7_8 v7_9 v8_1 v8_2 v12_0 v12_1 v12_2 v5 v6 v8 v9 v10 v18 v19 : Int) (F d : Nat) (ht1 : 1 ≤ v7_1) (ht2 : v7_1 ≤ 60) (hdir : v10 = 1 ∨ v10 = -1) (hb1 : 0 ≤ v9) (hb2 : v9 ≤ 64) : ∀ (r n : Nat) (at_ a : Int), r < n → v9 - a = (r : Int) * v10 → r ≤ 64 → 0 ≤ at_ → at_ ≤ 1000000 + (64 - (r : Int)) * 60 → 0 ≤ a → a ≤ 64 →
    I_wride F (d + 3) n (S_wride l0 l11 v1_0 v1_1 v1_2 v1_3 v1_4 v1_5 v1_6 v1_7 v1_8 v1_9 v2_1 v2_2 v3_0 v4_0 v4_1 v4_2 v5_0 v6_0 v7_0 v7_1 v7_2 v7_3 v7_4 v7_5 v7_6 v7_7 v7_8 v7_9 v8_1 v8_2 v12_0 v12_1 v12_2 v5 at_ a v9 v10 v18 v19) = cond (decide (at_ ≤ v3_0) && decide (v3_0 < at_ + (r : Int) * v7_1)) (some (.exit 0, (X_wride_0 l0 l11 v1_0 v1_1 v1_2 v1_3 v1_4 v1_5 v1_6 v1_7 v1_8 v1_9 v2_1 v2_2 v3_0 v7_0 v7_1 v7_2 v7_3 v7_4 v7_5 v7_6 v7_7 v7_8 v7_9 v8_1 v8_2 v12_0 v12_1 v12_2 v5 (at_ + (v3_0 - at_) / v7_1 * v7_1) (a + (v3_0 - at_) / v7_1 * v10) v10 v18 v19))) (some (.exit 2, (X_wride_1 l0 l11 v1_0 v1_1 v1_2 v1_3 v1_4 v1_5 v1_6 v1_7 v1_8 v1_9 v2_1 v2_2 v3_0 v4_0 v4_1 v4_2 v5_0 v6_0 v7_0 v7_1 v7_2 v7_3 v7_4 v7_5 v7_6 v7_7 v7_8 v7_9 v8_1 v8_2 v12_0 v12_1 v12_2 v5 (at_ + (r : Int) * v7_1) v18 v19))) := by
  intro r
  induction r with
  | zero =>
    intro n at_ a hn hr h64 h0 h1 ha0 ha1
    obtain ⟨n, rfl⟩ : ∃ m, n = m + 1 := ⟨n - 1, by omega⟩
    rw [step_wride]
    have e : (a != v9) = false := by
      have : a = v9 := by simp at hr; omega
      simp [this]
    have c : (decide (at_ ≤ v3_0) && decide (v3_0 < at_ + ((0 : Nat) : Int) * v7_1)) = false := by
      rw [Bool.eq_false_iff]
      simp
      try omega
    rw [e, c, cond_false, cond_false]
    simp
  | succ r ih =>
    intro n at_ a hn hr h64 h0 h1 ha0 ha1
    obtain ⟨n, rfl⟩ : ∃ m, n = m + 1 := ⟨n - 1, by omega⟩
    rw [step_wride]
    have hr' : v9 - (a + v10) = (r : Int) * v10 := by
      have : ((r + 1 : Nat) : Int) * v10 = (r : Int) * v10 + v10 := by rw [Int.natCast_add, Int.add_mul]; simp
      omega
    have hne : a ≠ v9 := by
      intro h
      rcases hdir with rfl | rfl <;> simp at hr <;> omega
    have e : (a != v9) = true := by simp [hne]
    have w1 := IntWalk.i64_in (at_ + v7_1) (by omega)
    have w2 := IntWalk.i64_in (a + v10) (by omega)
    have hmul : ((r + 1 : Nat) : Int) * v7_1 = (r : Int) * v7_1 + v7_1 := by rw [Int.natCast_add, Int.add_mul]; simp
    have hrn : 0 ≤ (r : Int) * v7_1 := Int.mul_nonneg (by omega) (by omega)
    have hge : decide (v3_0 ≥ at_) = decide (at_ ≤ v3_0) := rfl
    rw [e, cond_true, w1, w2, hge]
    have ih' := ih n (at_ + v7_1) (a + v10) (by omega) hr' (by omega) (by omega) (by omega) (by rcases hdir with rfl | rfl <;> simp at hr <;> omega) (by rcases hdir with rfl | rfl <;> simp at hr <;> omega)
    by_cases hin : at_ ≤ v3_0 ∧ v3_0 < at_ + v7_1
    · have c1 : (bif decide (at_ ≤ v3_0) then decide (v3_0 < at_ + v7_1) else false) = true := by simp [hin.1, hin.2]
      have c2 : (decide (at_ ≤ v3_0) && decide (v3_0 < at_ + ((r + 1 : Nat) : Int) * v7_1)) = true := by rw [hmul]; simp [hin.1]; omega
      have hq : (v3_0 - at_) / v7_1 = 0 := Int.ediv_eq_zero_of_lt (by omega) (by omega)
      rw [c1, c2, cond_true, cond_true, hq]
      simp
    · have c1 : (bif decide (at_ ≤ v3_0) then decide (v3_0 < at_ + v7_1) else false) = false := by
        cases h : decide (at_ ≤ v3_0)
        · rfl
        · simp at h; simp; omega
      rw [c1, cond_false, ih']
      have c3 : (decide (at_ ≤ v3_0) && decide (v3_0 < at_ + ((r + 1 : Nat) : Int) * v7_1)) = (decide (at_ + v7_1 ≤ v3_0) && decide (v3_0 < at_ + v7_1 + (r : Int) * v7_1)) := by
        rw [hmul, Bool.eq_iff_iff]
        simp
        omega
      rw [c3]
      have hq : (v3_0 - (at_ + v7_1)) / v7_1 = (v3_0 - at_) / v7_1 - 1 := by
        rw [show v3_0 - (at_ + v7_1) = (v3_0 - at_) + (-1) * v7_1 by omega, Int.add_mul_ediv_right _ _ (by omega)]
        omega
      rw [hq, hmul]
      have q1 : at_ + v7_1 + ((v3_0 - at_) / v7_1 - 1) * v7_1 = at_ + (v3_0 - at_) / v7_1 * v7_1 := by rw [Int.sub_mul]; omega
      have q2 : a + v10 + ((v3_0 - at_) / v7_1 - 1) * v10 = a + (v3_0 - at_) / v7_1 * v10 := by rw [Int.sub_mul]; omega
      have q3 : at_ + v7_1 + (r : Int) * v7_1 = at_ + ((r : Int) * v7_1 + v7_1) := by omega
      rw [q1, q2, q3]

theorem main_wride (l0 l11 : List (Int)) (v1_0 v1_1 v1_2 v1_3 v1_4 v1_5 v1_6 v1_7 v1_8 v1_9 v2_1 v2_2 v3_0 v4_0 v4_1 v4_2 v5_0 v6_0 v7_0 v7_1 v7_2 v7_3 v7_4 v7_5 v7_6 v7_7 v7_8 v7_9 v8_1 v8_2 v12_0 v12_1 v12_2 v5 v6 v8 v9 v10 v18 v19 : Int) (hg : (rideOk v6 v7_1 v8 v9 v10) = true) : ∃ N d, I_wride N d N (S_wride l0 l11 v1_0 v1_1 v1_2 v1_3 v1_4 v1_5 v1_6 v1_7 v1_8 v1_9 v2_1 v2_2 v3_0 v4_0 v4_1 v4_2 v5_0 v6_0 v7_0 v7_1 v7_2 v7_3 v7_4 v7_5 v7_6 v7_7 v7_8 v7_9 v8_1 v8_2 v12_0 v12_1 v12_2 v5 v6 v8 v9 v10 v18 v19) = some (altK Prod.mk [(decide (v6 ≤ v3_0) && decide (v3_0 < v6 + ((v9 - v8).natAbs : Int) * v7_1), .exit 0, (X_wride_0 l0 l11 v1_0 v1_1 v1_2 v1_3 v1_4 v1_5 v1_6 v1_7 v1_8 v1_9 v2_1 v2_2 v3_0 v7_0 v7_1 v7_2 v7_3 v7_4 v7_5 v7_6 v7_7 v7_8 v7_9 v8_1 v8_2 v12_0 v12_1 v12_2 v5 (v6 + (v3_0 - v6) / v7_1 * v7_1) (v8 + (v3_0 - v6) / v7_1 * v10) v10 v18 v19))] (.exit 2) (X_wride_1 l0 l11 v1_0 v1_1 v1_2 v1_3 v1_4 v1_5 v1_6 v1_7 v1_8 v1_9 v2_1 v2_2 v3_0 v4_0 v4_1 v4_2 v5_0 v6_0 v7_0 v7_1 v7_2 v7_3 v7_4 v7_5 v7_6 v7_7 v7_8 v7_9 v8_1 v8_2 v12_0 v12_1 v12_2 v5 (v6 + ((v9 - v8).natAbs : Int) * v7_1) v18 v19)) := by
  simp only [rideOk, Bool.and_eq_true, decide_eq_true_eq, beq_iff_eq] at hg
  obtain ⟨h1, h2, h3, h4, h5, h6, h7, h8, rfl⟩ := hg
  have hdir : signI (v9 - v8) = 1 ∨ signI (v9 - v8) = -1 := by
    unfold signI
    cases decide (v9 - v8 > 0)
    · exact .inr rfl
    · exact .inl rfl
  have hr : v9 - v8 = ((v9 - v8).natAbs : Int) * signI (v9 - v8) := by
    unfold signI
    cases hd : decide (v9 - v8 > 0)
    · simp only [decide_eq_false_iff_not] at hd
      simp only [cond_false]
      omega
    · simp only [decide_eq_true_eq] at hd
      simp only [cond_true]
      omega
  have := go_wride l0 l11 v1_0 v1_1 v1_2 v1_3 v1_4 v1_5 v1_6 v1_7 v1_8 v1_9 v2_1 v2_2 v3_0 v4_0 v4_1 v4_2 v5_0 v6_0 v7_0 v7_1 v7_2 v7_3 v7_4 v7_5 v7_6 v7_7 v7_8 v7_9 v8_1 v8_2 v12_0 v12_1 v12_2 v5 v6 v8 v9 (signI (v9 - v8)) v18 v19 100 0 h3 h4 hdir h7 h8 (v9 - v8).natAbs 100 v6 v8 (by omega) hr (by omega) h1 (by omega) h5 h6
  refine ⟨100, 3, ?_⟩
  rw [this]
  cases (decide (v6 ≤ v3_0) && decide (v3_0 < v6 + ((v9 - v8).natAbs : Int) * v7_1)) <;> rfl

theorem legAt_lt {L : List Int} (hL : 0 < L.length) (i : Nat) : i % L.length < L.length := Nat.mod_lt _ hL

theorem leg_tmod {L : List Int} (i : Nat) : Int.tmod ((i : Nat) : Int) ((L.length : Nat) : Int) = ((i % L.length : Nat) : Int) := by
  rw [Int.tmod_eq_emod_of_nonneg (by omega)]; rfl

theorem legAt_in {L : List Int} (hL : 0 < L.length) (hall : ∀ x ∈ L, 0 ≤ x ∧ x ≤ 63) (i : Nat) : 0 ≤ legAt L i ∧ legAt L i ≤ 63 := getD_mem hall (legAt_lt hL i)

theorem go_wstop (l0 l11 : List (Int)) (v1_0 v1_1 v1_2 v1_3 v1_4 v1_5 v1_6 v1_7 v1_8 v1_9 v2_1 v2_2 v3_0 v4_0 v4_1 v4_2 v5_0 v6_0 v7_0 v7_1 v7_2 v7_3 v7_4 v7_5 v7_6 v7_7 v7_8 v7_9 v8_1 v8_2 v5 v6 v18 v19 : Int) (F d f : Nat) (hG : gearB (⟨v7_0, ⟨v7_1, v7_2, v7_3, v7_4, v7_5, v7_6, v7_7⟩, v7_8, v7_9⟩ : Gear) = true) (hN : l11.length ≤ 138) (hall : ∀ x ∈ l11, 0 ≤ x ∧ x ≤ 63) (hf : f < l11.length) : ∀ (m i n : Nat) (at_ : Int), i + m = l11.length → m < n → 0 ≤ at_ → at_ ≤ (i : Int) * 5000 →
    I_wstop F (d + 3) n (S_wstop l0 l11 v1_0 v1_1 v1_2 v1_3 v1_4 v1_5 v1_6 v1_7 v1_8 v1_9 v2_1 v2_2 v3_0 v4_0 v4_1 v4_2 v5_0 v6_0 v7_0 v7_1 v7_2 v7_3 v7_4 v7_5 v7_6 v7_7 v7_8 v7_9 v8_1 v8_2 ((f : Nat) : Int) at_ ((l11.length : Nat) : Int) ((i : Nat) : Int)) = some (altK Prod.mk [(legStop (legsFind v3_0 (⟨v7_0, ⟨v7_1, v7_2, v7_3, v7_4, v7_5, v7_6, v7_7⟩, v7_8, v7_9⟩ : Gear) l11 f m i at_), .exit 0, (X_wstop_0 l0 l11 v1_0 v1_1 v1_2 v1_3 v1_4 v1_5 v1_6 v1_7 v1_8 v1_9 v2_1 v2_2 v3_0 v7_0 v7_1 v7_2 v7_3 v7_4 v7_5 v7_6 v7_7 v7_8 v7_9 v8_1 v8_2 ((f : Nat) : Int) (legT (legsFind v3_0 (⟨v7_0, ⟨v7_1, v7_2, v7_3, v7_4, v7_5, v7_6, v7_7⟩, v7_8, v7_9⟩ : Gear) l11 f m i at_)) (legI (legsFind v3_0 (⟨v7_0, ⟨v7_1, v7_2, v7_3, v7_4, v7_5, v7_6, v7_7⟩, v7_8, v7_9⟩ : Gear) l11 f m i at_)))),
      (legRide (legsFind v3_0 (⟨v7_0, ⟨v7_1, v7_2, v7_3, v7_4, v7_5, v7_6, v7_7⟩, v7_8, v7_9⟩ : Gear) l11 f m i at_), .exit 0, (X_wstop_1 l0 l11 v1_0 v1_1 v1_2 v1_3 v1_4 v1_5 v1_6 v1_7 v1_8 v1_9 v2_1 v2_2 v3_0 v7_0 v7_1 v7_2 v7_3 v7_4 v7_5 v7_6 v7_7 v7_8 v7_9 v8_1 v8_2 ((f : Nat) : Int) (legT (legsFind v3_0 (⟨v7_0, ⟨v7_1, v7_2, v7_3, v7_4, v7_5, v7_6, v7_7⟩, v7_8, v7_9⟩ : Gear) l11 f m i at_)) (legI (legsFind v3_0 (⟨v7_0, ⟨v7_1, v7_2, v7_3, v7_4, v7_5, v7_6, v7_7⟩, v7_8, v7_9⟩ : Gear) l11 f m i at_))))] (.exit 0) (X_wstop_2 l0 l11 v1_0 v1_1 v1_2 v1_3 v1_4 v1_5 v1_6 v1_7 v1_8 v1_9 v2_1 v2_2 v3_0 v4_0 v4_1 v4_2 v5_0 v6_0 v7_0 v7_1 v7_2 v7_3 v7_4 v7_5 v7_6 v7_7 v7_8 v7_9 v8_1 v8_2)) := by
  obtain ⟨s1, s2, s3, s4⟩ := stopG_pos hG
  simp only at s3 s4
  have hL : 0 < l11.length := by omega
  intro m
  induction m with
  | zero =>
    intro i n at_ him hn h0 h1
    obtain ⟨n, rfl⟩ : ∃ k, n = k + 1 := ⟨n - 1, by omega⟩
    rw [step_wstop]
    have e : decide (((i : Nat) : Int) < ((l11.length : Nat) : Int)) = false := by simp; omega
    rw [e, cond_false]
    rfl
  | succ m ih =>
    intro i n at_ him hn h0 h1
    obtain ⟨n, rfl⟩ : ∃ k, n = k + 1 := ⟨n - 1, by omega⟩
    rw [step_wstop]
    have e : decide (((i : Nat) : Int) < ((l11.length : Nat) : Int)) = true := by simp; omega
    have e0 : (((l11.length : Nat) : Int) != 0) = true := by rw [bne_iff_ne]; omega
    have w1 : IntKind.wrap IntKind.i64 (((f : Nat) : Int) + ((i : Nat) : Int)) = ((f + i : Nat) : Int) := by rw [IntWalk.i64_in _ (by omega)]; omega
    have w2 : IntKind.wrap IntKind.i64 (((f + i : Nat) : Int) + 1) = ((f + i + 1 : Nat) : Int) := by rw [IntWalk.i64_in _ (by omega)]; omega
    have w3 : IntKind.wrap IntKind.i64 (((i : Nat) : Int) + 1) = ((i + 1 : Nat) : Int) := by rw [IntWalk.i64_in _ (by omega)]; omega
    have m1 := legAt_lt hL (f + i)
    have m2 := legAt_lt hL (f + i + 1)
    have e1 : ∀ j : Nat, j < l11.length → (decide (0 ≤ ((j : Nat) : Int)) && decide (((j : Nat) : Int) < ((l11.length : Nat) : Int))) = true := fun j hj => by simp; omega
    have e2 : ∀ j : Nat, j < l11.length → decide (j < l11.length) = true := fun j hj => by simpa using hj
    have e3 : ∀ j : Nat, 0 + Int.toNat ((j : Nat) : Int) = j := fun j => by omega
    have a1 := legAt_in hL hall (f + i)
    have a2 := legAt_in hL hall (f + i + 1)
    simp only [w1, w2, w3, leg_tmod, e1 _ m1, e1 _ m2, e2 _ m1, e2 _ m2, e3, e, e0, hG, Bool.and_self, Bool.and_true, Bool.true_and, cond_true, beqn]
    change 0 ≤ l11.getD ((f + i) % l11.length) 0 ∧ _ at a1
    change 0 ≤ l11.getD ((f + i + 1) % l11.length) 0 ∧ _ at a2
    have wst := IntWalk.i64_in (at_ + stopG (⟨v7_0, ⟨v7_1, v7_2, v7_3, v7_4, v7_5, v7_6, v7_7⟩, v7_8, v7_9⟩ : Gear)) (by omega)
    have wba := IntWalk.i64_in (l11.getD ((f + i + 1) % l11.length) 0 - l11.getD ((f + i) % l11.length) 0) (by simp only [legAt] at a1 a2; omega)
    have hle : legsFind v3_0 (⟨v7_0, ⟨v7_1, v7_2, v7_3, v7_4, v7_5, v7_6, v7_7⟩, v7_8, v7_9⟩ : Gear) l11 f (m + 1) i at_ = cond (decide (at_ ≤ v3_0) && decide (v3_0 < at_ + stopG (⟨v7_0, ⟨v7_1, v7_2, v7_3, v7_4, v7_5, v7_6, v7_7⟩, v7_8, v7_9⟩ : Gear))) (some (false, i, at_))
      (cond (decide (at_ + stopG (⟨v7_0, ⟨v7_1, v7_2, v7_3, v7_4, v7_5, v7_6, v7_7⟩, v7_8, v7_9⟩ : Gear) ≤ v3_0) && decide (v3_0 < at_ + stopG (⟨v7_0, ⟨v7_1, v7_2, v7_3, v7_4, v7_5, v7_6, v7_7⟩, v7_8, v7_9⟩ : Gear) + ((l11.getD ((f + i + 1) % l11.length) 0 - l11.getD ((f + i) % l11.length) 0).natAbs : Int) * v7_1)) (some (true, i, at_))
      (legsFind v3_0 (⟨v7_0, ⟨v7_1, v7_2, v7_3, v7_4, v7_5, v7_6, v7_7⟩, v7_8, v7_9⟩ : Gear) l11 f m (i + 1) (at_ + stopG (⟨v7_0, ⟨v7_1, v7_2, v7_3, v7_4, v7_5, v7_6, v7_7⟩, v7_8, v7_9⟩ : Gear) + ((l11.getD ((f + i + 1) % l11.length) 0 - l11.getD ((f + i) % l11.length) 0).natAbs : Int) * v7_1))) := rfl
    rw [wst, wba, hle]
    have hrd : rideOk (at_ + stopG (⟨v7_0, ⟨v7_1, v7_2, v7_3, v7_4, v7_5, v7_6, v7_7⟩, v7_8, v7_9⟩ : Gear)) v7_1 (l11.getD ((f + i) % l11.length) 0) (l11.getD ((f + i + 1) % l11.length) 0) (signI (l11.getD ((f + i + 1) % l11.length) 0 - l11.getD ((f + i) % l11.length) 0)) = true := by
      simp only [legAt] at a1 a2
      simp only [rideOk, Bool.and_eq_true, decide_eq_true_eq, beq_self_eq_true, and_true]
      omega
    have hge : (bif decide (v3_0 ≥ at_) then decide (v3_0 < at_ + stopG (⟨v7_0, ⟨v7_1, v7_2, v7_3, v7_4, v7_5, v7_6, v7_7⟩, v7_8, v7_9⟩ : Gear)) else false) = (decide (at_ ≤ v3_0) && decide (v3_0 < at_ + stopG (⟨v7_0, ⟨v7_1, v7_2, v7_3, v7_4, v7_5, v7_6, v7_7⟩, v7_8, v7_9⟩ : Gear))) := by
      rw [show decide (v3_0 ≥ at_) = decide (at_ ≤ v3_0) from rfl]
      cases decide (at_ ≤ v3_0) <;> rfl
    rw [hge, hrd, cond_true]
    have hmul : 0 ≤ ((l11.getD ((f + i + 1) % l11.length) 0 - l11.getD ((f + i) % l11.length) 0).natAbs : Int) * v7_1 ∧ ((l11.getD ((f + i + 1) % l11.length) 0 - l11.getD ((f + i) % l11.length) 0).natAbs : Int) * v7_1 ≤ 63 * 60 := by
      simp only [legAt] at a1 a2
      refine ⟨Int.mul_nonneg (by omega) (by omega), Int.mul_le_mul (by omega) s4 (by omega) (by omega)⟩
    have ih' := ih (i + 1) n (at_ + stopG (⟨v7_0, ⟨v7_1, v7_2, v7_3, v7_4, v7_5, v7_6, v7_7⟩, v7_8, v7_9⟩ : Gear) + ((l11.getD ((f + i + 1) % l11.length) 0 - l11.getD ((f + i) % l11.length) 0).natAbs : Int) * v7_1) (by omega) (by omega) (by omega) (by omega)
    cases (decide (at_ ≤ v3_0) && decide (v3_0 < at_ + stopG (⟨v7_0, ⟨v7_1, v7_2, v7_3, v7_4, v7_5, v7_6, v7_7⟩, v7_8, v7_9⟩ : Gear)))
    · simp only [cond_false]
      cases (decide (at_ + stopG (⟨v7_0, ⟨v7_1, v7_2, v7_3, v7_4, v7_5, v7_6, v7_7⟩, v7_8, v7_9⟩ : Gear) ≤ v3_0) && decide (v3_0 < at_ + stopG (⟨v7_0, ⟨v7_1, v7_2, v7_3, v7_4, v7_5, v7_6, v7_7⟩, v7_8, v7_9⟩ : Gear) + ((l11.getD ((f + i + 1) % l11.length) 0 - l11.getD ((f + i) % l11.length) 0).natAbs : Int) * v7_1))
      · simp only [cond_false]
        exact ih'
      · rfl
    · rfl

theorem main_wstop (l0 l11 : List (Int)) (v1_0 v1_1 v1_2 v1_3 v1_4 v1_5 v1_6 v1_7 v1_8 v1_9 v2_1 v2_2 v3_0 v4_0 v4_1 v4_2 v5_0 v6_0 v7_0 v7_1 v7_2 v7_3 v7_4 v7_5 v7_6 v7_7 v7_8 v7_9 v8_1 v8_2 v5 v6 v18 v19 : Int) (hg : (legsOk (⟨v7_0, ⟨v7_1, v7_2, v7_3, v7_4, v7_5, v7_6, v7_7⟩, v7_8, v7_9⟩ : Gear) l11 v5 v6 v18 v19) = true) : ∃ N d, I_wstop N d N (S_wstop l0 l11 v1_0 v1_1 v1_2 v1_3 v1_4 v1_5 v1_6 v1_7 v1_8 v1_9 v2_1 v2_2 v3_0 v4_0 v4_1 v4_2 v5_0 v6_0 v7_0 v7_1 v7_2 v7_3 v7_4 v7_5 v7_6 v7_7 v7_8 v7_9 v8_1 v8_2 v5 v6 v18 v19) = some (altK Prod.mk [(legStop (legsFind v3_0 (⟨v7_0, ⟨v7_1, v7_2, v7_3, v7_4, v7_5, v7_6, v7_7⟩, v7_8, v7_9⟩ : Gear) l11 v5.toNat l11.length 0 0), .exit 0, (X_wstop_0 l0 l11 v1_0 v1_1 v1_2 v1_3 v1_4 v1_5 v1_6 v1_7 v1_8 v1_9 v2_1 v2_2 v3_0 v7_0 v7_1 v7_2 v7_3 v7_4 v7_5 v7_6 v7_7 v7_8 v7_9 v8_1 v8_2 v5 (legT (legsFind v3_0 (⟨v7_0, ⟨v7_1, v7_2, v7_3, v7_4, v7_5, v7_6, v7_7⟩, v7_8, v7_9⟩ : Gear) l11 v5.toNat l11.length 0 0)) (legI (legsFind v3_0 (⟨v7_0, ⟨v7_1, v7_2, v7_3, v7_4, v7_5, v7_6, v7_7⟩, v7_8, v7_9⟩ : Gear) l11 v5.toNat l11.length 0 0)))), (legRide (legsFind v3_0 (⟨v7_0, ⟨v7_1, v7_2, v7_3, v7_4, v7_5, v7_6, v7_7⟩, v7_8, v7_9⟩ : Gear) l11 v5.toNat l11.length 0 0), .exit 0, (X_wstop_1 l0 l11 v1_0 v1_1 v1_2 v1_3 v1_4 v1_5 v1_6 v1_7 v1_8 v1_9 v2_1 v2_2 v3_0 v7_0 v7_1 v7_2 v7_3 v7_4 v7_5 v7_6 v7_7 v7_8 v7_9 v8_1 v8_2 v5 (legT (legsFind v3_0 (⟨v7_0, ⟨v7_1, v7_2, v7_3, v7_4, v7_5, v7_6, v7_7⟩, v7_8, v7_9⟩ : Gear) l11 v5.toNat l11.length 0 0)) (legI (legsFind v3_0 (⟨v7_0, ⟨v7_1, v7_2, v7_3, v7_4, v7_5, v7_6, v7_7⟩, v7_8, v7_9⟩ : Gear) l11 v5.toNat l11.length 0 0))))] (.exit 0) (X_wstop_2 l0 l11 v1_0 v1_1 v1_2 v1_3 v1_4 v1_5 v1_6 v1_7 v1_8 v1_9 v2_1 v2_2 v3_0 v4_0 v4_1 v4_2 v5_0 v6_0 v7_0 v7_1 v7_2 v7_3 v7_4 v7_5 v7_6 v7_7 v7_8 v7_9 v8_1 v8_2)) := by
  simp only [legsOk, Bool.and_eq_true, decide_eq_true_eq, beq_iff_eq, List.all_eq_true] at hg
  obtain ⟨hG, h1, h2, h3, h4, rfl, rfl, rfl⟩ := hg
  obtain ⟨f, rfl⟩ : ∃ f : Nat, v5 = (f : Int) := ⟨v5.toNat, by omega⟩
  have := go_wstop l0 l11 v1_0 v1_1 v1_2 v1_3 v1_4 v1_5 v1_6 v1_7 v1_8 v1_9 v2_1 v2_2 v3_0 v4_0 v4_1 v4_2 v5_0 v6_0 v7_0 v7_1 v7_2 v7_3 v7_4 v7_5 v7_6 v7_7 v7_8 v7_9 v8_1 v8_2 0 0 0 0 200 0 f hG h1 h2 (by omega) l11.length 0 200 0 (by omega) (by omega) (by omega) (by omega)
  refine ⟨200, 3, ?_⟩
  rw [show ((f : Nat) : Int).toNat = f by omega]
  exact this

theorem rowL_mem {l : List Int} {x : Int} (h : x ∈ rowL l) : x ∈ l := by
  unfold rowL at h
  rcases List.mem_append.1 h with h | h
  · exact h
  · exact List.dropLast_subset _ (List.mem_of_mem_drop (List.mem_reverse.1 h))

/-- What is known of a plan that may be. -/
theorem plan_facts {g : Gear} {p : Plan} (hs : smallP p = true) (hp : planB g p = true) : gearB g = true ∧ 2 ≤ p.stops.length ∧ p.stops.length ≤ 70 ∧ (rowP p).length = 2 * p.stops.length - 2 ∧ placeOk p p.car = true ∧ 0 ≤ placeP p p.car ∧ placeP p p.car < ((rowP p).length : Int) ∧ (∀ x ∈ rowP p, 0 ≤ x ∧ x ≤ 63) ∧ legsOk g (rowP p) (placeP p p.car) 0 ((rowP p).length : Int) 0 = true := by
  have h70 : p.stops.length ≤ 70 := by simpa [smallP] using hs
  rw [planB_iff] at hp
  obtain ⟨h2, c1, c2, c3, c4, hr, hG⟩ := hp
  obtain ⟨p1, p2⟩ := placeP_range h2 c1 c3 c4
  have hl := rowL_length h2
  have hfl : g.floors ≤ 64 := by simp only [gearB_iff] at hG; omega
  have hall : ∀ x ∈ rowP p, 0 ≤ x ∧ x ≤ 63 := fun x hx => by
    have := chkR_all hr x (rowL_mem hx)
    omega
  have hL : (rowP p).length = 2 * p.stops.length - 2 := hl
  refine ⟨hG, h2, h70, hL, ?_, p1, p2, hall, ?_⟩
  · simp [placeOk, hs, c1, c2, c3]; omega
  · simp only [legsOk, Bool.and_eq_true, decide_eq_true_eq, beq_self_eq_true, List.all_eq_true, and_true]
    exact ⟨hG, by omega, hall, p1, p2⟩

theorem legGo_le {L : List Int} (hL : 0 < L.length) (hall : ∀ x ∈ L, 0 ≤ x ∧ x ≤ 63) (i : Nat) : legGo L i ≤ 63 := by
  have h1 := legAt_in hL hall i
  have h2 := legAt_in hL hall (i + 1)
  unfold legGo
  omega

theorem run_cycle_within (a0 : Gear) (a1 : Plan) (a2 : Int) (hg : smallGP3 a0 a1 a2 = true) : ∃ F d, run k60 F d 65 Tryz.f65 s_cycle_within (a0, a1, a2, ()) = some (r_cycle_within.enc (cycle_within a0 a1 a2)) := by
  refine ⟨200, 6, ?_⟩
  rw [tree_cycle_within]
  have hgp : smallGP a0 a1 = true := hg
  simp only [cycle_check, errOf_ne _ 220 (by decide), hgp, beqn, ble0, Bool.and_self, Bool.and_true, Bool.true_and, cond_true]
  have hs : smallP a1 = true := hg
  simp only [r_cycle_within, Res.tup3, Res.int, Res.agg, cycle_within, cPart_enc]
  cases hp : planB a0 a1
  · rfl
  · obtain ⟨hG, h2, h70, hL, hpl, p1, p2, hall, hlo⟩ := plan_facts hs hp
    obtain ⟨s1, s2, s3, s4⟩ := stopG_pos hG
    have hL0 : 0 < (rowP a1).length := by omega
    simp only [hs, hpl, hlo, Bool.and_self, Bool.and_true, cond_true, cond_false, Bool.not_true]
    obtain ⟨f, hf⟩ : ∃ f : Nat, placeP a1 a1.car = (f : Int) := ⟨(placeP a1 a1.car).toNat, by omega⟩
    rw [hf]
    have hft : ((f : Nat) : Int).toNat = f := by omega
    unfold legOf
    rw [hf, hft]
    cases hq : legsFind a2 a0 (rowP a1) f (rowP a1).length 0 0 with
    | none => rfl
    | some r =>
      obtain ⟨b, i, t⟩ := r
      obtain ⟨q1, q2, q3, q4⟩ := legsFind_spec hq
      obtain ⟨t1, t2⟩ := legsFind_ge ⟨by omega, s2⟩ ⟨by omega, s4⟩ (fun i => by have := legGo_le hL0 hall i; omega) hq
      have hA := legAt_in hL0 hall (f + i)
      have hB := legAt_in hL0 hall (f + i + 1)
      have hGo := legGo_le hL0 hall (f + i)
      have w1 : IntKind.wrap IntKind.i64 (((f : Nat) : Int) + ((i : Nat) : Int)) = ((f + i : Nat) : Int) := by rw [IntWalk.i64_in _ (by omega)]; omega
      have w2 : IntKind.wrap IntKind.i64 (((f + i : Nat) : Int) + 1) = ((f + i + 1 : Nat) : Int) := by rw [IntWalk.i64_in _ (by omega)]; omega
      have e3 : ∀ j : Nat, 0 + Int.toNat ((j : Nat) : Int) = j := fun j => by omega
      cases b with
      | false =>
        simp only [legStop, legI, legT, cond_true, w1, leg_tmod, e3, partOf, legAt]
        have q3 := q3 rfl
        rw [IntWalk.i64_in (a2 - t) (by omega)]
      | true =>
        have q4 := q4 rfl
        have hmul : legGo (rowP a1) (f + i) * a0.times.travel ≤ 63 * 60 := Int.mul_le_mul hGo s4 (by omega) (by omega)
        have hm0 : 0 ≤ (a2 - (t + stopG a0)) / a0.times.travel * a0.times.travel := Int.mul_nonneg (Int.ediv_nonneg (by omega) (by omega)) (by omega)
        have hm1 : (a2 - (t + stopG a0)) / a0.times.travel * a0.times.travel ≤ a2 - (t + stopG a0) := Int.ediv_mul_le _ (by omega)
        have w3 := IntWalk.i64_in (t + stopG a0) (by omega)
        simp only [legAt] at hA hB
        have w4 := IntWalk.i64_in ((rowP a1).getD ((f + i + 1) % (rowP a1).length) 0 - (rowP a1).getD ((f + i) % (rowP a1).length) 0) (by omega)
        have w5 := IntWalk.i64_in (a2 - (t + stopG a0 + (a2 - (t + stopG a0)) / a0.times.travel * a0.times.travel)) (by omega)
        simp only [legStop, legRide, legI, legT, cond_true, cond_false, w1, w2, w3, w4, w5, leg_tmod, e3, partOf, legAt]

theorem signI_ne (n : Int) : signI n ≠ 0 := by
  unfold signI
  cases decide (n > 0) <;> simp

/-- What is known of the part of a round. -/
theorem within_facts {g : Gear} {p : Plan} {ph : Int} (h : smallP p = true) (he : (cycle_within g p ph).2.2 = 0) :
    planB g p = true ∧ 0 ≤ (cycle_within g p ph).2.1 ∧ ((cycle_within g p ph).1.dir ≠ 0 → (cycle_within g p ph).2.1 < g.times.travel) ∧ ((cycle_within g p ph).1.dir = 0 → (cycle_within g p ph).2.1 < stopG g) := by
  cases hp : planB g p with
  | false => simp [cycle_within, hp] at he
  | true =>
    obtain ⟨hG, h2, h70, hL, hpl, p1, p2, hall, hlo⟩ := plan_facts h hp
    obtain ⟨s1, s2, s3, s4⟩ := stopG_pos hG
    simp only [cycle_within, hp, cond_true] at he ⊢
    cases hq : legOf g p ph with
    | none => rw [hq] at he; simp [partOf] at he
    | some r =>
      obtain ⟨b, i, t⟩ := r
      obtain ⟨q1, q2, q3, q4⟩ := legsFind_spec hq
      cases b with
      | false =>
        have q3 := q3 rfl
        simp only [partOf]
        exact ⟨trivial, by omega, fun hx => absurd rfl hx, fun _ => by omega⟩
      | true =>
        have q4 := q4 rfl
        simp only [partOf]
        have e1 := Int.emod_nonneg (ph - (t + stopG g)) (show g.times.travel ≠ 0 by omega)
        have e2 := Int.emod_lt_of_pos (ph - (t + stopG g)) (show 0 < g.times.travel by omega)
        have e3 := Int.mul_ediv_add_emod (ph - (t + stopG g)) g.times.travel
        rw [Int.mul_comm] at e3
        refine ⟨trivial, by omega, fun _ => by omega, fun hx => absurd hx (signI_ne _)⟩

theorem gear_facts {g : Gear} (h : gearB g = true) : 1 ≤ g.times.level ∧ g.times.level ≤ 480 ∧ 1 ≤ g.times.open_ ∧ g.times.open_ ≤ 480 ∧ 1 ≤ g.dwell ∧ g.dwell ≤ 480 ∧ 1 ≤ g.times.close ∧ g.times.close ≤ 480 := by
  simp only [gearB_iff, timesB_iff] at h
  omega

theorem run_cycle_At (a0 : Gear) (a1 : Plan) (a2 : Int) (hg : smallGP3 a0 a1 a2 = true) : ∃ F d, run k61 F d 33 Tryz.f33 s_cycle_At (a0, a1, a2, ()) = some (r_cycle_At.enc (cycle_At a0 a1 a2)) := by
  refine ⟨200, 6, ?_⟩
  rw [tree_cycle_At]
  have hs : smallP a1 = true := hg
  simp only [hg, beqn, ble0, Bool.and_self, Bool.and_true, Bool.true_and, cond_true]
  simp only [r_cycle_At, Res.tup2, Res.int, Res.agg, cycle_At]
  cases he : ((cycle_within a0 a1 a2).2.2 == 0) with
  | false =>
    have hne : ((cycle_within a0 a1 a2).2.2 != 0) = true := by simp [bne, he]
    rw [hne]
    rfl
  | true =>
    have hne : ((cycle_within a0 a1 a2).2.2 != 0) = false := by simp [bne, he]
    have he' : (cycle_within a0 a1 a2).2.2 = 0 := by simpa using he
    obtain ⟨hp, w1, w2, w3⟩ := within_facts hs he'
    obtain ⟨hG, _⟩ := plan_facts hs hp
    obtain ⟨s1, s2, s3, s4⟩ := stopG_pos hG
    obtain ⟨g1, g2, g3, g4, g5, g6, g7, g8⟩ := gear_facts hG
    rw [hne]
    simp only [cond_true, cond_false]
    generalize cycle_within a0 a1 a2 = W at *
    obtain ⟨x, n, e⟩ := W
    simp only at *
    have hn : n ≤ 480 := by
      by_cases hd : x.dir = 0
      · have := w3 hd; omega
      · have := w2 hd; omega
    rw [IntWalk.i64_in (a0.times.travel - n) (by omega), IntWalk.i64_in (a0.times.level - n) (by omega), IntWalk.i64_in (n - a0.times.level) (by omega), IntWalk.i64_in (n - a0.times.level - a0.times.open_) (by omega), IntWalk.i64_in (n - a0.times.level - a0.times.open_ - a0.dwell) (by omega),
      IntWalk.i64_in (a0.times.open_ - (n - a0.times.level)) (by omega), IntWalk.i64_in (a0.dwell - (n - a0.times.level - a0.times.open_)) (by omega), IntWalk.i64_in (a0.times.close - (n - a0.times.level - a0.times.open_ - a0.dwell)) (by omega)]
    unfold atPart doorsAt
    cases (n == 0)
    · cases (x.dir != 0)
      · cases decide (n < a0.times.level)
        · cases decide (n - a0.times.level < a0.times.open_)
          · cases decide (n - a0.times.level - a0.times.open_ < a0.dwell)
            · cases decide (n - a0.times.level - a0.times.open_ - a0.dwell < a0.times.close) <;> rfl
            · rfl
          · rfl
        · rfl
      · rfl
    · rfl

theorem run_cycle_Cmd (a0 : Gear) (a1 : Plan) (a2 : Int) (hg : smallGP3 a0 a1 a2 = true) : ∃ F d, run k62 F d 40 Tryz.f40 s_cycle_Cmd (a0, a1, a2, ()) = some (r_cycle_Cmd.enc (cycle_Cmd a0 a1 a2)) := by
  refine ⟨200, 6, ?_⟩
  rw [tree_cycle_Cmd]
  simp only [hg, beqn, ble0, Bool.and_self, Bool.and_true, Bool.true_and, cond_true]
  simp only [r_cycle_Cmd, Res.tup2, Res.int, cycle_Cmd, cmdPart]
  rw [show ((cycle_within a0 a1 a2).2.2 != 0) = !((cycle_within a0 a1 a2).2.2 == 0) from rfl]
  cases ((cycle_within a0 a1 a2).2.2 == 0)
  · rfl
  · cases decide ((cycle_within a0 a1 a2).2.1 > 0)
    · cases decide ((cycle_within a0 a1 a2).1.dir > 0)
      · cases decide ((cycle_within a0 a1 a2).1.dir < 0) <;> rfl
      · rfl
    · rfl

theorem hasI_mem {l : List Int} {x : Int} (h : x ∈ l) : hasI l x = true := by
  simp only [hasI, List.any_eq_true]
  exact ⟨x, h, by simp⟩

theorem ite_self' (b c : Bool) : (bif b then true else c) = (b || c) := by cases b <;> rfl

theorem ite_and' (b c : Bool) : (bif b then c else false) = (b && c) := by cases b <;> rfl

theorem legAt_floors {g : Gear} {p : Plan} (h2 : 2 ≤ p.stops.length) (hr : chkR g.floors none p.stops = true) (i : Nat) : 0 ≤ legAt (rowP p) i ∧ legAt (rowP p) i ≤ g.floors - 1 := by
  have hl : 0 < (rowP p).length := by unfold rowP; rw [rowL_length h2]; omega
  have := getD_mem (P := fun x => 0 ≤ x ∧ x < g.floors) (fun x hx => chkR_all hr x (rowL_mem hx)) (legAt_lt hl i)
  have h : 0 ≤ legAt (rowP p) i ∧ legAt (rowP p) i < g.floors := this
  omega

theorem lenP_bounds {g : Gear} {p : Plan} (hG : gearB g = true) (h2 : 2 ≤ p.stops.length) (h70 : p.stops.length ≤ 70) (hr : chkR g.floors none p.stops = true) : lenP g p ≤ 100000 := by
  obtain ⟨s1, s2, s3, s4⟩ := stopG_pos hG
  have hfl : g.floors ≤ 64 := by simp only [gearB_iff] at hG; omega
  have hall := chkR_all hr
  have hl := getD_mem (P := fun x => 0 ≤ x ∧ x < g.floors) hall (show p.stops.length - 1 < p.stops.length by omega)
  have hf := getD_mem (P := fun x => 0 ≤ x ∧ x < g.floors) hall (show 0 < p.stops.length by omega)
  unfold lenP lastS firstS
  generalize p.stops.getD (p.stops.length - 1) 0 = la at *
  generalize p.stops.getD 0 0 = fi at *
  generalize stopG g = st at *
  generalize g.times.travel = tr at *
  have b2 : (2 * ((p.stops.length : Nat) : Int) - 2) * st ≤ 140 * 480 := Int.mul_le_mul (by omega) s2 (by omega) (by omega)
  have b3 : 2 * (la - fi) * tr ≤ 128 * 60 := by
    have : 2 * (la - fi) * tr ≤ 128 * tr := Int.mul_le_mul_of_nonneg_right (by omega) (by omega)
    omega
  omega

theorem tmod_next {n x : Int} (h0 : 0 ≤ x) (h1 : x < n) : Int.tmod (x + 1) n = if x + 1 < n then x + 1 else 0 := by
  rw [Int.tmod_eq_emod_of_nonneg (by omega)]
  split
  · exact Int.emod_eq_of_lt (by omega) (by omega)
  · have : x + 1 = n := by omega
    rw [this, Int.emod_self]

theorem run_newelref22_Many (a0 : Plan) (hg : smallP a0 = true) : ∃ F d, run k63 F d 80 Tryz.f80 s_newelref22_Many (a0, ()) = some (r_newelref22_Many.enc (manyP a0)) := by
  refine ⟨200, 6, ?_⟩
  rw [tree_newelref22_Many]
  have h : a0.stops.length ≤ 70 := by simpa [smallP] using hg
  rw [IntWalk.i64_in (2 * ((a0.stops.length : Nat) : Int)) (by omega), IntWalk.i64_in (2 * ((a0.stops.length : Nat) : Int) - 2) (by omega)]
  rfl

theorem sizeP_iff {p : Plan} : sizeP p = true ↔ p.stops.length ≤ 70 ∧ 2 ≤ p.stops.length := by simp [sizeP]

theorem sizeP_small {p : Plan} (h : sizeP p = true) : smallP p = true := by
  rw [sizeP_iff] at h
  simp [smallP, h.1]

theorem run_newelref22_Stop (a0 : Plan) (a1 : Int) (hg : stopROk a0 a1 = true) : ∃ F d, run k64 F d 76 Tryz.f76 s_newelref22_Stop (a0, a1, ()) = some (r_newelref22_Stop.enc (stopR a0 a1)) := by
  refine ⟨200, 6, ?_⟩
  rw [tree_newelref22_Stop]
  simp only [stopROk, Bool.and_eq_true, decide_eq_true_eq] at hg
  obtain ⟨hz, h0, h1⟩ := hg
  have hs := sizeP_small hz
  rw [sizeP_iff] at hz
  obtain ⟨i, rfl⟩ : ∃ i : Nat, a1 = (i : Int) := ⟨a1.toNat, by omega⟩
  have hN : (rowP a0).length = 2 * a0.stops.length - 2 := rowL_length hz.2
  have hm : manyP a0 = ((2 * a0.stops.length - 2 : Nat) : Int) := by unfold manyP; omega
  have hmne : (manyP a0 != 0) = true := by rw [bne_iff_ne, hm]; omega
  have ht : Int.tmod ((i : Nat) : Int) (manyP a0) = ((i % (2 * a0.stops.length - 2) : Nat) : Int) := by
    rw [hm, Int.tmod_eq_emod_of_nonneg (by omega)]; rfl
  have hlt : i % (2 * a0.stops.length - 2) < 2 * a0.stops.length - 2 := Nat.mod_lt _ (by omega)
  have hleg : legAt (rowP a0) i = (rowP a0).getD (i % (2 * a0.stops.length - 2)) 0 := by unfold legAt; rw [hN]
  simp only [r_newelref22_Stop, Res.int, stopR, Int.toNat_natCast, hleg, ht, hmne, hs, beqn, ble0, Bool.and_self, Bool.and_true, Bool.true_and, cond_true]
  generalize i % (2 * a0.stops.length - 2) = m at *
  by_cases hk : m < a0.stops.length
  · have e1 : decide (((m : Nat) : Int) < ((a0.stops.length : Nat) : Int)) = true := by simp; omega
    have e2 : decide ((0 : Int) ≤ ((m : Nat) : Int)) = true := by simp
    have e3 : decide (m < a0.stops.length) = true := by simp; omega
    simp only [e1, e2, Int.toNat_natCast, Nat.zero_add, e3, Bool.and_self, cond_true]
    unfold rowP
    rw [rowL_lo hk]
  · have e1 : decide (((m : Nat) : Int) < ((a0.stops.length : Nat) : Int)) = false := by simp; omega
    have e4 : IntKind.wrap IntKind.i64 (manyP a0 - ((m : Nat) : Int)) = ((2 * a0.stops.length - 2 - m : Nat) : Int) := by rw [IntWalk.i64_in _ (by omega)]; omega
    have e2 : (decide ((0 : Int) ≤ ((2 * a0.stops.length - 2 - m : Nat) : Int)) && decide (((2 * a0.stops.length - 2 - m : Nat) : Int) < ((a0.stops.length : Nat) : Int))) = true := by simp; omega
    have e3 : decide (2 * a0.stops.length - 2 - m < a0.stops.length) = true := by simp; omega
    simp only [e1, e4, e2, Int.toNat_natCast, Nat.zero_add, e3, Bool.and_self, cond_true, cond_false]
    unfold rowP
    rw [rowL_hi (by omega) hlt]

theorem place_wrap {p : Plan} {n : Int} (h : p.stops.length ≤ 70) (h2 : 2 ≤ p.stops.length) (c1 : 1 ≤ p.cars) (n0 : 0 ≤ n) (n1 : n ≤ 8) : IntKind.wrap IntKind.i64 (Int.tdiv (IntKind.wrap IntKind.i64 (n * manyP p)) p.cars) = placeP p n ∧ 0 ≤ placeP p n ∧ placeP p n ≤ 1104 := by
  have b1 : n * manyP p ≤ 8 * 138 := Int.mul_le_mul n1 (by unfold manyP; omega) (by unfold manyP; omega) (by omega)
  have b2 : 0 ≤ n * manyP p := Int.mul_nonneg n0 (by unfold manyP; omega)
  have e : placeP p n = Int.tdiv (n * manyP p) p.cars := rfl
  have hn := Int.natAbs_tdiv_le_natAbs (n * manyP p) p.cars
  have hnn : 0 ≤ Int.tdiv (n * manyP p) p.cars := Int.tdiv_nonneg b2 (by omega)
  rw [IntWalk.i64_in (n * manyP p) (by omega), IntWalk.i64_in (Int.tdiv (n * manyP p) p.cars) (by omega), e]
  exact ⟨rfl, hnn, by omega⟩

theorem run_newelref22_Place (a0 : Plan) (hg : placeROk a0 = true) : ∃ F d, run k65 F d 77 Tryz.f77 s_newelref22_Place (a0, ()) = some (r_newelref22_Place.enc (placeR a0)) := by
  refine ⟨200, 6, ?_⟩
  rw [tree_newelref22_Place]
  simp only [placeROk, Bool.and_eq_true, decide_eq_true_eq] at hg
  obtain ⟨hz, c1, c2, c3, c4⟩ := hg
  have hs := sizeP_small hz
  rw [sizeP_iff] at hz
  have e0 : (a0.cars != 0) = true := by rw [bne_iff_ne]; omega
  simp only [hs, e0, beqn, ble0, Bool.and_self, Bool.and_true, Bool.true_and, cond_true, (place_wrap hz.1 hz.2 c1 c3 c4).1]
  rfl
end Go.Proofs.YtdpdmjjpdebpeaaGreat.Px.PxR
