/- Configurations: the functions and loops are what is said of them. -/
import Derived.Test.YtchmdbfcmcoohaaPxCSteps
import Derived.Test.YtchmdbfcmcoohaaPxIdx
set_option linter.unusedVariables false
set_option linter.unusedSimpArgs false
namespace Go.Proofs.Ytchmdbfcmcoohaa.Px.PxC
open Go Go.Proofs
set_option linter.unusedSimpArgs false
set_option linter.unusedVariables false

theorem chkG_last (ok : Int → Bool) (p : Int) (x : Int) (l : List Int) : chkG ok (some p) (x :: l) = (ok x && decide (p < x) && chkG ok (some x) l) := rfl

theorem go_stops (l0 : List (Int)) (l1 : List (Window)) (v2_0 v2_1 v2_2 v2_4 v2_5 v2_6 v2_7 v2_8 v2_9 v2_10 v2_11 v2_12 v2_13 v2_14 v2_15 v2_16 v2_17 v2_18 v2_19 v2_20 v2_21 v2_22 v2_23 v2_24 v2_25 v2_26 v2_27 v2_28 v2_29 v2_30 v2_31 v2_32 v2_33 v2_34 : Int) (v2_35 : Bool) (v2 : Int) (v3 : Bool) (v12 v13 : Int) (F d : Nat) : ∀ (suf pre : List Int) (v : Bool) (n : Nat), suf.length < n → (pre ++ suf).length ≤ 1048576 →
    I_stops F (d + 3) n (S_stops (pre ++ suf) l1 v2_0 v2_1 v2_2 v2_4 v2_5 v2_6 v2_7 v2_8 v2_9 v2_10 v2_11 v2_12 v2_13 v2_14 v2_15 v2_16 v2_17 v2_18 v2_19 v2_20 v2_21 v2_22 v2_23 v2_24 v2_25 v2_26 v2_27 v2_28 v2_29 v2_30 v2_31 v2_32 v2_33 v2_34 v2_35 v2 v (((pre ++ suf).length : Nat) : Int) ((pre.length : Nat) : Int)) = some (.exit 0, (X_stops_0 (pre ++ suf) l1 v2_0 v2_1 v2_2 v2_4 v2_5 v2_6 v2_7 v2_8 v2_9 v2_10 v2_11 v2_12 v2_13 v2_14 v2_15 v2_16 v2_17 v2_18 v2_19 v2_20 v2_21 v2_22 v2_23 v2_24 v2_25 v2_26 v2_27 v2_28 v2_29 v2_30 v2_31 v2_32 v2_33 v2_34 v2_35 v2 (v && chkS (IntKind.i64.wrap (v2_0 - 1)) pre.getLast? suf))) := by
  intro suf
  induction suf with
  | nil =>
    intro pre v n hn hl
    obtain ⟨n, rfl⟩ : ∃ k, n = k + 1 := ⟨n - 1, by omega⟩
    rw [step_stops, idx_end, cond_false]
    simp [chkG, chkS]
  | cons x suf ih =>
    intro pre v n hn hl
    obtain ⟨n, rfl⟩ : ∃ k, n = k + 1 := ⟨n - 1, by omega⟩
    have ih' := ih (pre ++ [x]) (v && (inB x 0 (IntKind.i64.wrap (v2_0 - 1)) && (pre.length == 0 || decide (pre.getLast?.getD 0 < x)))) n (by simp at hn; omega) (by simpa using hl)
    have hpl : pre.length + (suf.length + 1) ≤ 1048576 := by simpa using hl
    rw [step_stops]
    simp only [idx_lt, idx_ge, Bool.and_self, cond_true, idx_nat, idx_at, idx_next hl]
    rw [← idx_step] at ih'
    have hacc : (bif bif v then inB x 0 (IntKind.wrap IntKind.i64 (v2_0 - 1)) else false then bif ((pre.length : Nat) : Int) == 0 then true else decide (List.getD (pre ++ x :: suf) (0 + Int.toNat (IntKind.wrap IntKind.i64 ((pre.length : Int) - 1))) 0 < x) else false) = (v && (inB x 0 (IntKind.i64.wrap (v2_0 - 1)) && (pre.length == 0 || decide (pre.getLast?.getD 0 < x)))) := by
      cases v
      · rfl
      · cases inB x 0 (IntKind.wrap IntKind.i64 (v2_0 - 1))
        · rfl
        · rcases nil_or_snoc pre with rfl | ⟨q, p, rfl⟩
          · simp
          · rw [IntWalk.i64_in _ (by simp at hpl ⊢; omega), idx_last, idx_ne0]
            simp
    rw [hacc]
    have g1 : (decide (0 ≤ IntKind.wrap IntKind.i64 ((pre.length : Int) - 1)) && decide (IntKind.wrap IntKind.i64 ((pre.length : Int) - 1) < (((pre ++ x :: suf).length : Nat) : Int)) || !((bif v then inB x 0 (IntKind.wrap IntKind.i64 (v2_0 - 1)) else false) && !((pre.length : Nat) : Int) == 0)) = true := by
      rcases nil_or_snoc pre with rfl | ⟨q, p, rfl⟩
      · simp
      · rw [IntWalk.i64_in _ (by simp at hpl ⊢; omega)]
        simp
        try omega
    have g2 : (decide (0 + Int.toNat (IntKind.wrap IntKind.i64 ((pre.length : Int) - 1)) < (pre ++ x :: suf).length) || !((bif v then inB x 0 (IntKind.wrap IntKind.i64 (v2_0 - 1)) else false) && !((pre.length : Nat) : Int) == 0)) = true := by
      rcases nil_or_snoc pre with rfl | ⟨q, p, rfl⟩
      · simp
      · rw [IntWalk.i64_in _ (by simp at hpl ⊢; omega)]
        simp
        try omega
    rw [g1, cond_true, g2, cond_true]
    rw [ih']
    congr 3
    rcases nil_or_snoc pre with rfl | ⟨q, p, rfl⟩
    · simp [chkG, chkS, Bool.and_assoc]
    · simp [chkG, chkS, Bool.and_assoc]

theorem main_stops (l0 : List (Int)) (l1 : List (Window)) (v2_0 v2_1 v2_2 v2_4 v2_5 v2_6 v2_7 v2_8 v2_9 v2_10 v2_11 v2_12 v2_13 v2_14 v2_15 v2_16 v2_17 v2_18 v2_19 v2_20 v2_21 v2_22 v2_23 v2_24 v2_25 v2_26 v2_27 v2_28 v2_29 v2_30 v2_31 v2_32 v2_33 v2_34 : Int) (v2_35 : Bool) (v2 : Int) (v3 : Bool) (v12 v13 : Int) (hg : (decide (l0.length ≤ 1048576) && (v12 == (l0.length : Int) && v13 == 0)) = true) : ∃ N d, I_stops N d N (S_stops l0 l1 v2_0 v2_1 v2_2 v2_4 v2_5 v2_6 v2_7 v2_8 v2_9 v2_10 v2_11 v2_12 v2_13 v2_14 v2_15 v2_16 v2_17 v2_18 v2_19 v2_20 v2_21 v2_22 v2_23 v2_24 v2_25 v2_26 v2_27 v2_28 v2_29 v2_30 v2_31 v2_32 v2_33 v2_34 v2_35 v2 v3 v12 v13) = some (altK Prod.mk [] (.exit 0) (X_stops_0 l0 l1 v2_0 v2_1 v2_2 v2_4 v2_5 v2_6 v2_7 v2_8 v2_9 v2_10 v2_11 v2_12 v2_13 v2_14 v2_15 v2_16 v2_17 v2_18 v2_19 v2_20 v2_21 v2_22 v2_23 v2_24 v2_25 v2_26 v2_27 v2_28 v2_29 v2_30 v2_31 v2_32 v2_33 v2_34 v2_35 v2 (v3 && chkS (IntKind.i64.wrap (v2_0 - 1)) none l0))) := by
  simp only [Bool.and_eq_true, decide_eq_true_eq, beq_iff_eq] at hg
  obtain ⟨h1, rfl, rfl⟩ := hg
  have := go_stops l0 l1 v2_0 v2_1 v2_2 v2_4 v2_5 v2_6 v2_7 v2_8 v2_9 v2_10 v2_11 v2_12 v2_13 v2_14 v2_15 v2_16 v2_17 v2_18 v2_19 v2_20 v2_21 v2_22 v2_23 v2_24 v2_25 v2_26 v2_27 v2_28 v2_29 v2_30 v2_31 v2_32 v2_33 v2_34 v2_35 v2 v3 0 0 (l0.length + 3) 0 l0 [] v3 (l0.length + 3) (by omega) (by simpa using h1)
  exact ⟨l0.length + 3, 3, by simpa [altK] using this⟩

theorem go_wins (l0 : List (Int)) (l1 : List (Window)) (v2_0 v2_1 v2_2 v2_4 v2_5 v2_6 v2_7 v2_8 v2_9 v2_10 v2_11 v2_12 v2_13 v2_14 v2_15 v2_16 v2_17 v2_18 v2_19 v2_20 v2_21 v2_22 v2_23 v2_24 v2_25 v2_26 v2_27 v2_28 v2_29 v2_30 v2_31 v2_32 v2_33 v2_34 : Int) (v2_35 : Bool) (v4 v7 v8 : Int) (F d : Nat) : ∀ (suf pre : List Window) (n : Nat), suf.length < n → (pre ++ suf).length ≤ 1048576 →
    I_wins F (d + 3) n (S_wins l0 (pre ++ suf) v2_0 v2_1 v2_2 v2_4 v2_5 v2_6 v2_7 v2_8 v2_9 v2_10 v2_11 v2_12 v2_13 v2_14 v2_15 v2_16 v2_17 v2_18 v2_19 v2_20 v2_21 v2_22 v2_23 v2_24 v2_25 v2_26 v2_27 v2_28 v2_29 v2_30 v2_31 v2_32 v2_33 v2_34 v2_35 v4 (((pre ++ suf).length : Nat) : Int) ((pre.length : Nat) : Int)) = cond (suf.all windowB) (some (.exit 0, (X_wins_1 l0 (pre ++ suf) v2_0 v2_1 v2_2 v2_4 v2_5 v2_6 v2_7 v2_8 v2_9 v2_10 v2_11 v2_12 v2_13 v2_14 v2_15 v2_16 v2_17 v2_18 v2_19 v2_20 v2_21 v2_22 v2_23 v2_24 v2_25 v2_26 v2_27 v2_28 v2_29 v2_30 v2_31 v2_32 v2_33 v2_34 v2_35 v4))) (some (.ret, (X_wins_0 l0 (pre ++ suf) v2_0 v2_1 v2_2 v2_4 v2_5 v2_6 v2_7 v2_8 v2_9 v2_10 v2_11 v2_12 v2_13 v2_14 v2_15 v2_16 v2_17 v2_18 v2_19 v2_20 v2_21 v2_22 v2_23 v2_24 v2_25 v2_26 v2_27 v2_28 v2_29 v2_30 v2_31 v2_32 v2_33 v2_34 v2_35 ((pre.length + suf.findIdx (fun w => !windowB w) : Nat) : Int)))) := by
  intro suf
  induction suf with
  | nil =>
    intro pre n hn hl
    obtain ⟨n, rfl⟩ : ∃ k, n = k + 1 := ⟨n - 1, by omega⟩
    rw [step_wins, idx_end, cond_false]
    rfl
  | cons x suf ih =>
    intro pre n hn hl
    obtain ⟨n, rfl⟩ : ∃ k, n = k + 1 := ⟨n - 1, by omega⟩
    have ih' := ih (pre ++ [x]) n (by simp at hn; omega) (by simpa using hl)
    rw [step_wins]
    simp only [idx_lt, idx_ge, Bool.and_self, cond_true, idx_nat, idx_at, idx_next hl]
    rw [← idx_step] at ih'
    cases hw : windowB x
    · have : (config_Window x != 0) = true := by simp [config_Window, hw, errIf]
      rw [this, cond_true]
      simp [hw, List.findIdx_cons]
    · have : (config_Window x != 0) = false := by simp [config_Window, hw, errIf]
      rw [this, cond_false, ih']
      simp only [List.all_cons, hw, Bool.true_and, List.findIdx_cons, Bool.not_true, cond_false, List.length_append, List.length_singleton]
      rw [show pre.length + 1 + suf.findIdx (fun w => !windowB w) = pre.length + (suf.findIdx (fun w => !windowB w) + 1) by omega]

theorem main_wins (l0 : List (Int)) (l1 : List (Window)) (v2_0 v2_1 v2_2 v2_4 v2_5 v2_6 v2_7 v2_8 v2_9 v2_10 v2_11 v2_12 v2_13 v2_14 v2_15 v2_16 v2_17 v2_18 v2_19 v2_20 v2_21 v2_22 v2_23 v2_24 v2_25 v2_26 v2_27 v2_28 v2_29 v2_30 v2_31 v2_32 v2_33 v2_34 : Int) (v2_35 : Bool) (v4 v7 v8 : Int) (hg : (decide (l1.length ≤ 1048576) && (v7 == (l1.length : Int) && v8 == 0)) = true) : ∃ N d, I_wins N d N (S_wins l0 l1 v2_0 v2_1 v2_2 v2_4 v2_5 v2_6 v2_7 v2_8 v2_9 v2_10 v2_11 v2_12 v2_13 v2_14 v2_15 v2_16 v2_17 v2_18 v2_19 v2_20 v2_21 v2_22 v2_23 v2_24 v2_25 v2_26 v2_27 v2_28 v2_29 v2_30 v2_31 v2_32 v2_33 v2_34 v2_35 v4 v7 v8) = some (altK Prod.mk [(l1.all windowB, .exit 0, (X_wins_1 l0 l1 v2_0 v2_1 v2_2 v2_4 v2_5 v2_6 v2_7 v2_8 v2_9 v2_10 v2_11 v2_12 v2_13 v2_14 v2_15 v2_16 v2_17 v2_18 v2_19 v2_20 v2_21 v2_22 v2_23 v2_24 v2_25 v2_26 v2_27 v2_28 v2_29 v2_30 v2_31 v2_32 v2_33 v2_34 v2_35 v4))] (.ret) (X_wins_0 l0 l1 v2_0 v2_1 v2_2 v2_4 v2_5 v2_6 v2_7 v2_8 v2_9 v2_10 v2_11 v2_12 v2_13 v2_14 v2_15 v2_16 v2_17 v2_18 v2_19 v2_20 v2_21 v2_22 v2_23 v2_24 v2_25 v2_26 v2_27 v2_28 v2_29 v2_30 v2_31 v2_32 v2_33 v2_34 v2_35 (firstBad l1))) := by
  simp only [Bool.and_eq_true, decide_eq_true_eq, beq_iff_eq] at hg
  obtain ⟨h1, rfl, rfl⟩ := hg
  have := go_wins l0 l1 v2_0 v2_1 v2_2 v2_4 v2_5 v2_6 v2_7 v2_8 v2_9 v2_10 v2_11 v2_12 v2_13 v2_14 v2_15 v2_16 v2_17 v2_18 v2_19 v2_20 v2_21 v2_22 v2_23 v2_24 v2_25 v2_26 v2_27 v2_28 v2_29 v2_30 v2_31 v2_32 v2_33 v2_34 v2_35 v4 0 0 (l1.length + 3) 0 l1 [] (l1.length + 3) (by omega) (by simpa using h1)
  refine ⟨l1.length + 3, 3, ?_⟩
  simp only [List.nil_append, List.length_nil, Nat.zero_add] at this
  rw [show ((0 : Nat) : Int) = 0 from rfl] at this
  rw [this]
  cases h : l1.all windowB <;> simp [altK, h, firstBad]

theorem go_rwins (l0 : List (Int)) (l1 : List (Window)) (v2_0 v2_1 v2_2 v2_4 v2_5 v2_6 v2_7 v2_8 v2_9 v2_10 v2_11 v2_12 v2_13 v2_14 v2_15 v2_16 v2_17 v2_18 v2_19 v2_20 v2_21 v2_22 v2_23 v2_24 v2_25 v2_26 v2_27 v2_28 v2_29 v2_30 v2_31 v2_32 v2_33 v2_34 : Int) (v2_35 : Bool) (v2 v7 : Int) (F d : Nat) : ∀ (suf pre : List Window) (n : Nat), suf.length < n → (pre ++ suf).length ≤ 1048576 →
    I_rwins F (d + 3) n (S_rwins l0 (pre ++ suf) v2_0 v2_1 v2_2 v2_4 v2_5 v2_6 v2_7 v2_8 v2_9 v2_10 v2_11 v2_12 v2_13 v2_14 v2_15 v2_16 v2_17 v2_18 v2_19 v2_20 v2_21 v2_22 v2_23 v2_24 v2_25 v2_26 v2_27 v2_28 v2_29 v2_30 v2_31 v2_32 v2_33 v2_34 v2_35 v2 ((pre.length : Nat) : Int)) = cond (suf.all windowB) (some (.exit 0, (X_rwins_1 l0 (pre ++ suf) v2_0 v2_1 v2_2 v2_4 v2_5 v2_6 v2_7 v2_8 v2_9 v2_10 v2_11 v2_12 v2_13 v2_14 v2_15 v2_16 v2_17 v2_18 v2_19 v2_20 v2_21 v2_22 v2_23 v2_24 v2_25 v2_26 v2_27 v2_28 v2_29 v2_30 v2_31 v2_32 v2_33 v2_34 v2_35 v2))) (some (.ret, (X_rwins_0 l0 (pre ++ suf) v2_0 v2_1 v2_2 v2_4 v2_5 v2_6 v2_7 v2_8 v2_9 v2_10 v2_11 v2_12 v2_13 v2_14 v2_15 v2_16 v2_17 v2_18 v2_19 v2_20 v2_21 v2_22 v2_23 v2_24 v2_25 v2_26 v2_27 v2_28 v2_29 v2_30 v2_31 v2_32 v2_33 v2_34 v2_35))) := by
  intro suf
  induction suf with
  | nil =>
    intro pre n hn hl
    obtain ⟨n, rfl⟩ : ∃ k, n = k + 1 := ⟨n - 1, by omega⟩
    rw [step_rwins, idx_end, cond_false]
    rfl
  | cons x suf ih =>
    intro pre n hn hl
    obtain ⟨n, rfl⟩ : ∃ k, n = k + 1 := ⟨n - 1, by omega⟩
    have ih' := ih (pre ++ [x]) n (by simp at hn; omega) (by simpa using hl)
    rw [step_rwins]
    simp only [idx_lt, idx_ge, Bool.and_self, cond_true, idx_nat, idx_at, idx_next hl]
    rw [← idx_step] at ih'
    cases hw : windowB x
    · simp [hw]
    · simp only [Bool.not_true, cond_false]
      rw [ih']
      simp only [List.all_cons, hw, Bool.true_and]

theorem main_rwins (l0 : List (Int)) (l1 : List (Window)) (v2_0 v2_1 v2_2 v2_4 v2_5 v2_6 v2_7 v2_8 v2_9 v2_10 v2_11 v2_12 v2_13 v2_14 v2_15 v2_16 v2_17 v2_18 v2_19 v2_20 v2_21 v2_22 v2_23 v2_24 v2_25 v2_26 v2_27 v2_28 v2_29 v2_30 v2_31 v2_32 v2_33 v2_34 : Int) (v2_35 : Bool) (v2 v7 : Int) (hg : (decide (l1.length ≤ 1048576) && v7 == 0) = true) : ∃ N d, I_rwins N d N (S_rwins l0 l1 v2_0 v2_1 v2_2 v2_4 v2_5 v2_6 v2_7 v2_8 v2_9 v2_10 v2_11 v2_12 v2_13 v2_14 v2_15 v2_16 v2_17 v2_18 v2_19 v2_20 v2_21 v2_22 v2_23 v2_24 v2_25 v2_26 v2_27 v2_28 v2_29 v2_30 v2_31 v2_32 v2_33 v2_34 v2_35 v2 v7) = some (altK Prod.mk [(l1.all windowB, .exit 0, (X_rwins_1 l0 l1 v2_0 v2_1 v2_2 v2_4 v2_5 v2_6 v2_7 v2_8 v2_9 v2_10 v2_11 v2_12 v2_13 v2_14 v2_15 v2_16 v2_17 v2_18 v2_19 v2_20 v2_21 v2_22 v2_23 v2_24 v2_25 v2_26 v2_27 v2_28 v2_29 v2_30 v2_31 v2_32 v2_33 v2_34 v2_35 v2))] (.ret) (X_rwins_0 l0 l1 v2_0 v2_1 v2_2 v2_4 v2_5 v2_6 v2_7 v2_8 v2_9 v2_10 v2_11 v2_12 v2_13 v2_14 v2_15 v2_16 v2_17 v2_18 v2_19 v2_20 v2_21 v2_22 v2_23 v2_24 v2_25 v2_26 v2_27 v2_28 v2_29 v2_30 v2_31 v2_32 v2_33 v2_34 v2_35)) := by
  simp only [Bool.and_eq_true, decide_eq_true_eq, beq_iff_eq] at hg
  obtain ⟨h1, rfl⟩ := hg
  have := go_rwins l0 l1 v2_0 v2_1 v2_2 v2_4 v2_5 v2_6 v2_7 v2_8 v2_9 v2_10 v2_11 v2_12 v2_13 v2_14 v2_15 v2_16 v2_17 v2_18 v2_19 v2_20 v2_21 v2_22 v2_23 v2_24 v2_25 v2_26 v2_27 v2_28 v2_29 v2_30 v2_31 v2_32 v2_33 v2_34 v2_35 v2 0 (l1.length + 3) 0 l1 [] (l1.length + 3) (by omega) (by simpa using h1)
  refine ⟨l1.length + 3, 3, ?_⟩
  simp only [List.nil_append, List.length_nil] at this
  rw [show ((0 : Nat) : Int) = 0 from rfl] at this
  rw [this]
  cases h : l1.all windowB <;> simp [altK, h]

theorem go_eqI (l0 l1 : List (Int)) (v4 : Bool) (v12 v13 : Int) (F d : Nat) : ∀ (suf sug pre : List Int) (n : Nat), suf.length < n → (pre ++ suf).length ≤ 1048576 → suf.length = sug.length →
    I_eqI F (d + 3) n (S_eqI (pre ++ suf) (pre ++ sug) v4 (((pre ++ suf).length : Nat) : Int) ((pre.length : Nat) : Int)) = cond (eqInts suf sug) (some (.exit 0, (X_eqI_1 (pre ++ suf) (pre ++ sug) v4))) (some (.ret, (X_eqI_0 (pre ++ suf) (pre ++ sug)))) := by
  intro suf
  induction suf with
  | nil =>
    intro sug pre n hn hl he
    obtain ⟨n, rfl⟩ : ∃ k, n = k + 1 := ⟨n - 1, by omega⟩
    have : sug = [] := List.length_eq_zero_iff.1 he.symm
    subst this
    rw [step_eqI, idx_end, cond_false]
    rfl
  | cons x suf ih =>
    intro sug pre n hn hl he
    obtain ⟨n, rfl⟩ : ∃ k, n = k + 1 := ⟨n - 1, by omega⟩
    obtain ⟨y, sug, rfl⟩ : ∃ y s, sug = y :: s := by
      cases sug with
      | nil => simp at he
      | cons y s => exact ⟨y, s, rfl⟩
    have ih' := ih sug (pre ++ [x]) n (by simp at hn; omega) (by simpa using hl) (by simpa using he)
    rw [step_eqI]
    simp only [idx_lt, idx_ge, Bool.and_self, cond_true, idx_nat, idx_at, idx_next hl]
    rw [← idx_step, ← idx_step] at ih'
    by_cases hxy : x = y
    · subst hxy
      have hne : (x != x) = false := by simp
      rw [hne, cond_false, ih']
      simp [eqInts]
    · have hne : (x != y) = true := by
        simpa using hxy
      rw [hne, cond_true]
      simp [eqInts, hxy]

theorem main_eqI (l0 l1 : List (Int)) (v4 : Bool) (v12 v13 : Int) (hg : (decide (l0.length ≤ 1048576) && (l0.length == l1.length && (v12 == (l0.length : Int) && v13 == 0))) = true) : ∃ N d, I_eqI N d N (S_eqI l0 l1 v4 v12 v13) = some (altK Prod.mk [(eqInts l0 l1, .exit 0, (X_eqI_1 l0 l1 v4))] (.ret) (X_eqI_0 l0 l1)) := by
  simp only [Bool.and_eq_true, decide_eq_true_eq, beq_iff_eq] at hg
  obtain ⟨h1, h2, rfl, rfl⟩ := hg
  have := go_eqI l0 l1 v4 0 0 (l0.length + 3) 0 l0 l1 [] (l0.length + 3) (by omega) (by simpa using h1) h2
  refine ⟨l0.length + 3, 3, ?_⟩
  simp only [List.nil_append, List.length_nil] at this
  rw [show ((0 : Nat) : Int) = 0 from rfl] at this
  rw [this]
  cases h : eqInts l0 l1 <;> simp [altK, h]

theorem go_eqW (l0 l1 : List (Window)) (v4 : Bool) (v12 v13 : Int) (F d : Nat) : ∀ (suf sug pre : List Window) (n : Nat), suf.length < n → (pre ++ suf).length ≤ 1048576 → suf.length = sug.length →
    I_eqW F (d + 3) n (S_eqW (pre ++ suf) (pre ++ sug) v4 (((pre ++ suf).length : Nat) : Int) ((pre.length : Nat) : Int)) = cond (eqWins suf sug) (some (.exit 0, (X_eqW_1 (pre ++ suf) (pre ++ sug) v4))) (some (.ret, (X_eqW_0 (pre ++ suf) (pre ++ sug)))) := by
  intro suf
  induction suf with
  | nil =>
    intro sug pre n hn hl he
    obtain ⟨n, rfl⟩ : ∃ k, n = k + 1 := ⟨n - 1, by omega⟩
    have : sug = [] := List.length_eq_zero_iff.1 he.symm
    subst this
    rw [step_eqW, idx_end, cond_false]
    rfl
  | cons x suf ih =>
    intro sug pre n hn hl he
    obtain ⟨n, rfl⟩ : ∃ k, n = k + 1 := ⟨n - 1, by omega⟩
    obtain ⟨y, sug, rfl⟩ : ∃ y s, sug = y :: s := by
      cases sug with
      | nil => simp at he
      | cons y s => exact ⟨y, s, rfl⟩
    have ih' := ih sug (pre ++ [x]) n (by simp at hn; omega) (by simpa using hl) (by simpa using he)
    rw [step_eqW]
    simp only [idx_lt, idx_ge, Bool.and_self, cond_true, idx_nat, idx_at, idx_next hl]
    rw [← idx_step, ← idx_step] at ih'
    by_cases hxy : x = y
    · subst hxy
      have hne : (!(Window.kind x == Window.kind x && (Window.mode x == Window.mode x && (Window.prio x == Window.prio x && (Window.arg x == Window.arg x && (Window.shift x == Window.shift x && (Window.minute x == Window.minute x && (Window.len x == Window.len x && true)))))))) = false := by simp
      rw [hne, cond_false, ih']
      simp [eqWins]
    · have hne : (!(Window.kind x == Window.kind y && (Window.mode x == Window.mode y && (Window.prio x == Window.prio y && (Window.arg x == Window.arg y && (Window.shift x == Window.shift y && (Window.minute x == Window.minute y && (Window.len x == Window.len y && true)))))))) = true := by
        rw [win_eq]; simpa using hxy
      rw [hne, cond_true]
      simp [eqWins, hxy]

theorem main_eqW (l0 l1 : List (Window)) (v4 : Bool) (v12 v13 : Int) (hg : (decide (l0.length ≤ 1048576) && (l0.length == l1.length && (v12 == (l0.length : Int) && v13 == 0))) = true) : ∃ N d, I_eqW N d N (S_eqW l0 l1 v4 v12 v13) = some (altK Prod.mk [(eqWins l0 l1, .exit 0, (X_eqW_1 l0 l1 v4))] (.ret) (X_eqW_0 l0 l1)) := by
  simp only [Bool.and_eq_true, decide_eq_true_eq, beq_iff_eq] at hg
  obtain ⟨h1, h2, rfl, rfl⟩ := hg
  have := go_eqW l0 l1 v4 0 0 (l0.length + 3) 0 l0 l1 [] (l0.length + 3) (by omega) (by simpa using h1) h2
  refine ⟨l0.length + 3, 3, ?_⟩
  simp only [List.nil_append, List.length_nil] at this
  rw [show ((0 : Nat) : Int) = 0 from rfl] at this
  rw [this]
  cases h : eqWins l0 l1 <;> simp [altK, h]

theorem go_rs1 (l0 : List (Int)) (l1 : List (Window)) (l2 : List (Int)) (l3 : List (Window)) (v4_0 v4_1 v4_2 v4_4 v4_5 v4_6 v4_7 v4_8 v4_9 v4_10 v4_11 v4_12 v4_13 v4_14 v4_15 v4_16 v4_17 v4_18 v4_19 v4_20 v4_21 v4_22 v4_23 v4_24 v4_25 v4_26 v4_27 v4_28 v4_29 v4_30 v4_31 v4_32 v4_33 v4_34 : Int) (v4_35 : Bool) (v5_0 v5_1 v5_2 v5_4 v5_5 v5_6 v5_7 v5_8 v5_9 v5_10 v5_11 v5_12 v5_13 v5_14 v5_15 v5_16 v5_17 v5_18 v5_19 v5_20 v5_21 v5_22 v5_23 v5_24 v5_25 v5_26 v5_27 v5_28 v5_29 v5_30 v5_31 v5_32 v5_33 v5_34 : Int) (v5_35 v4 : Bool) (v5 : Int) (F d : Nat) : ∀ (suf sug pre : List Int) (n : Nat), suf.length < n → (pre ++ suf).length ≤ 1048576 → suf.length = sug.length →
    I_rs1 F (d + 3) n (S_rs1 (pre ++ suf) l1 (pre ++ sug) l3 v4_0 v4_1 v4_2 v4_4 v4_5 v4_6 v4_7 v4_8 v4_9 v4_10 v4_11 v4_12 v4_13 v4_14 v4_15 v4_16 v4_17 v4_18 v4_19 v4_20 v4_21 v4_22 v4_23 v4_24 v4_25 v4_26 v4_27 v4_28 v4_29 v4_30 v4_31 v4_32 v4_33 v4_34 v4_35 v5_0 v5_1 v5_2 v5_4 v5_5 v5_6 v5_7 v5_8 v5_9 v5_10 v5_11 v5_12 v5_13 v5_14 v5_15 v5_16 v5_17 v5_18 v5_19 v5_20 v5_21 v5_22 v5_23 v5_24 v5_25 v5_26 v5_27 v5_28 v5_29 v5_30 v5_31 v5_32 v5_33 v5_34 v5_35 v4 ((pre.length : Nat) : Int)) = cond (eqInts suf sug) (some (.exit 0, (X_rs1_1 (pre ++ suf) l1 (pre ++ sug) l3 v4_0 v4_1 v4_2 v4_4 v4_5 v4_6 v4_7 v4_8 v4_9 v4_10 v4_11 v4_12 v4_13 v4_14 v4_15 v4_16 v4_17 v4_18 v4_19 v4_20 v4_21 v4_22 v4_23 v4_24 v4_25 v4_26 v4_27 v4_28 v4_29 v4_30 v4_31 v4_32 v4_33 v4_34 v4_35 v5_0 v5_1 v5_2 v5_4 v5_5 v5_6 v5_7 v5_8 v5_9 v5_10 v5_11 v5_12 v5_13 v5_14 v5_15 v5_16 v5_17 v5_18 v5_19 v5_20 v5_21 v5_22 v5_23 v5_24 v5_25 v5_26 v5_27 v5_28 v5_29 v5_30 v5_31 v5_32 v5_33 v5_34 v5_35 v4))) (some (.ret, (X_rs1_0 (pre ++ suf) l1 (pre ++ sug) l3 v4_0 v4_1 v4_2 v4_4 v4_5 v4_6 v4_7 v4_8 v4_9 v4_10 v4_11 v4_12 v4_13 v4_14 v4_15 v4_16 v4_17 v4_18 v4_19 v4_20 v4_21 v4_22 v4_23 v4_24 v4_25 v4_26 v4_27 v4_28 v4_29 v4_30 v4_31 v4_32 v4_33 v4_34 v4_35 v5_0 v5_1 v5_2 v5_4 v5_5 v5_6 v5_7 v5_8 v5_9 v5_10 v5_11 v5_12 v5_13 v5_14 v5_15 v5_16 v5_17 v5_18 v5_19 v5_20 v5_21 v5_22 v5_23 v5_24 v5_25 v5_26 v5_27 v5_28 v5_29 v5_30 v5_31 v5_32 v5_33 v5_34 v5_35))) := by
  intro suf
  induction suf with
  | nil =>
    intro sug pre n hn hl he
    obtain ⟨n, rfl⟩ : ∃ k, n = k + 1 := ⟨n - 1, by omega⟩
    have : sug = [] := List.length_eq_zero_iff.1 he.symm
    subst this
    rw [step_rs1, idx_end, cond_false]
    rfl
  | cons x suf ih =>
    intro sug pre n hn hl he
    obtain ⟨n, rfl⟩ : ∃ k, n = k + 1 := ⟨n - 1, by omega⟩
    obtain ⟨y, sug, rfl⟩ : ∃ y s, sug = y :: s := by
      cases sug with
      | nil => simp at he
      | cons y s => exact ⟨y, s, rfl⟩
    have ih' := ih sug (pre ++ [x]) n (by simp at hn; omega) (by simpa using hl) (by simpa using he)
    rw [step_rs1]
    simp only [idx_lt, idx_ge, Bool.and_self, cond_true, idx_nat, idx_at, idx_next hl]
    rw [← idx_step, ← idx_step] at ih'
    by_cases hxy : x = y
    · subst hxy
      have hne : (x != x) = false := by simp
      rw [hne, cond_false, ih']
      simp [eqInts]
    · have hne : (x != y) = true := by
        simpa using hxy
      rw [hne, cond_true]
      simp [eqInts, hxy]

theorem main_rs1 (l0 : List (Int)) (l1 : List (Window)) (l2 : List (Int)) (l3 : List (Window)) (v4_0 v4_1 v4_2 v4_4 v4_5 v4_6 v4_7 v4_8 v4_9 v4_10 v4_11 v4_12 v4_13 v4_14 v4_15 v4_16 v4_17 v4_18 v4_19 v4_20 v4_21 v4_22 v4_23 v4_24 v4_25 v4_26 v4_27 v4_28 v4_29 v4_30 v4_31 v4_32 v4_33 v4_34 : Int) (v4_35 : Bool) (v5_0 v5_1 v5_2 v5_4 v5_5 v5_6 v5_7 v5_8 v5_9 v5_10 v5_11 v5_12 v5_13 v5_14 v5_15 v5_16 v5_17 v5_18 v5_19 v5_20 v5_21 v5_22 v5_23 v5_24 v5_25 v5_26 v5_27 v5_28 v5_29 v5_30 v5_31 v5_32 v5_33 v5_34 : Int) (v5_35 v4 : Bool) (v5 : Int) (hg : (decide (l0.length ≤ 1048576) && (l0.length == l2.length && v5 == 0)) = true) : ∃ N d, I_rs1 N d N (S_rs1 l0 l1 l2 l3 v4_0 v4_1 v4_2 v4_4 v4_5 v4_6 v4_7 v4_8 v4_9 v4_10 v4_11 v4_12 v4_13 v4_14 v4_15 v4_16 v4_17 v4_18 v4_19 v4_20 v4_21 v4_22 v4_23 v4_24 v4_25 v4_26 v4_27 v4_28 v4_29 v4_30 v4_31 v4_32 v4_33 v4_34 v4_35 v5_0 v5_1 v5_2 v5_4 v5_5 v5_6 v5_7 v5_8 v5_9 v5_10 v5_11 v5_12 v5_13 v5_14 v5_15 v5_16 v5_17 v5_18 v5_19 v5_20 v5_21 v5_22 v5_23 v5_24 v5_25 v5_26 v5_27 v5_28 v5_29 v5_30 v5_31 v5_32 v5_33 v5_34 v5_35 v4 v5) = some (altK Prod.mk [(eqInts l0 l2, .exit 0, (X_rs1_1 l0 l1 l2 l3 v4_0 v4_1 v4_2 v4_4 v4_5 v4_6 v4_7 v4_8 v4_9 v4_10 v4_11 v4_12 v4_13 v4_14 v4_15 v4_16 v4_17 v4_18 v4_19 v4_20 v4_21 v4_22 v4_23 v4_24 v4_25 v4_26 v4_27 v4_28 v4_29 v4_30 v4_31 v4_32 v4_33 v4_34 v4_35 v5_0 v5_1 v5_2 v5_4 v5_5 v5_6 v5_7 v5_8 v5_9 v5_10 v5_11 v5_12 v5_13 v5_14 v5_15 v5_16 v5_17 v5_18 v5_19 v5_20 v5_21 v5_22 v5_23 v5_24 v5_25 v5_26 v5_27 v5_28 v5_29 v5_30 v5_31 v5_32 v5_33 v5_34 v5_35 v4))] (.ret) (X_rs1_0 l0 l1 l2 l3 v4_0 v4_1 v4_2 v4_4 v4_5 v4_6 v4_7 v4_8 v4_9 v4_10 v4_11 v4_12 v4_13 v4_14 v4_15 v4_16 v4_17 v4_18 v4_19 v4_20 v4_21 v4_22 v4_23 v4_24 v4_25 v4_26 v4_27 v4_28 v4_29 v4_30 v4_31 v4_32 v4_33 v4_34 v4_35 v5_0 v5_1 v5_2 v5_4 v5_5 v5_6 v5_7 v5_8 v5_9 v5_10 v5_11 v5_12 v5_13 v5_14 v5_15 v5_16 v5_17 v5_18 v5_19 v5_20 v5_21 v5_22 v5_23 v5_24 v5_25 v5_26 v5_27 v5_28 v5_29 v5_30 v5_31 v5_32 v5_33 v5_34 v5_35)) := by
  simp only [Bool.and_eq_true, decide_eq_true_eq, beq_iff_eq] at hg
  obtain ⟨h1, h2, rfl⟩ := hg
  have := go_rs1 l0 l1 l2 l3 v4_0 v4_1 v4_2 v4_4 v4_5 v4_6 v4_7 v4_8 v4_9 v4_10 v4_11 v4_12 v4_13 v4_14 v4_15 v4_16 v4_17 v4_18 v4_19 v4_20 v4_21 v4_22 v4_23 v4_24 v4_25 v4_26 v4_27 v4_28 v4_29 v4_30 v4_31 v4_32 v4_33 v4_34 v4_35 v5_0 v5_1 v5_2 v5_4 v5_5 v5_6 v5_7 v5_8 v5_9 v5_10 v5_11 v5_12 v5_13 v5_14 v5_15 v5_16 v5_17 v5_18 v5_19 v5_20 v5_21 v5_22 v5_23 v5_24 v5_25 v5_26 v5_27 v5_28 v5_29 v5_30 v5_31 v5_32 v5_33 v5_34 v5_35 v4 0 (l0.length + 3) 0 l0 l2 [] (l0.length + 3) (by omega) (by simpa using h1) h2
  refine ⟨l0.length + 3, 3, ?_⟩
  simp only [List.nil_append, List.length_nil] at this
  rw [show ((0 : Nat) : Int) = 0 from rfl] at this
  rw [this]
  cases h : eqInts l0 l2 <;> simp [altK, h]

theorem go_rs2 (l0 : List (Int)) (l1 : List (Window)) (l2 : List (Int)) (l3 : List (Window)) (v4_0 v4_1 v4_2 v4_4 v4_5 v4_6 v4_7 v4_8 v4_9 v4_10 v4_11 v4_12 v4_13 v4_14 v4_15 v4_16 v4_17 v4_18 v4_19 v4_20 v4_21 v4_22 v4_23 v4_24 v4_25 v4_26 v4_27 v4_28 v4_29 v4_30 v4_31 v4_32 v4_33 v4_34 : Int) (v4_35 : Bool) (v5_0 v5_1 v5_2 v5_4 v5_5 v5_6 v5_7 v5_8 v5_9 v5_10 v5_11 v5_12 v5_13 v5_14 v5_15 v5_16 v5_17 v5_18 v5_19 v5_20 v5_21 v5_22 v5_23 v5_24 v5_25 v5_26 v5_27 v5_28 v5_29 v5_30 v5_31 v5_32 v5_33 v5_34 : Int) (v5_35 v4 : Bool) (v6 : Int) (F d : Nat) : ∀ (suf sug pre : List Window) (n : Nat), suf.length < n → (pre ++ suf).length ≤ 1048576 → suf.length = sug.length →
    I_rs2 F (d + 3) n (S_rs2 l0 (pre ++ suf) l2 (pre ++ sug) v4_0 v4_1 v4_2 v4_4 v4_5 v4_6 v4_7 v4_8 v4_9 v4_10 v4_11 v4_12 v4_13 v4_14 v4_15 v4_16 v4_17 v4_18 v4_19 v4_20 v4_21 v4_22 v4_23 v4_24 v4_25 v4_26 v4_27 v4_28 v4_29 v4_30 v4_31 v4_32 v4_33 v4_34 v4_35 v5_0 v5_1 v5_2 v5_4 v5_5 v5_6 v5_7 v5_8 v5_9 v5_10 v5_11 v5_12 v5_13 v5_14 v5_15 v5_16 v5_17 v5_18 v5_19 v5_20 v5_21 v5_22 v5_23 v5_24 v5_25 v5_26 v5_27 v5_28 v5_29 v5_30 v5_31 v5_32 v5_33 v5_34 v5_35 v4 ((pre.length : Nat) : Int)) = cond (eqWins suf sug) (some (.exit 2, (X_rs2_1 l0 (pre ++ suf) l2 (pre ++ sug) v4_0 v4_1 v4_2 v4_4 v4_5 v4_6 v4_7 v4_8 v4_9 v4_10 v4_11 v4_12 v4_13 v4_14 v4_15 v4_16 v4_17 v4_18 v4_19 v4_20 v4_21 v4_22 v4_23 v4_24 v4_25 v4_26 v4_27 v4_28 v4_29 v4_30 v4_31 v4_32 v4_33 v4_34 v4_35 v5_0 v5_1 v5_2 v5_4 v5_5 v5_6 v5_7 v5_8 v5_9 v5_10 v5_11 v5_12 v5_13 v5_14 v5_15 v5_16 v5_17 v5_18 v5_19 v5_20 v5_21 v5_22 v5_23 v5_24 v5_25 v5_26 v5_27 v5_28 v5_29 v5_30 v5_31 v5_32 v5_33 v5_34 v5_35 v4))) (some (.ret, (X_rs2_0 l0 (pre ++ suf) l2 (pre ++ sug) v4_0 v4_1 v4_2 v4_4 v4_5 v4_6 v4_7 v4_8 v4_9 v4_10 v4_11 v4_12 v4_13 v4_14 v4_15 v4_16 v4_17 v4_18 v4_19 v4_20 v4_21 v4_22 v4_23 v4_24 v4_25 v4_26 v4_27 v4_28 v4_29 v4_30 v4_31 v4_32 v4_33 v4_34 v4_35 v5_0 v5_1 v5_2 v5_4 v5_5 v5_6 v5_7 v5_8 v5_9 v5_10 v5_11 v5_12 v5_13 v5_14 v5_15 v5_16 v5_17 v5_18 v5_19 v5_20 v5_21 v5_22 v5_23 v5_24 v5_25 v5_26 v5_27 v5_28 v5_29 v5_30 v5_31 v5_32 v5_33 v5_34 v5_35))) := by
  intro suf
  induction suf with
  | nil =>
    intro sug pre n hn hl he
    obtain ⟨n, rfl⟩ : ∃ k, n = k + 1 := ⟨n - 1, by omega⟩
    have : sug = [] := List.length_eq_zero_iff.1 he.symm
    subst this
    rw [step_rs2, idx_end, cond_false]
    rfl
  | cons x suf ih =>
    intro sug pre n hn hl he
    obtain ⟨n, rfl⟩ : ∃ k, n = k + 1 := ⟨n - 1, by omega⟩
    obtain ⟨y, sug, rfl⟩ : ∃ y s, sug = y :: s := by
      cases sug with
      | nil => simp at he
      | cons y s => exact ⟨y, s, rfl⟩
    have ih' := ih sug (pre ++ [x]) n (by simp at hn; omega) (by simpa using hl) (by simpa using he)
    rw [step_rs2]
    simp only [idx_lt, idx_ge, Bool.and_self, cond_true, idx_nat, idx_at, idx_next hl]
    rw [← idx_step, ← idx_step] at ih'
    by_cases hxy : x = y
    · subst hxy
      have hne : (!(Window.kind x == Window.kind x && (Window.mode x == Window.mode x && (Window.prio x == Window.prio x && (Window.arg x == Window.arg x && (Window.shift x == Window.shift x && (Window.minute x == Window.minute x && (Window.len x == Window.len x && true)))))))) = false := by simp
      rw [hne, cond_false, ih']
      simp [eqWins]
    · have hne : (!(Window.kind x == Window.kind y && (Window.mode x == Window.mode y && (Window.prio x == Window.prio y && (Window.arg x == Window.arg y && (Window.shift x == Window.shift y && (Window.minute x == Window.minute y && (Window.len x == Window.len y && true)))))))) = true := by
        rw [win_eq]; simpa using hxy
      rw [hne, cond_true]
      simp [eqWins, hxy]

theorem main_rs2 (l0 : List (Int)) (l1 : List (Window)) (l2 : List (Int)) (l3 : List (Window)) (v4_0 v4_1 v4_2 v4_4 v4_5 v4_6 v4_7 v4_8 v4_9 v4_10 v4_11 v4_12 v4_13 v4_14 v4_15 v4_16 v4_17 v4_18 v4_19 v4_20 v4_21 v4_22 v4_23 v4_24 v4_25 v4_26 v4_27 v4_28 v4_29 v4_30 v4_31 v4_32 v4_33 v4_34 : Int) (v4_35 : Bool) (v5_0 v5_1 v5_2 v5_4 v5_5 v5_6 v5_7 v5_8 v5_9 v5_10 v5_11 v5_12 v5_13 v5_14 v5_15 v5_16 v5_17 v5_18 v5_19 v5_20 v5_21 v5_22 v5_23 v5_24 v5_25 v5_26 v5_27 v5_28 v5_29 v5_30 v5_31 v5_32 v5_33 v5_34 : Int) (v5_35 v4 : Bool) (v6 : Int) (hg : (decide (l1.length ≤ 1048576) && (l1.length == l3.length && v6 == 0)) = true) : ∃ N d, I_rs2 N d N (S_rs2 l0 l1 l2 l3 v4_0 v4_1 v4_2 v4_4 v4_5 v4_6 v4_7 v4_8 v4_9 v4_10 v4_11 v4_12 v4_13 v4_14 v4_15 v4_16 v4_17 v4_18 v4_19 v4_20 v4_21 v4_22 v4_23 v4_24 v4_25 v4_26 v4_27 v4_28 v4_29 v4_30 v4_31 v4_32 v4_33 v4_34 v4_35 v5_0 v5_1 v5_2 v5_4 v5_5 v5_6 v5_7 v5_8 v5_9 v5_10 v5_11 v5_12 v5_13 v5_14 v5_15 v5_16 v5_17 v5_18 v5_19 v5_20 v5_21 v5_22 v5_23 v5_24 v5_25 v5_26 v5_27 v5_28 v5_29 v5_30 v5_31 v5_32 v5_33 v5_34 v5_35 v4 v6) = some (altK Prod.mk [(eqWins l1 l3, .exit 2, (X_rs2_1 l0 l1 l2 l3 v4_0 v4_1 v4_2 v4_4 v4_5 v4_6 v4_7 v4_8 v4_9 v4_10 v4_11 v4_12 v4_13 v4_14 v4_15 v4_16 v4_17 v4_18 v4_19 v4_20 v4_21 v4_22 v4_23 v4_24 v4_25 v4_26 v4_27 v4_28 v4_29 v4_30 v4_31 v4_32 v4_33 v4_34 v4_35 v5_0 v5_1 v5_2 v5_4 v5_5 v5_6 v5_7 v5_8 v5_9 v5_10 v5_11 v5_12 v5_13 v5_14 v5_15 v5_16 v5_17 v5_18 v5_19 v5_20 v5_21 v5_22 v5_23 v5_24 v5_25 v5_26 v5_27 v5_28 v5_29 v5_30 v5_31 v5_32 v5_33 v5_34 v5_35 v4))] (.ret) (X_rs2_0 l0 l1 l2 l3 v4_0 v4_1 v4_2 v4_4 v4_5 v4_6 v4_7 v4_8 v4_9 v4_10 v4_11 v4_12 v4_13 v4_14 v4_15 v4_16 v4_17 v4_18 v4_19 v4_20 v4_21 v4_22 v4_23 v4_24 v4_25 v4_26 v4_27 v4_28 v4_29 v4_30 v4_31 v4_32 v4_33 v4_34 v4_35 v5_0 v5_1 v5_2 v5_4 v5_5 v5_6 v5_7 v5_8 v5_9 v5_10 v5_11 v5_12 v5_13 v5_14 v5_15 v5_16 v5_17 v5_18 v5_19 v5_20 v5_21 v5_22 v5_23 v5_24 v5_25 v5_26 v5_27 v5_28 v5_29 v5_30 v5_31 v5_32 v5_33 v5_34 v5_35)) := by
  simp only [Bool.and_eq_true, decide_eq_true_eq, beq_iff_eq] at hg
  obtain ⟨h1, h2, rfl⟩ := hg
  have := go_rs2 l0 l1 l2 l3 v4_0 v4_1 v4_2 v4_4 v4_5 v4_6 v4_7 v4_8 v4_9 v4_10 v4_11 v4_12 v4_13 v4_14 v4_15 v4_16 v4_17 v4_18 v4_19 v4_20 v4_21 v4_22 v4_23 v4_24 v4_25 v4_26 v4_27 v4_28 v4_29 v4_30 v4_31 v4_32 v4_33 v4_34 v4_35 v5_0 v5_1 v5_2 v5_4 v5_5 v5_6 v5_7 v5_8 v5_9 v5_10 v5_11 v5_12 v5_13 v5_14 v5_15 v5_16 v5_17 v5_18 v5_19 v5_20 v5_21 v5_22 v5_23 v5_24 v5_25 v5_26 v5_27 v5_28 v5_29 v5_30 v5_31 v5_32 v5_33 v5_34 v5_35 v4 0 (l1.length + 3) 0 l1 l3 [] (l1.length + 3) (by omega) (by simpa using h1) h2
  refine ⟨l1.length + 3, 3, ?_⟩
  simp only [List.nil_append, List.length_nil] at this
  rw [show ((0 : Nat) : Int) = 0 from rfl] at this
  rw [this]
  cases h : eqWins l1 l3 <;> simp [altK, h]
theorem run_newelref10_timed (a0 : Window) : ∃ F d, run k23 F d 33 Try.f33 s_newelref10_timed (a0, ()) = some (r_newelref10_timed.enc (timedB a0)) := by
  refine ⟨200, 6, ?_⟩
  rw [tree_newelref10_timed]
  simp only [r_newelref10_timed, Res.bool]
  refine congrArg (fun b => some (AV.bool b)) ?_
  rw [Bool.eq_iff_iff]
  simp [timedB, inB]
  try omega
theorem run_newelref10_tick (a0 : Int) : ∃ F d, run k24 F d 43 Try.f43 s_newelref10_tick (a0, ()) = some (r_newelref10_tick.enc (tickB a0)) := by
  refine ⟨200, 6, ?_⟩
  rw [tree_newelref10_tick]
  simp only [r_newelref10_tick, Res.bool]
  refine congrArg (fun b => some (AV.bool b)) ?_
  rw [Bool.eq_iff_iff]
  simp [tickB, inB]
  try omega
theorem run_newelref06_turn (a0 : Turn) : ∃ F d, run k25 F d 44 Try.f44 s_newelref06_turn (a0, ()) = some (r_newelref06_turn.enc (turnB a0)) := by
  refine ⟨200, 6, ?_⟩
  rw [tree_newelref06_turn]
  simp only [r_newelref06_turn, Res.bool]
  refine congrArg (fun b => some (AV.bool b)) ?_
  rw [Bool.eq_iff_iff]
  simp [turnB, inB]
  try omega
theorem run_config_must (a0 : Bool) (a1 : Int) : ∃ F d, run k2 F d 36 Try.f36 s_config_must (a0, a1, ()) = some (r_config_must.enc (errIf a0 a1)) := by
  refine ⟨200, 6, ?_⟩
  rw [tree_config_must]
  cases a0 <;> rfl
theorem run_config_size (a0 : Config) : ∃ F d, run k4 F d 21 Try.f21 s_config_size (a0, ()) = some (r_config_size.enc (config_size a0)) := by
  refine ⟨200, 6, ?_⟩
  rw [tree_config_size]
  simp only [r_config_size, Res.int, config_size, sizeB, beqn, ble0, Bool.true_and, Bool.and_true, Bool.and_self, cond_true, cond_false, and_false', or_true']
theorem run_config_stops (a0 : Config) (hg : smallC a0 = true) : ∃ F d, run k6 F d 22 Try.f22 s_config_stops (a0, ()) = some (r_config_stops.enc (config_stops a0)) := by
  refine ⟨200, 6, ?_⟩
  rw [tree_config_stops]
  simp only [smallC, Bool.and_eq_true, decide_eq_true_eq] at hg
  simp only [beqn, ble0, Bool.true_and, Bool.and_true, Bool.and_self, cond_true, cond_false, and_false', or_true', hg.1, decide_true, BEq.rfl]
  simp only [r_config_stops, Res.int, config_stops, stopsB]
  congr 5
  simp
  omega
theorem run_newelref10_stops (a0 : Config) (hg : smallC a0 = true) : ∃ F d, run k31 F d 29 Try.f29 s_newelref10_stops (a0, ()) = some (r_newelref10_stops.enc (ref_stops a0)) := by
  refine ⟨200, 6, ?_⟩
  rw [tree_newelref10_stops]
  simp only [smallC, Bool.and_eq_true, decide_eq_true_eq] at hg
  simp only [beqn, ble0, Bool.true_and, Bool.and_true, Bool.and_self, cond_true, cond_false, and_false', or_true', hg.1, decide_true, BEq.rfl]
  simp only [r_newelref10_stops, Res.bool, ref_stops]
  cases h : chkR a0.floors none a0.stops <;> simp
  omega
theorem run_config_windows (a0 : Config) (hg : smallC a0 = true) : ∃ F d, run k11 F d 28 Try.f28 s_config_windows (a0, ()) = some (r_config_windows.enc (config_windows a0)) := by
  refine ⟨200, 6, ?_⟩
  rw [tree_config_windows]
  simp only [smallC, Bool.and_eq_true, decide_eq_true_eq] at hg
  simp only [beqn, ble0, Bool.true_and, Bool.and_true, Bool.and_self, cond_true, cond_false, and_false', or_true', hg.2, decide_true, BEq.rfl]
  simp only [r_config_windows, Res.int, config_windows, errIf]
  by_cases h : a0.windows.length > 16
  · simp [h, show ((a0.windows.length : Nat) : Int) > 16 by omega]
  · simp only [h, show ¬ ((a0.windows.length : Nat) : Int) > 16 by omega, decide_false, cond_false]
    cases a0.windows.all windowB <;> rfl
theorem run_config_Check (a0 : Config) (hg : smallC a0 = true) : ∃ F d, run k12 F d 12 Try.f12 s_config_Check (a0, ()) = some (r_config_Check.enc (config_Check a0)) := by
  refine ⟨200, 6, ?_⟩
  rw [tree_config_Check]
  simp only [beqn, ble0, Bool.true_and, Bool.and_true, Bool.and_self, cond_true, cond_false, and_false', or_true', hg]
  simp only [r_config_Check, Res.int, config_Check, orE, bne]
  cases h1 : (config_size a0 == 0) <;> cases h2 : (config_stops a0 == 0) <;> cases h3 : (config_times a0 == 0) <;> cases h4 : (zone_Check a0.zone == 0) <;> cases h5 : (sunset_Check a0.sun == 0) <;> cases h6 : (config_windows a0 == 0) <;> simp_all
theorem run_equalI (a0 : List Int) (a1 : List Int) (hg : smallI a0 a1 = true) : ∃ F d, run k14 F d 34 Try.f34 s_equalI (a0, a1, ()) = some (r_equalI.enc (eqInts a0 a1)) := by
  refine ⟨200, 6, ?_⟩
  rw [tree_equalI]
  simp only [smallI, decide_eq_true_eq] at hg
  simp only [r_equalI, Res.bool, beqn, ble0, Bool.true_and, Bool.and_true, Bool.and_self, cond_true, cond_false, and_false', or_true', hg, decide_true]
  by_cases h : a0.length = a1.length
  · simp [h, eqInts]
    by_cases e : a0 = a1 <;> simp [e]
  · have : a0 ≠ a1 := fun e => h (by rw [e])
    have hb : (((a0.length : Nat) : Int) != ((a1.length : Nat) : Int)) = true := by simp; omega
    rw [hb]
    simp [eqInts, this]
theorem run_equalW (a0 : List Window) (a1 : List Window) (hg : smallW a0 a1 = true) : ∃ F d, run k16 F d 35 Try.f35 s_equalW (a0, a1, ()) = some (r_equalW.enc (eqWins a0 a1)) := by
  refine ⟨200, 6, ?_⟩
  rw [tree_equalW]
  simp only [smallW, decide_eq_true_eq] at hg
  simp only [r_equalW, Res.bool, beqn, ble0, Bool.true_and, Bool.and_true, Bool.and_self, cond_true, cond_false, and_false', or_true', hg, decide_true]
  by_cases h : a0.length = a1.length
  · simp [h, eqWins]
    by_cases e : a0 = a1 <;> simp [e]
  · have : a0 ≠ a1 := fun e => h (by rw [e])
    have hb : (((a0.length : Nat) : Int) != ((a1.length : Nat) : Int)) = true := by simp; omega
    rw [hb]
    simp [eqWins, this]
theorem run_config_Fits (a0 : Config) (a1 : Config) (hg : small2 a0 a1 = true) : ∃ F d, run k18 F d 18 Try.f18 s_config_Fits (a0, a1, ()) = some (r_config_Fits.enc (config_Fits a0 a1)) := by
  refine ⟨200, 6, ?_⟩
  rw [tree_config_Fits]
  simp only [small2, Bool.and_eq_true] at hg
  simp only [beqn, ble0, Bool.true_and, Bool.and_true, Bool.and_self, cond_true, cond_false, and_false', or_true', hg.1, hg.2, Bool.true_or, r_config_Fits, Res.bool, config_Fits]
theorem run_newelref10_Few (a0 : Config) : ∃ F d, run k19 F d 9 Try.f9 s_newelref10_Few (a0, ()) = some (r_newelref10_Few.enc (few10 a0)) := by
  refine ⟨200, 6, ?_⟩
  rw [tree_newelref10_Few]
  simp only [r_newelref10_Few, Res.bool, few10, and_false']
  refine congrArg (fun b => some (AV.bool b)) ?_
  rw [Bool.eq_iff_iff]
  simp
  omega
theorem run_config_Window (a0 : Window) : ∃ F d, run k3 F d 11 Try.f11 s_config_Window (a0, ()) = some (r_config_Window.enc (config_Window a0)) := by
  refine ⟨200, 6, ?_⟩
  rw [tree_config_Window]
  simp only [r_config_Window, Res.int, config_Window, windowB, timedB, and_false', or_true', errK]
  cases a0.kind == 1 <;> cases a0.kind == 2 <;> cases a0.kind == 3 <;> cases a0.kind == 4 <;> simp only [cond_true, cond_false, Bool.and_assoc, Bool.true_and, Bool.false_and, Bool.and_false] <;> rfl
theorem run_newelref10_Window (a0 : Window) : ∃ F d, run k26 F d 15 Try.f15 s_newelref10_Window (a0, ()) = some (r_newelref10_Window.enc (windowB a0)) := by
  refine ⟨200, 6, ?_⟩
  rw [tree_newelref10_Window]
  simp only [r_newelref10_Window, Res.bool, windowB, timedB, inB, and_false', or_true', some_false, dlt, dgt, dge, Bool.not_or, Bool.not_not]
  cases a0.kind == 1 <;> cases a0.kind == 2 <;> cases a0.kind == 3 <;> simp only [cond_true, cond_false, some_false, Bool.not_or, Bool.not_not, Bool.and_assoc, Bool.not_and, Bool.or_assoc]
theorem run_config_times (a0 : Config) : ∃ F d, run k7 F d 23 Try.f23 s_config_times (a0, ()) = some (r_config_times.enc (config_times a0)) := by
  refine ⟨200, 6, ?_⟩
  rw [tree_config_times]
  simp only [r_config_times, Res.int, config_times]
  congr 3
  simp only [timesC, tickB, inB, and_false', or_true', Bool.cond_eq_ite]
  rw [Bool.eq_iff_iff]
  simp only [Bool.and_eq_true, decide_eq_true_eq]
  (repeat' split) <;> simp_all <;> omega
theorem run_newelref10_times (a0 : Config) : ∃ F d, run k29 F d 30 Try.f30 s_newelref10_times (a0, ()) = some (r_newelref10_times.enc (timesC a0)) := by
  refine ⟨200, 6, ?_⟩
  rw [tree_newelref10_times]
  simp only [r_newelref10_times, Res.bool, timesC, tickB, inB, and_false', or_true', some_false, dlt, dgt, dge, Bool.not_or, Bool.not_not, Bool.and_assoc]
theorem run_newelref10_Check (a0 : Config) (hg : smallC a0 = true) : ∃ F d, run k33 F d 14 Try.f14 s_newelref10_Check (a0, ()) = some (r_newelref10_Check.enc (ref_Check a0)) := by
  refine ⟨200, 6, ?_⟩
  rw [tree_newelref10_Check]
  have hg' := hg
  simp only [smallC, Bool.and_eq_true, decide_eq_true_eq] at hg
  simp only [beqn, ble0, Bool.true_and, Bool.and_true, Bool.and_self, cond_true, cond_false, and_false', or_true', hg', hg.2, decide_true, BEq.rfl, Bool.true_or, Bool.or_true]
  simp only [r_newelref10_Check, Res.int, ref_Check, orE, ref_size, inB, dlt, dgt, dge, bne, errIf, config_windows, Bool.not_not, Bool.not_and, Bool.not_or]
  have hS : ∀ a b c d e f : Bool, (!a || !b || !c || !d || !e || f) = !(a && b && (c && d) && (e && !f)) := by decide
  rw [hS]
  generalize (decide (2 ≤ a0.floors) && decide (a0.floors ≤ 64) && (decide (1 ≤ a0.cars) && decide (a0.cars ≤ 8)) && (decide (0 ≤ a0.park) && !decide (a0.floors ≤ a0.park))) = S
  have hW : (!decide (((a0.windows.length : Nat) : Int) ≤ 16)) = decide (a0.windows.length > 16) := by rw [Bool.eq_iff_iff]; simp; omega
  rw [hW]
  simp only [config_times, errIf]
  cases S
  · rfl
  cases ref_stops a0
  · rfl
  cases timesC a0
  · rfl
  cases hz : (zone_Check a0.zone == 0)
  · rfl
  cases hu : (sunset_Check a0.sun == 0)
  · rfl
  cases decide (a0.windows.length > 16)
  · cases a0.windows.all windowB <;> rfl
  · rfl
theorem run_newellaw10_Own (a0 : Config) (hg : smallC a0 = true) : ∃ F d, runO k20 F d 13 Try.f13 s_newellaw10_Own r_newellaw10_Own (a0, ()) = some (own10 a0) := by
  refine ⟨200, 6, ?_⟩
  rw [tree_newellaw10_Own]
  simp only [smallC, Bool.and_eq_true, decide_eq_true_eq] at hg
  have e1 : Nat.ble a0.stops.length 1048576 = true := by simpa using hg.1
  have e2 : Nat.ble a0.windows.length 1048576 = true := by simpa using hg.2
  simp only [beqn, ble0, Bool.true_and, Bool.and_true, Bool.and_self, cond_true, cond_false, and_false', or_true', e1, e2, List.nil_append, own10]
end Go.Proofs.Ytchmdbfcmcoohaa.Px.PxC
