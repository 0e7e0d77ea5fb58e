/- What is said of functions that other seats have, too. -/
import Derived.Test.YtgfinnhojeghhaaDoorPxXSteps
import Derived.Test.YtgfinnhojeghhaaDoorPxIdx
set_option linter.unusedVariables false
set_option linter.unusedSimpArgs false
namespace Go.Proofs.YtgfinnhojeghhaaDoor.Px.PxX
open Go Go.Proofs
set_option linter.unusedSimpArgs false
set_option linter.unusedVariables false

theorem chkG_last (ok : Int → Bool) (p : Int) (x : Int) (l : List Int) : chkG ok (some p) (x :: l) = (ok x && decide (p < x) && chkG ok (some x) l) := rfl

theorem go_stops (l0 : List (Int)) (l1 : List (Window)) (v2_0 v2_1 v2_2 v2_4 v2_5 v2_6 v2_7 v2_8 v2_9 v2_10 v2_11 v2_12 v2_13 v2_14 v2_15 v2_16 v2_17 v2_18 v2_19 v2_20 v2_21 v2_22 v2_23 v2_24 v2_25 v2_26 v2_27 v2_28 v2_29 v2_30 v2_31 v2_32 v2_33 v2_34 : Int) (v2_35 v3 : Bool) (v12 v13 : Int) (F d : Nat) : ∀ (suf pre : List Int) (v : Bool) (n : Nat), suf.length < n → (pre ++ suf).length ≤ 1048576 →
    I_stops F (d + 3) n (S_stops (pre ++ suf) l1 v2_0 v2_1 v2_2 v2_4 v2_5 v2_6 v2_7 v2_8 v2_9 v2_10 v2_11 v2_12 v2_13 v2_14 v2_15 v2_16 v2_17 v2_18 v2_19 v2_20 v2_21 v2_22 v2_23 v2_24 v2_25 v2_26 v2_27 v2_28 v2_29 v2_30 v2_31 v2_32 v2_33 v2_34 v2_35 v (((pre ++ suf).length : Nat) : Int) ((pre.length : Nat) : Int)) = some (.exit 0, (X_stops_0 (pre ++ suf) l1 v2_0 v2_1 v2_2 v2_4 v2_5 v2_6 v2_7 v2_8 v2_9 v2_10 v2_11 v2_12 v2_13 v2_14 v2_15 v2_16 v2_17 v2_18 v2_19 v2_20 v2_21 v2_22 v2_23 v2_24 v2_25 v2_26 v2_27 v2_28 v2_29 v2_30 v2_31 v2_32 v2_33 v2_34 v2_35 (v && chkS (IntKind.i64.wrap (v2_0 - 1)) pre.getLast? suf))) := by
  intro suf
  induction suf with
  | nil =>
    intro pre v n hn hl
    obtain ⟨n, rfl⟩ : ∃ k, n = k + 1 := ⟨n - 1, by omega⟩
    rw [step_stops, idx_end, cond_false]
    simp [chkG, chkS]
  | cons x suf ih =>
    intro pre v n hn hl
    obtain ⟨n, rfl⟩ : ∃ k, n = k + 1 := ⟨n - 1, by omega⟩
    have ih' := ih (pre ++ [x]) (v && (inB x 0 (IntKind.i64.wrap (v2_0 - 1)) && (pre.length == 0 || decide (pre.getLast?.getD 0 < x)))) n (by simp at hn; omega) (by simpa using hl)
    have hpl : pre.length + (suf.length + 1) ≤ 1048576 := by simpa using hl
    rw [step_stops]
    simp only [idx_lt, idx_ge, Bool.and_self, cond_true, idx_nat, idx_at, idx_next hl]
    rw [← idx_step] at ih'
    have hacc : (bif bif v then inB x 0 (IntKind.wrap IntKind.i64 (v2_0 - 1)) else false then bif ((pre.length : Nat) : Int) == 0 then true else decide (List.getD (pre ++ x :: suf) (0 + Int.toNat (IntKind.wrap IntKind.i64 ((pre.length : Int) - 1))) 0 < x) else false) = (v && (inB x 0 (IntKind.i64.wrap (v2_0 - 1)) && (pre.length == 0 || decide (pre.getLast?.getD 0 < x)))) := by
      cases v
      · rfl
      · cases inB x 0 (IntKind.wrap IntKind.i64 (v2_0 - 1))
        · rfl
        · rcases nil_or_snoc pre with rfl | ⟨q, p, rfl⟩
          · simp
          · rw [IntWalk.i64_in _ (by simp at hpl ⊢; omega), idx_last, idx_ne0]
            simp
    rw [hacc]
    have g1 : (decide (0 ≤ IntKind.wrap IntKind.i64 ((pre.length : Int) - 1)) && decide (IntKind.wrap IntKind.i64 ((pre.length : Int) - 1) < (((pre ++ x :: suf).length : Nat) : Int)) || !((bif v then inB x 0 (IntKind.wrap IntKind.i64 (v2_0 - 1)) else false) && !((pre.length : Nat) : Int) == 0)) = true := by
      rcases nil_or_snoc pre with rfl | ⟨q, p, rfl⟩
      · simp
      · rw [IntWalk.i64_in _ (by simp at hpl ⊢; omega)]
        simp
        try omega
    have g2 : (decide (0 + Int.toNat (IntKind.wrap IntKind.i64 ((pre.length : Int) - 1)) < (pre ++ x :: suf).length) || !((bif v then inB x 0 (IntKind.wrap IntKind.i64 (v2_0 - 1)) else false) && !((pre.length : Nat) : Int) == 0)) = true := by
      rcases nil_or_snoc pre with rfl | ⟨q, p, rfl⟩
      · simp
      · rw [IntWalk.i64_in _ (by simp at hpl ⊢; omega)]
        simp
        try omega
    rw [g1, cond_true, g2, cond_true]
    rw [ih']
    congr 3
    rcases nil_or_snoc pre with rfl | ⟨q, p, rfl⟩
    · simp [chkG, chkS, Bool.and_assoc]
    · simp [chkG, chkS, Bool.and_assoc]

theorem main_stops (l0 : List (Int)) (l1 : List (Window)) (v2_0 v2_1 v2_2 v2_4 v2_5 v2_6 v2_7 v2_8 v2_9 v2_10 v2_11 v2_12 v2_13 v2_14 v2_15 v2_16 v2_17 v2_18 v2_19 v2_20 v2_21 v2_22 v2_23 v2_24 v2_25 v2_26 v2_27 v2_28 v2_29 v2_30 v2_31 v2_32 v2_33 v2_34 : Int) (v2_35 v3 : Bool) (v12 v13 : Int) (hg : (decide (l0.length ≤ 1048576) && (v12 == (l0.length : Int) && v13 == 0)) = true) : ∃ N d, I_stops N d N (S_stops l0 l1 v2_0 v2_1 v2_2 v2_4 v2_5 v2_6 v2_7 v2_8 v2_9 v2_10 v2_11 v2_12 v2_13 v2_14 v2_15 v2_16 v2_17 v2_18 v2_19 v2_20 v2_21 v2_22 v2_23 v2_24 v2_25 v2_26 v2_27 v2_28 v2_29 v2_30 v2_31 v2_32 v2_33 v2_34 v2_35 v3 v12 v13) = some (altK Prod.mk [] (.exit 0) (X_stops_0 l0 l1 v2_0 v2_1 v2_2 v2_4 v2_5 v2_6 v2_7 v2_8 v2_9 v2_10 v2_11 v2_12 v2_13 v2_14 v2_15 v2_16 v2_17 v2_18 v2_19 v2_20 v2_21 v2_22 v2_23 v2_24 v2_25 v2_26 v2_27 v2_28 v2_29 v2_30 v2_31 v2_32 v2_33 v2_34 v2_35 (v3 && chkS (IntKind.i64.wrap (v2_0 - 1)) none l0))) := by
  simp only [Bool.and_eq_true, decide_eq_true_eq, beq_iff_eq] at hg
  obtain ⟨h1, rfl, rfl⟩ := hg
  have := go_stops l0 l1 v2_0 v2_1 v2_2 v2_4 v2_5 v2_6 v2_7 v2_8 v2_9 v2_10 v2_11 v2_12 v2_13 v2_14 v2_15 v2_16 v2_17 v2_18 v2_19 v2_20 v2_21 v2_22 v2_23 v2_24 v2_25 v2_26 v2_27 v2_28 v2_29 v2_30 v2_31 v2_32 v2_33 v2_34 v2_35 v3 0 0 (l0.length + 3) 0 l0 [] v3 (l0.length + 3) (by omega) (by simpa using h1)
  exact ⟨l0.length + 3, 3, by simpa [altK] using this⟩

theorem go_wins (l0 : List (Int)) (l1 : List (Window)) (v2_0 v2_1 v2_2 v2_4 v2_5 v2_6 v2_7 v2_8 v2_9 v2_10 v2_11 v2_12 v2_13 v2_14 v2_15 v2_16 v2_17 v2_18 v2_19 v2_20 v2_21 v2_22 v2_23 v2_24 v2_25 v2_26 v2_27 v2_28 v2_29 v2_30 v2_31 v2_32 v2_33 v2_34 : Int) (v2_35 : Bool) (v7 v8 : Int) (F d : Nat) : ∀ (suf pre : List Window) (n : Nat), suf.length < n → (pre ++ suf).length ≤ 1048576 →
    I_wins F (d + 3) n (S_wins l0 (pre ++ suf) v2_0 v2_1 v2_2 v2_4 v2_5 v2_6 v2_7 v2_8 v2_9 v2_10 v2_11 v2_12 v2_13 v2_14 v2_15 v2_16 v2_17 v2_18 v2_19 v2_20 v2_21 v2_22 v2_23 v2_24 v2_25 v2_26 v2_27 v2_28 v2_29 v2_30 v2_31 v2_32 v2_33 v2_34 v2_35 (((pre ++ suf).length : Nat) : Int) ((pre.length : Nat) : Int)) = cond (suf.all windowB) (some (.exit 0, (X_wins_1 l0 (pre ++ suf) v2_0 v2_1 v2_2 v2_4 v2_5 v2_6 v2_7 v2_8 v2_9 v2_10 v2_11 v2_12 v2_13 v2_14 v2_15 v2_16 v2_17 v2_18 v2_19 v2_20 v2_21 v2_22 v2_23 v2_24 v2_25 v2_26 v2_27 v2_28 v2_29 v2_30 v2_31 v2_32 v2_33 v2_34 v2_35))) (some (.ret, (X_wins_0 l0 (pre ++ suf) v2_0 v2_1 v2_2 v2_4 v2_5 v2_6 v2_7 v2_8 v2_9 v2_10 v2_11 v2_12 v2_13 v2_14 v2_15 v2_16 v2_17 v2_18 v2_19 v2_20 v2_21 v2_22 v2_23 v2_24 v2_25 v2_26 v2_27 v2_28 v2_29 v2_30 v2_31 v2_32 v2_33 v2_34 v2_35 ((pre.length + suf.findIdx (fun w => !windowB w) : Nat) : Int)))) := by
  intro suf
  induction suf with
  | nil =>
    intro pre n hn hl
    obtain ⟨n, rfl⟩ : ∃ k, n = k + 1 := ⟨n - 1, by omega⟩
    rw [step_wins, idx_end, cond_false]
    rfl
  | cons x suf ih =>
    intro pre n hn hl
    obtain ⟨n, rfl⟩ : ∃ k, n = k + 1 := ⟨n - 1, by omega⟩
    have ih' := ih (pre ++ [x]) n (by simp at hn; omega) (by simpa using hl)
    rw [step_wins]
    simp only [idx_lt, idx_ge, Bool.and_self, cond_true, idx_nat, idx_at, idx_next hl]
    rw [← idx_step] at ih'
    cases hw : windowB x
    · have : (config_Window x != 0) = true := by simp [config_Window, hw, errIf]
      rw [this, cond_true]
      simp [hw, List.findIdx_cons]
    · have : (config_Window x != 0) = false := by simp [config_Window, hw, errIf]
      rw [this, cond_false, ih']
      simp only [List.all_cons, hw, Bool.true_and, List.findIdx_cons, Bool.not_true, cond_false, List.length_append, List.length_singleton]
      rw [show pre.length + 1 + suf.findIdx (fun w => !windowB w) = pre.length + (suf.findIdx (fun w => !windowB w) + 1) by omega]

theorem main_wins (l0 : List (Int)) (l1 : List (Window)) (v2_0 v2_1 v2_2 v2_4 v2_5 v2_6 v2_7 v2_8 v2_9 v2_10 v2_11 v2_12 v2_13 v2_14 v2_15 v2_16 v2_17 v2_18 v2_19 v2_20 v2_21 v2_22 v2_23 v2_24 v2_25 v2_26 v2_27 v2_28 v2_29 v2_30 v2_31 v2_32 v2_33 v2_34 : Int) (v2_35 : Bool) (v7 v8 : Int) (hg : (decide (l1.length ≤ 1048576) && (v7 == (l1.length : Int) && v8 == 0)) = true) : ∃ N d, I_wins N d N (S_wins l0 l1 v2_0 v2_1 v2_2 v2_4 v2_5 v2_6 v2_7 v2_8 v2_9 v2_10 v2_11 v2_12 v2_13 v2_14 v2_15 v2_16 v2_17 v2_18 v2_19 v2_20 v2_21 v2_22 v2_23 v2_24 v2_25 v2_26 v2_27 v2_28 v2_29 v2_30 v2_31 v2_32 v2_33 v2_34 v2_35 v7 v8) = some (altK Prod.mk [(l1.all windowB, .exit 0, (X_wins_1 l0 l1 v2_0 v2_1 v2_2 v2_4 v2_5 v2_6 v2_7 v2_8 v2_9 v2_10 v2_11 v2_12 v2_13 v2_14 v2_15 v2_16 v2_17 v2_18 v2_19 v2_20 v2_21 v2_22 v2_23 v2_24 v2_25 v2_26 v2_27 v2_28 v2_29 v2_30 v2_31 v2_32 v2_33 v2_34 v2_35))] (.ret) (X_wins_0 l0 l1 v2_0 v2_1 v2_2 v2_4 v2_5 v2_6 v2_7 v2_8 v2_9 v2_10 v2_11 v2_12 v2_13 v2_14 v2_15 v2_16 v2_17 v2_18 v2_19 v2_20 v2_21 v2_22 v2_23 v2_24 v2_25 v2_26 v2_27 v2_28 v2_29 v2_30 v2_31 v2_32 v2_33 v2_34 v2_35 (firstBad l1))) := by
  simp only [Bool.and_eq_true, decide_eq_true_eq, beq_iff_eq] at hg
  obtain ⟨h1, rfl, rfl⟩ := hg
  have := go_wins l0 l1 v2_0 v2_1 v2_2 v2_4 v2_5 v2_6 v2_7 v2_8 v2_9 v2_10 v2_11 v2_12 v2_13 v2_14 v2_15 v2_16 v2_17 v2_18 v2_19 v2_20 v2_21 v2_22 v2_23 v2_24 v2_25 v2_26 v2_27 v2_28 v2_29 v2_30 v2_31 v2_32 v2_33 v2_34 v2_35 0 0 (l1.length + 3) 0 l1 [] (l1.length + 3) (by omega) (by simpa using h1)
  refine ⟨l1.length + 3, 3, ?_⟩
  simp only [List.nil_append, List.length_nil, Nat.zero_add] at this
  rw [show ((0 : Nat) : Int) = 0 from rfl] at this
  rw [this]
  cases h : l1.all windowB <;> simp [altK, h, firstBad]

theorem run_config_must (a0 : Bool) (a1 : Int) : ∃ F d, run k21 F d 51 Tryd.f51 s_config_must (a0, a1, ()) = some (r_config_must.enc (errIf a0 a1)) := by
  refine ⟨200, 6, ?_⟩
  rw [tree_config_must]
  cases a0 <;> rfl

theorem run_config_size (a0 : Config) : ∃ F d, run k23 F d 35 Tryd.f35 s_config_size (a0, ()) = some (r_config_size.enc (config_size a0)) := by
  refine ⟨200, 6, ?_⟩
  rw [tree_config_size]
  simp only [r_config_size, Res.int, config_size, sizeB, beqn, ble0, Bool.true_and, Bool.and_true, Bool.and_self, cond_true, cond_false, and_false', or_true']

theorem run_config_stops (a0 : Config) (hg : smallC a0 = true) : ∃ F d, run k25 F d 36 Tryd.f36 s_config_stops (a0, ()) = some (r_config_stops.enc (config_stops a0)) := by
  refine ⟨200, 6, ?_⟩
  rw [tree_config_stops]
  simp only [smallC, Bool.and_eq_true, decide_eq_true_eq] at hg
  simp only [beqn, ble0, Bool.true_and, Bool.and_true, Bool.and_self, cond_true, cond_false, and_false', or_true', hg.1, decide_true, BEq.rfl]
  simp only [r_config_stops, Res.int, config_stops, stopsB]
  congr 5
  simp
  omega

theorem run_config_windows (a0 : Config) (hg : smallC a0 = true) : ∃ F d, run k29 F d 41 Tryd.f41 s_config_windows (a0, ()) = some (r_config_windows.enc (config_windows a0)) := by
  refine ⟨200, 6, ?_⟩
  rw [tree_config_windows]
  simp only [smallC, Bool.and_eq_true, decide_eq_true_eq] at hg
  simp only [beqn, ble0, Bool.true_and, Bool.and_true, Bool.and_self, cond_true, cond_false, and_false', or_true', hg.2, decide_true, BEq.rfl]
  simp only [r_config_windows, Res.int, config_windows, errIf]
  by_cases h : a0.windows.length > 16
  · simp [h, show ((a0.windows.length : Nat) : Int) > 16 by omega]
  · simp only [h, show ¬ ((a0.windows.length : Nat) : Int) > 16 by omega, decide_false, cond_false]
    cases a0.windows.all windowB <;> rfl

theorem run_config_Check (a0 : Config) (hg : smallC a0 = true) : ∃ F d, run k30 F d 24 Tryd.f24 s_config_Check (a0, ()) = some (r_config_Check.enc (config_Check a0)) := by
  refine ⟨200, 6, ?_⟩
  rw [tree_config_Check]
  simp only [beqn, ble0, Bool.true_and, Bool.and_true, Bool.and_self, cond_true, cond_false, and_false', or_true', hg]
  simp only [r_config_Check, Res.int, config_Check, orE, bne]
  cases h1 : (config_size a0 == 0) <;> cases h2 : (config_stops a0 == 0) <;> cases h3 : (config_times a0 == 0) <;> cases h4 : (zone_Check a0.zone == 0) <;> cases h5 : (sunset_Check a0.sun == 0) <;> cases h6 : (config_windows a0 == 0) <;> simp_all

theorem run_newelref10_Few (a0 : Config) : ∃ F d, run k31 F d 13 Tryd.f13 s_newelref10_Few (a0, ()) = some (r_newelref10_Few.enc (few10 a0)) := by
  refine ⟨200, 6, ?_⟩
  rw [tree_newelref10_Few]
  simp only [r_newelref10_Few, Res.bool, few10, and_false']
  refine congrArg (fun b => some (AV.bool b)) ?_
  rw [Bool.eq_iff_iff]
  simp
  omega

theorem run_config_Window (a0 : Window) : ∃ F d, run k22 F d 25 Tryd.f25 s_config_Window (a0, ()) = some (r_config_Window.enc (config_Window a0)) := by
  refine ⟨200, 6, ?_⟩
  rw [tree_config_Window]
  simp only [r_config_Window, Res.int, config_Window, windowB, timedB, and_false', or_true', errK]
  cases a0.kind == 1 <;> cases a0.kind == 2 <;> cases a0.kind == 3 <;> cases a0.kind == 4 <;> simp only [cond_true, cond_false, Bool.and_assoc, Bool.true_and, Bool.false_and, Bool.and_false] <;> rfl

theorem run_config_times (a0 : Config) : ∃ F d, run k26 F d 37 Tryd.f37 s_config_times (a0, ()) = some (r_config_times.enc (config_times a0)) := by
  refine ⟨200, 6, ?_⟩
  rw [tree_config_times]
  simp only [r_config_times, Res.int, config_times]
  congr 3
  simp only [timesC, tickB, inB, and_false', or_true', Bool.cond_eq_ite]
  rw [Bool.eq_iff_iff]
  simp only [Bool.and_eq_true, decide_eq_true_eq]
  (repeat' split) <;> simp_all <;> omega

theorem run_newellaw10_Own (a0 : Config) (hg : smallC a0 = true) : ∃ F d, runO k32 F d 15 Tryd.f15 s_newellaw10_Own r_newellaw10_Own (a0, ()) = some (own10 a0) := by
  refine ⟨200, 6, ?_⟩
  rw [tree_newellaw10_Own]
  simp only [smallC, Bool.and_eq_true, decide_eq_true_eq] at hg
  have e1 : Nat.ble a0.stops.length 1048576 = true := by simpa using hg.1
  have e2 : Nat.ble a0.windows.length 1048576 = true := by simpa using hg.2
  simp only [beqn, ble0, Bool.true_and, Bool.and_true, Bool.and_self, cond_true, cond_false, and_false', or_true', e1, e2, List.nil_append, own10]

theorem out_in (x a b : Int) : (bif decide (x < a) then true else decide (x > b)) = !inB x a b := by
  rw [Bool.eq_iff_iff]; simp [inB]; try omega

theorem out_in' (x a b : Int) : (bif decide (x > b) then true else decide (x < a)) = !inB x a b := by
  rw [Bool.eq_iff_iff]; simp [inB]; try omega

theorem wrap_sub {x y a b : Int} (hx : inB x a b = true) (hy : inB y a b = true) (h : -10000 ≤ a) (h' : b ≤ 10000) : IntKind.wrap IntKind.i64 (y - x) = y - x := by
  rw [inB_iff] at hx hy
  exact IntWalk.i64_in _ (by omega)

theorem two0 (x y : Int) : List.getD [x, y] 0 0 = x := rfl

theorem two1 (x y : Int) : List.getD [x, y] 1 0 = y := rfl

theorem turn_eq0 (x : Turn) : (Turn.month x == 0 && (Turn.week x == 0 && (Turn.weekday x == 0 && (Turn.minute x == 0 && true)))) = decide (x = turn0) := by
  cases x; rw [Bool.eq_iff_iff]; simp [turn0]

theorem turn_eq (x y : Turn) : (Turn.month x == Turn.month y && (Turn.week x == Turn.week y && (Turn.weekday x == Turn.weekday y && (Turn.minute x == Turn.minute y && true)))) = decide (x = y) := by
  cases x; cases y; rw [Bool.eq_iff_iff]; simp

theorem max_min {x y : Int} (hx : inB x 1 12 = true) (hy : inB y 1 12 = true) : inB (IntKind.wrap IntKind.i64 ((bif decide (y > x) then y else x) - bif decide (y < x) then y else x)) 2 10 = inB (apart x y) 2 10 := by
  rw [inB_iff] at hx hy
  unfold apart
  by_cases h : x ≤ y
  · by_cases h2 : y ≤ x
    · have : x = y := by omega
      subst this
      simp [IntKind.wrap, IntKind.bits, IntKind.signed, inB]
    · simp only [show y > x by omega, show ¬ y < x by omega, decide_true, decide_false, cond_true, cond_false, if_pos h]
      rw [IntWalk.i64_in _ (by omega)]
  · simp only [show ¬ y > x by omega, show y < x by omega, decide_true, decide_false, cond_true, cond_false, if_neg h]
    rw [IntWalk.i64_in _ (by omega)]

theorem run_zone_Check (a0 : Zone) : ∃ F d, run k12 F d 19 Tryd.f19 s_zone_Check (a0, ()) = some (r_zone_Check.enc (zone_Check a0)) := by
  refine ⟨200, 6, ?_⟩
  rw [tree_zone_Check]
  simp only [r_zone_Check, Res.int, zone_Check, turnsB, turnB, turn_eq0]
  cases h1 : inB a0.base (-720) 840
  · rfl
  cases h2 : inB a0.shift 0 120
  · rfl
  have h2' := inB_iff.1 h2
  by_cases h3 : a0.shift = 0
  · simp only [h3, show decide ((0 : Int) > 0) = false from rfl, show ((0 : Int) == 0) = true from rfl]
    cases decide (a0.on = turn0) <;> cases decide (a0.off = turn0) <;> rfl
  · have e1 : decide (a0.shift > 0) = true := by simp; omega
    have e2 : (a0.shift == 0) = false := by simp; omega
    rw [e1, e2]
    cases g1 : inB a0.on.month 1 12
    · rfl
    cases g2 : inB a0.on.week 1 5
    · rfl
    cases g3 : inB a0.on.weekday 0 6
    · rfl
    cases g4 : inB a0.on.minute 0 1439
    · rfl
    cases g5 : inB a0.off.month 1 12
    · rfl
    cases g6 : inB a0.off.week 1 5
    · rfl
    cases g7 : inB a0.off.weekday 0 6
    · rfl
    cases g8 : inB a0.off.minute 0 1439
    · rfl
    rw [max_min g1 g5]
    cases inB (apart a0.on.month a0.off.month) 2 10 <;> rfl

theorem run_sunset_Check (a0 : Sun) : ∃ F d, run k27 F d 40 Tryd.f40 s_sunset_Check (a0, ()) = some (r_sunset_Check.enc (sunset_Check a0)) := by
  refine ⟨200, 6, ?_⟩
  rw [tree_sunset_Check]
  simp only [r_sunset_Check, Res.int, sunset_Check, sunL, List.all_cons, List.all_nil, stepsB, List.cons_append, List.nil_append, out_in, two0, two1]
  cases h0 : inB a0.m0 900 1320
  · rfl
  cases h1 : inB a0.m1 900 1320
  · rfl
  cases h2 : inB a0.m2 900 1320
  · rfl
  cases h3 : inB a0.m3 900 1320
  · rfl
  cases h4 : inB a0.m4 900 1320
  · rfl
  cases h5 : inB a0.m5 900 1320
  · rfl
  cases h6 : inB a0.m6 900 1320
  · rfl
  cases h7 : inB a0.m7 900 1320
  · rfl
  cases h8 : inB a0.m8 900 1320
  · rfl
  cases h9 : inB a0.m9 900 1320
  · rfl
  cases h10 : inB a0.m10 900 1320
  · rfl
  cases h11 : inB a0.m11 900 1320
  · rfl
  simp only [ wrap_sub h0 h1 (by omega) (by omega), wrap_sub h1 h2 (by omega) (by omega), wrap_sub h2 h3 (by omega) (by omega), wrap_sub h3 h4 (by omega) (by omega), wrap_sub h4 h5 (by omega) (by omega), wrap_sub h5 h6 (by omega) (by omega), wrap_sub h6 h7 (by omega) (by omega), wrap_sub h7 h8 (by omega) (by omega), wrap_sub h8 h9 (by omega) (by omega), wrap_sub h9 h10 (by omega) (by omega), wrap_sub h10 h11 (by omega) (by omega), wrap_sub h11 h0 (by omega) (by omega), out_in']
  cases inB (a0.m1 - a0.m0) (-120) 120
  · rfl
  cases inB (a0.m2 - a0.m1) (-120) 120
  · rfl
  cases inB (a0.m3 - a0.m2) (-120) 120
  · rfl
  cases inB (a0.m4 - a0.m3) (-120) 120
  · rfl
  cases inB (a0.m5 - a0.m4) (-120) 120
  · rfl
  cases inB (a0.m6 - a0.m5) (-120) 120
  · rfl
  cases inB (a0.m7 - a0.m6) (-120) 120
  · rfl
  cases inB (a0.m8 - a0.m7) (-120) 120
  · rfl
  cases inB (a0.m9 - a0.m8) (-120) 120
  · rfl
  cases inB (a0.m10 - a0.m9) (-120) 120
  · rfl
  cases inB (a0.m11 - a0.m10) (-120) 120
  · rfl
  cases inB (a0.m0 - a0.m11) (-120) 120
  · rfl
  rfl
end Go.Proofs.YtgfinnhojeghhaaDoor.Px.PxX
