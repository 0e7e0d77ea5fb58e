/- What is said of functions that other seats have, too. -/
import Derived.Test.YtgfinnhojeghhaaGreatDoorPxYProofs
import Derived.Test.YtgfinnhojeghhaaGreatDoorPxSpecGreg
set_option linter.unusedVariables false
set_option linter.unusedSimpArgs false
namespace Go.Proofs.YtgfinnhojeghhaaGreatDoor.Px.PxY
open Go Go.Proofs
set_option linter.unusedSimpArgs false
set_option linter.unusedVariables false

theorem go_rwins (l0 : List (Int)) (l1 : List (Window)) (v2_0 v2_1 v2_2 v2_4 v2_5 v2_6 v2_7 v2_8 v2_9 v2_10 v2_11 v2_12 v2_13 v2_14 v2_15 v2_16 v2_17 v2_18 v2_19 v2_20 v2_21 v2_22 v2_23 v2_24 v2_25 v2_26 v2_27 v2_28 v2_29 v2_30 v2_31 v2_32 v2_33 v2_34 : Int) (v2_35 : Bool) (v7 : Int) (F d : Nat) : ∀ (suf pre : List Window) (n : Nat), suf.length < n → (pre ++ suf).length ≤ 1048576 →
    I_rwins F (d + 3) n (S_rwins l0 (pre ++ suf) v2_0 v2_1 v2_2 v2_4 v2_5 v2_6 v2_7 v2_8 v2_9 v2_10 v2_11 v2_12 v2_13 v2_14 v2_15 v2_16 v2_17 v2_18 v2_19 v2_20 v2_21 v2_22 v2_23 v2_24 v2_25 v2_26 v2_27 v2_28 v2_29 v2_30 v2_31 v2_32 v2_33 v2_34 v2_35 ((pre.length : Nat) : Int)) = cond (suf.all windowB) (some (.exit 0, (X_rwins_1 l0 (pre ++ suf) v2_0 v2_1 v2_2 v2_4 v2_5 v2_6 v2_7 v2_8 v2_9 v2_10 v2_11 v2_12 v2_13 v2_14 v2_15 v2_16 v2_17 v2_18 v2_19 v2_20 v2_21 v2_22 v2_23 v2_24 v2_25 v2_26 v2_27 v2_28 v2_29 v2_30 v2_31 v2_32 v2_33 v2_34 v2_35))) (some (.ret, (X_rwins_0 l0 (pre ++ suf) v2_0 v2_1 v2_2 v2_4 v2_5 v2_6 v2_7 v2_8 v2_9 v2_10 v2_11 v2_12 v2_13 v2_14 v2_15 v2_16 v2_17 v2_18 v2_19 v2_20 v2_21 v2_22 v2_23 v2_24 v2_25 v2_26 v2_27 v2_28 v2_29 v2_30 v2_31 v2_32 v2_33 v2_34 v2_35))) := by
  intro suf
  induction suf with
  | nil =>
    intro pre n hn hl
    obtain ⟨n, rfl⟩ : ∃ k, n = k + 1 := ⟨n - 1, by omega⟩
    rw [step_rwins, idx_end, cond_false]
    rfl
  | cons x suf ih =>
    intro pre n hn hl
    obtain ⟨n, rfl⟩ : ∃ k, n = k + 1 := ⟨n - 1, by omega⟩
    have ih' := ih (pre ++ [x]) n (by simp at hn; omega) (by simpa using hl)
    rw [step_rwins]
    simp only [idx_lt, idx_ge, Bool.and_self, cond_true, idx_nat, idx_at, idx_next hl]
    rw [← idx_step] at ih'
    cases hw : windowB x
    · simp [hw]
    · simp only [Bool.not_true, cond_false]
      rw [ih']
      simp only [List.all_cons, hw, Bool.true_and]

theorem main_rwins (l0 : List (Int)) (l1 : List (Window)) (v2_0 v2_1 v2_2 v2_4 v2_5 v2_6 v2_7 v2_8 v2_9 v2_10 v2_11 v2_12 v2_13 v2_14 v2_15 v2_16 v2_17 v2_18 v2_19 v2_20 v2_21 v2_22 v2_23 v2_24 v2_25 v2_26 v2_27 v2_28 v2_29 v2_30 v2_31 v2_32 v2_33 v2_34 : Int) (v2_35 : Bool) (v7 : Int) (hg : (decide (l1.length ≤ 1048576) && v7 == 0) = true) : ∃ N d, I_rwins N d N (S_rwins l0 l1 v2_0 v2_1 v2_2 v2_4 v2_5 v2_6 v2_7 v2_8 v2_9 v2_10 v2_11 v2_12 v2_13 v2_14 v2_15 v2_16 v2_17 v2_18 v2_19 v2_20 v2_21 v2_22 v2_23 v2_24 v2_25 v2_26 v2_27 v2_28 v2_29 v2_30 v2_31 v2_32 v2_33 v2_34 v2_35 v7) = some (altK Prod.mk [(l1.all windowB, .exit 0, (X_rwins_1 l0 l1 v2_0 v2_1 v2_2 v2_4 v2_5 v2_6 v2_7 v2_8 v2_9 v2_10 v2_11 v2_12 v2_13 v2_14 v2_15 v2_16 v2_17 v2_18 v2_19 v2_20 v2_21 v2_22 v2_23 v2_24 v2_25 v2_26 v2_27 v2_28 v2_29 v2_30 v2_31 v2_32 v2_33 v2_34 v2_35))] (.ret) (X_rwins_0 l0 l1 v2_0 v2_1 v2_2 v2_4 v2_5 v2_6 v2_7 v2_8 v2_9 v2_10 v2_11 v2_12 v2_13 v2_14 v2_15 v2_16 v2_17 v2_18 v2_19 v2_20 v2_21 v2_22 v2_23 v2_24 v2_25 v2_26 v2_27 v2_28 v2_29 v2_30 v2_31 v2_32 v2_33 v2_34 v2_35)) := by
  simp only [Bool.and_eq_true, decide_eq_true_eq, beq_iff_eq] at hg
  obtain ⟨h1, rfl⟩ := hg
  have := go_rwins l0 l1 v2_0 v2_1 v2_2 v2_4 v2_5 v2_6 v2_7 v2_8 v2_9 v2_10 v2_11 v2_12 v2_13 v2_14 v2_15 v2_16 v2_17 v2_18 v2_19 v2_20 v2_21 v2_22 v2_23 v2_24 v2_25 v2_26 v2_27 v2_28 v2_29 v2_30 v2_31 v2_32 v2_33 v2_34 v2_35 0 (l1.length + 3) 0 l1 [] (l1.length + 3) (by omega) (by simpa using h1)
  refine ⟨l1.length + 3, 3, ?_⟩
  simp only [List.nil_append, List.length_nil] at this
  rw [show ((0 : Nat) : Int) = 0 from rfl] at this
  rw [this]
  cases h : l1.all windowB <;> simp [altK, h]

theorem run_newelref10_timed (a0 : Window) : ∃ F d, run k85 F d 38 Tryz.f38 s_newelref10_timed (a0, ()) = some (r_newelref10_timed.enc (timedB a0)) := by
  refine ⟨200, 6, ?_⟩
  rw [tree_newelref10_timed]
  simp only [r_newelref10_timed, Res.bool]
  refine congrArg (fun b => some (AV.bool b)) ?_
  rw [Bool.eq_iff_iff]
  simp [timedB, inB]
  try omega

theorem run_newelref10_tick (a0 : Int) : ∃ F d, run k86 F d 52 Tryz.f52 s_newelref10_tick (a0, ()) = some (r_newelref10_tick.enc (tickB a0)) := by
  refine ⟨200, 6, ?_⟩
  rw [tree_newelref10_tick]
  simp only [r_newelref10_tick, Res.bool]
  refine congrArg (fun b => some (AV.bool b)) ?_
  rw [Bool.eq_iff_iff]
  simp [tickB, inB]
  try omega

theorem run_newelref06_turn (a0 : Turn) : ∃ F d, run k76 F d 53 Tryz.f53 s_newelref06_turn (a0, ()) = some (r_newelref06_turn.enc (turnB a0)) := by
  refine ⟨200, 6, ?_⟩
  rw [tree_newelref06_turn]
  simp only [r_newelref06_turn, Res.bool]
  refine congrArg (fun b => some (AV.bool b)) ?_
  rw [Bool.eq_iff_iff]
  simp [turnB, inB]
  try omega

theorem run_newelref10_stops (a0 : Config) (hg : smallC a0 = true) : ∃ F d, run k91 F d 34 Tryz.f34 s_newelref10_stops (a0, ()) = some (r_newelref10_stops.enc (ref_stops a0)) := by
  refine ⟨200, 6, ?_⟩
  rw [tree_newelref10_stops]
  simp only [smallC, Bool.and_eq_true, decide_eq_true_eq] at hg
  simp only [beqn, ble0, Bool.true_and, Bool.and_true, Bool.and_self, cond_true, cond_false, and_false', or_true', hg.1, decide_true, BEq.rfl]
  simp only [r_newelref10_stops, Res.bool, ref_stops]
  cases h : chkR a0.floors none a0.stops <;> simp
  omega

theorem run_newelref10_Window (a0 : Window) : ∃ F d, run k87 F d 17 Tryz.f17 s_newelref10_Window (a0, ()) = some (r_newelref10_Window.enc (windowB a0)) := by
  refine ⟨200, 6, ?_⟩
  rw [tree_newelref10_Window]
  simp only [r_newelref10_Window, Res.bool, windowB, timedB, inB, and_false', or_true', some_false, dlt, dgt, dge, Bool.not_or, Bool.not_not]
  cases a0.kind == 1 <;> cases a0.kind == 2 <;> cases a0.kind == 3 <;> simp only [cond_true, cond_false, some_false, Bool.not_or, Bool.not_not, Bool.and_assoc, Bool.not_and, Bool.or_assoc]

theorem run_newelref10_times (a0 : Config) : ∃ F d, run k89 F d 35 Tryz.f35 s_newelref10_times (a0, ()) = some (r_newelref10_times.enc (timesC a0)) := by
  refine ⟨200, 6, ?_⟩
  rw [tree_newelref10_times]
  simp only [r_newelref10_times, Res.bool, timesC, tickB, inB, and_false', or_true', some_false, dlt, dgt, dge, Bool.not_or, Bool.not_not, Bool.and_assoc]

theorem run_newelref10_Check (a0 : Config) (hg : smallC a0 = true) : ∃ F d, run k93 F d 16 Tryz.f16 s_newelref10_Check (a0, ()) = some (r_newelref10_Check.enc (ref_Check a0)) := by
  refine ⟨200, 6, ?_⟩
  rw [tree_newelref10_Check]
  have hg' := hg
  simp only [smallC, Bool.and_eq_true, decide_eq_true_eq] at hg
  simp only [beqn, ble0, Bool.true_and, Bool.and_true, Bool.and_self, cond_true, cond_false, and_false', or_true', hg', hg.2, decide_true, BEq.rfl, Bool.true_or, Bool.or_true]
  simp only [r_newelref10_Check, Res.int, ref_Check, orE, ref_size, inB, dlt, dgt, dge, bne, errIf, config_windows, Bool.not_not, Bool.not_and, Bool.not_or]
  have hS : ∀ a b c d e f : Bool, (!a || !b || !c || !d || !e || f) = !(a && b && (c && d) && (e && !f)) := by decide
  rw [hS]
  generalize (decide (2 ≤ a0.floors) && decide (a0.floors ≤ 64) && (decide (1 ≤ a0.cars) && decide (a0.cars ≤ 8)) && (decide (0 ≤ a0.park) && !decide (a0.floors ≤ a0.park))) = S
  have hW : (!decide (((a0.windows.length : Nat) : Int) ≤ 16)) = decide (a0.windows.length > 16) := by rw [Bool.eq_iff_iff]; simp; omega
  rw [hW]
  simp only [config_times, errIf]
  cases S
  · rfl
  cases ref_stops a0
  · rfl
  cases timesC a0
  · rfl
  cases hz : (zone_Check a0.zone == 0)
  · rfl
  cases hu : (sunset_Check a0.sun == 0)
  · rfl
  cases decide (a0.windows.length > 16)
  · cases a0.windows.all windowB <;> rfl
  · rfl

theorem run_newelref06_Check (a0 : Zone) : ∃ F d, run k77 F d 36 Tryz.f36 s_newelref06_Check (a0, ()) = some (r_newelref06_Check.enc (zone_Check a0)) := by
  refine ⟨200, 6, ?_⟩
  rw [tree_newelref06_Check]
  simp only [r_newelref06_Check, Res.int, zone_Check, turnsB, turn_eq0, out_in]
  cases h1 : inB a0.base (-720) 840
  · rfl
  cases h2 : inB a0.shift 0 120
  · rfl
  cases h3 : a0.shift == 0
  · cases g1 : turnB a0.on
    · cases decide (IntKind.wrap IntKind.i64 (a0.on.month - a0.off.month) < 0) <;> rfl
    cases g2 : turnB a0.off
    · cases decide (IntKind.wrap IntKind.i64 (a0.on.month - a0.off.month) < 0) <;> rfl
    have b1 : inB a0.on.month 1 12 = true := by simp only [turnB, Bool.and_eq_true] at g1; exact g1.1.1.1
    have b2 : inB a0.off.month 1 12 = true := by simp only [turnB, Bool.and_eq_true] at g2; exact g2.1.1.1
    rw [wrap_sub b2 b1 (by omega) (by omega)]
    have b1' := inB_iff.1 b1
    have b2' := inB_iff.1 b2
    unfold apart
    by_cases h : a0.on.month ≤ a0.off.month
    · by_cases h' : a0.on.month = a0.off.month
      · simp [h', inB]
      · rw [if_pos h, IntWalk.i64_in (0 - (a0.on.month - a0.off.month)) (by omega), show decide (a0.on.month - a0.off.month < 0) = true by simp; omega, show 0 - (a0.on.month - a0.off.month) = a0.off.month - a0.on.month by omega]
        simp only [Bool.not_true, cond_true, cond_false, out_in, Bool.true_and]
        cases inB (a0.off.month - a0.on.month) 2 10 <;> rfl
    · rw [if_neg h, show decide (a0.on.month - a0.off.month < 0) = false by simp; omega]
      simp only [Bool.not_true, cond_true, cond_false, out_in, Bool.true_and]
      cases inB (a0.on.month - a0.off.month) 2 10 <;> rfl
  · cases decide (a0.on = turn0) <;> cases decide (a0.off = turn0) <;> rfl

theorem run_newelref07_Check (a0 : Sun) : ∃ F d, run k88 F d 37 Tryz.f37 s_newelref07_Check (a0, ()) = some (r_newelref07_Check.enc (sunset_Check a0)) := by
  refine ⟨200, 6, ?_⟩
  rw [tree_newelref07_Check]
  simp only [r_newelref07_Check, Res.int, sunset_Check, sunL, List.all_cons, List.all_nil, stepsB, List.cons_append, List.nil_append, out_in, two0, two1]
  cases h0 : inB a0.m0 900 1320
  · rfl
  cases h1 : inB a0.m1 900 1320
  · rfl
  cases h2 : inB a0.m2 900 1320
  · rfl
  cases h3 : inB a0.m3 900 1320
  · rfl
  cases h4 : inB a0.m4 900 1320
  · rfl
  cases h5 : inB a0.m5 900 1320
  · rfl
  cases h6 : inB a0.m6 900 1320
  · rfl
  cases h7 : inB a0.m7 900 1320
  · rfl
  cases h8 : inB a0.m8 900 1320
  · rfl
  cases h9 : inB a0.m9 900 1320
  · rfl
  cases h10 : inB a0.m10 900 1320
  · rfl
  cases h11 : inB a0.m11 900 1320
  · rfl
  simp only [ wrap_sub h0 h1 (by omega) (by omega), wrap_sub h1 h2 (by omega) (by omega), wrap_sub h2 h3 (by omega) (by omega), wrap_sub h3 h4 (by omega) (by omega), wrap_sub h4 h5 (by omega) (by omega), wrap_sub h5 h6 (by omega) (by omega), wrap_sub h6 h7 (by omega) (by omega), wrap_sub h7 h8 (by omega) (by omega), wrap_sub h8 h9 (by omega) (by omega), wrap_sub h9 h10 (by omega) (by omega), wrap_sub h10 h11 (by omega) (by omega), wrap_sub h11 h0 (by omega) (by omega), out_in']
  cases inB (a0.m1 - a0.m0) (-120) 120
  · rfl
  cases inB (a0.m2 - a0.m1) (-120) 120
  · rfl
  cases inB (a0.m3 - a0.m2) (-120) 120
  · rfl
  cases inB (a0.m4 - a0.m3) (-120) 120
  · rfl
  cases inB (a0.m5 - a0.m4) (-120) 120
  · rfl
  cases inB (a0.m6 - a0.m5) (-120) 120
  · rfl
  cases inB (a0.m7 - a0.m6) (-120) 120
  · rfl
  cases inB (a0.m8 - a0.m7) (-120) 120
  · rfl
  cases inB (a0.m9 - a0.m8) (-120) 120
  · rfl
  cases inB (a0.m10 - a0.m9) (-120) 120
  · rfl
  cases inB (a0.m11 - a0.m10) (-120) 120
  · rfl
  cases inB (a0.m0 - a0.m11) (-120) 120
  · rfl
  rfl

theorem go_rstops (l0 : List (Int)) (l1 : List (Window)) (v2_0 v2_1 v2_2 v2_4 v2_5 v2_6 v2_7 v2_8 v2_9 v2_10 v2_11 v2_12 v2_13 v2_14 v2_15 v2_16 v2_17 v2_18 v2_19 v2_20 v2_21 v2_22 v2_23 v2_24 v2_25 v2_26 v2_27 v2_28 v2_29 v2_30 v2_31 v2_32 v2_33 v2_34 : Int) (v2_35 : Bool) (v3 : Int) (F d : Nat) : ∀ (suf pre : List Int) (n : Nat), suf.length < n → (pre ++ suf).length ≤ 1048576 →
    I_rstops F (d + 3) n (S_rstops (pre ++ suf) l1 v2_0 v2_1 v2_2 v2_4 v2_5 v2_6 v2_7 v2_8 v2_9 v2_10 v2_11 v2_12 v2_13 v2_14 v2_15 v2_16 v2_17 v2_18 v2_19 v2_20 v2_21 v2_22 v2_23 v2_24 v2_25 v2_26 v2_27 v2_28 v2_29 v2_30 v2_31 v2_32 v2_33 v2_34 v2_35 ((pre.length : Nat) : Int)) = cond (chkR v2_0 pre.getLast? suf) (some (.exit 0, (X_rstops_1 (pre ++ suf) l1 v2_0 v2_1 v2_2 v2_4 v2_5 v2_6 v2_7 v2_8 v2_9 v2_10 v2_11 v2_12 v2_13 v2_14 v2_15 v2_16 v2_17 v2_18 v2_19 v2_20 v2_21 v2_22 v2_23 v2_24 v2_25 v2_26 v2_27 v2_28 v2_29 v2_30 v2_31 v2_32 v2_33 v2_34 v2_35))) (some (.ret, (X_rstops_0 (pre ++ suf) l1 v2_0 v2_1 v2_2 v2_4 v2_5 v2_6 v2_7 v2_8 v2_9 v2_10 v2_11 v2_12 v2_13 v2_14 v2_15 v2_16 v2_17 v2_18 v2_19 v2_20 v2_21 v2_22 v2_23 v2_24 v2_25 v2_26 v2_27 v2_28 v2_29 v2_30 v2_31 v2_32 v2_33 v2_34 v2_35))) := by
  intro suf
  induction suf with
  | nil =>
    intro pre n hn hl
    obtain ⟨n, rfl⟩ : ∃ k, n = k + 1 := ⟨n - 1, by omega⟩
    rw [step_rstops, idx_end, cond_false]
    cases pre.getLast? <;> rfl
  | cons x suf ih =>
    intro pre n hn hl
    obtain ⟨n, rfl⟩ : ∃ k, n = k + 1 := ⟨n - 1, by omega⟩
    have ih' := ih (pre ++ [x]) n (by simp at hn; omega) (by simpa using hl)
    have hpl : pre.length + (suf.length + 1) ≤ 1048576 := by simpa using hl
    rw [step_rstops]
    simp only [idx_lt, idx_ge, Bool.and_self, cond_true, idx_nat, idx_at, idx_next hl, Bool.true_or]
    rw [← idx_step] at ih'
    have hout : (bif decide (x < 0) then true else decide (x ≥ v2_0)) = !(decide (0 ≤ x) && decide (x < v2_0)) := by
      rw [Bool.eq_iff_iff]; simp; try omega
    rw [hout]
    rcases nil_or_snoc pre with rfl | ⟨q, p, rfl⟩
    · simp only [List.length_nil, show decide (((0 : Nat) : Int) > 0) = false from rfl, Bool.and_false, Bool.not_false, Bool.or_true, cond_true, cond_false, or_true', Bool.or_false, List.getLast?_nil]
      rw [show chkR v2_0 none (x :: suf) = ((decide (0 ≤ x) && decide (x < v2_0)) && chkR v2_0 (some x) suf) from rfl]
      cases (decide (0 ≤ x) && decide (x < v2_0))
      · rfl
      · simp only [Bool.not_true, Bool.true_and, cond_false]
        simpa using ih'
    · have hw : IntKind.wrap IntKind.i64 ((((q ++ [p]).length : Nat) : Int) - 1) = (((q ++ [p]).length : Nat) : Int) - 1 := IntWalk.i64_in _ (by simp at hpl ⊢; omega)
      have g1 : (decide (0 ≤ (((q ++ [p]).length : Nat) : Int) - 1) && decide ((((q ++ [p]).length : Nat) : Int) - 1 < (((q ++ [p] ++ x :: suf).length : Nat) : Int))) = true := by simp; omega
      have g2 : decide (0 + Int.toNat ((((q ++ [p]).length : Nat) : Int) - 1) < (q ++ [p] ++ x :: suf).length) = true := by simp
      have g3 : decide ((((q ++ [p]).length : Nat) : Int) > 0) = true := by simp; try omega
      rw [hw]
      simp only [g1, g2, g3, idx_last, Bool.true_or, cond_true]
      rw [show (q ++ [p]).getLast? = some p by simp, show chkR v2_0 (some p) (x :: suf) = ((decide (0 ≤ x) && decide (x < v2_0)) && decide (p < x) && chkR v2_0 (some x) suf) from rfl]
      cases (decide (0 ≤ x) && decide (x < v2_0))
      · rfl
      · have hd : decide (x ≤ p) = !decide (p < x) := by rw [Bool.eq_iff_iff]; simp
        rw [hd]
        cases decide (p < x)
        · rfl
        · simp only [Bool.not_true, Bool.true_and, cond_false, Bool.and_true]
          simpa using ih'

theorem main_rstops (l0 : List (Int)) (l1 : List (Window)) (v2_0 v2_1 v2_2 v2_4 v2_5 v2_6 v2_7 v2_8 v2_9 v2_10 v2_11 v2_12 v2_13 v2_14 v2_15 v2_16 v2_17 v2_18 v2_19 v2_20 v2_21 v2_22 v2_23 v2_24 v2_25 v2_26 v2_27 v2_28 v2_29 v2_30 v2_31 v2_32 v2_33 v2_34 : Int) (v2_35 : Bool) (v3 : Int) (hg : (decide (l0.length ≤ 1048576) && v3 == 0) = true) : ∃ N d, I_rstops N d N (S_rstops l0 l1 v2_0 v2_1 v2_2 v2_4 v2_5 v2_6 v2_7 v2_8 v2_9 v2_10 v2_11 v2_12 v2_13 v2_14 v2_15 v2_16 v2_17 v2_18 v2_19 v2_20 v2_21 v2_22 v2_23 v2_24 v2_25 v2_26 v2_27 v2_28 v2_29 v2_30 v2_31 v2_32 v2_33 v2_34 v2_35 v3) = some (altK Prod.mk [(chkR v2_0 none l0, .exit 0, (X_rstops_1 l0 l1 v2_0 v2_1 v2_2 v2_4 v2_5 v2_6 v2_7 v2_8 v2_9 v2_10 v2_11 v2_12 v2_13 v2_14 v2_15 v2_16 v2_17 v2_18 v2_19 v2_20 v2_21 v2_22 v2_23 v2_24 v2_25 v2_26 v2_27 v2_28 v2_29 v2_30 v2_31 v2_32 v2_33 v2_34 v2_35))] (.ret) (X_rstops_0 l0 l1 v2_0 v2_1 v2_2 v2_4 v2_5 v2_6 v2_7 v2_8 v2_9 v2_10 v2_11 v2_12 v2_13 v2_14 v2_15 v2_16 v2_17 v2_18 v2_19 v2_20 v2_21 v2_22 v2_23 v2_24 v2_25 v2_26 v2_27 v2_28 v2_29 v2_30 v2_31 v2_32 v2_33 v2_34 v2_35)) := by
  simp only [Bool.and_eq_true, decide_eq_true_eq, beq_iff_eq] at hg
  obtain ⟨h1, rfl⟩ := hg
  have := go_rstops l0 l1 v2_0 v2_1 v2_2 v2_4 v2_5 v2_6 v2_7 v2_8 v2_9 v2_10 v2_11 v2_12 v2_13 v2_14 v2_15 v2_16 v2_17 v2_18 v2_19 v2_20 v2_21 v2_22 v2_23 v2_24 v2_25 v2_26 v2_27 v2_28 v2_29 v2_30 v2_31 v2_32 v2_33 v2_34 v2_35 0 (l0.length + 3) 0 l0 [] (l0.length + 3) (by omega) (by simpa using h1)
  refine ⟨l0.length + 3, 3, ?_⟩
  simp only [List.nil_append, List.length_nil, List.getLast?_nil] at this
  rw [show ((0 : Nat) : Int) = 0 from rfl] at this
  rw [this]
  cases h : chkR v2_0 none l0 <;> simp [altK, h]

theorem chkG_congr {f g : Int → Bool} (h : ∀ x, f x = g x) : ∀ (l : List Int) (p : Option Int), chkG f p l = chkG g p l
  | [], p => by cases p <;> rfl
  | x :: l, none => by simp only [chkG, h, chkG_congr h l]
  | x :: l, some p => by simp only [chkG, h, chkG_congr h l]

theorem ref_Check_eq (c : Config) : ref_Check c = config_Check c := by
  unfold ref_Check config_Check
  by_cases hf : 2 ≤ c.floors ∧ c.floors ≤ 64
  · have hw : IntKind.i64.wrap (c.floors - 1) = c.floors - 1 := IntWalk.i64_in _ (by omega)
    have h1 : ref_size c = sizeB c := by
      unfold ref_size sizeB
      rw [hw]
      congr 1
      rw [Bool.eq_iff_iff]
      simp [inB]
      omega
    have h2 : ref_stops c = stopsB c := by
      unfold ref_stops stopsB chkR chkS
      rw [hw]
      congr 1
      refine chkG_congr (fun x => ?_) _ _
      rw [Bool.eq_iff_iff]
      simp [inB]
      omega
    rw [h1, h2]
    rfl
  · have h0 : inB c.floors 2 64 = false := by
      rw [Bool.eq_false_iff]
      intro h
      exact hf (inB_iff.1 h)
    have h1 : ref_size c = false := by simp [ref_size, h0]
    have h2 : sizeB c = false := by simp [sizeB, h0]
    simp [config_size, h1, h2, errIf, orE]

theorem win_code (w : Window) : ((config_Window w == 0) = windowB w) ∧ (config_Window w = 0 ∨ config_Window w = 104) := by
  unfold config_Window
  cases windowB w
  · exact ⟨rfl, .inr rfl⟩
  · exact ⟨rfl, .inl rfl⟩

theorem tdiv_mod {a b : Int} (hb : 1 ≤ b) : (a.tmod b = 0 ∨ 0 ≤ a → a / b = a.tdiv b) ∧ (a.tmod b ≠ 0 → a < 0 → a / b = a.tdiv b - 1) := by
  obtain ⟨d1, d2, d3, d4⟩ := div_down (a := a) (b := b) hb
  refine ⟨fun h => (d2 ?_).1, fun h1 h2 => (d1 ?_).1⟩
  · rcases h with h | h
    · omega
    · exact Int.tmod_nonneg b h
  · have hn := Int.tmod_nonneg b (show 0 ≤ -a by omega)
    rw [Int.neg_tmod] at hn
    omega

theorem run_newelref01_Div (a0 : Int) (a1 : Int) (hg : divOk a0 a1 = true) : ∃ F d, run k62 F d 61 Tryz.f61 s_newelref01_Div (a0, a1, ()) = some (r_newelref01_Div.enc (rDiv a0 a1)) := by
  refine ⟨200, 6, ?_⟩
  rw [tree_newelref01_Div]
  simp only [divOk, byB, big, Bool.and_eq_true, decide_eq_true_eq] at hg
  have e2 : (a1 != 0) = true := by rw [bne_iff_ne]; omega
  obtain ⟨t1, t2⟩ := tdiv_mod (a := a0) (b := a1) (by omega)
  obtain ⟨q1, q2⟩ := div_big (a := a0) (b := a1) (K := 1000000000000) (by omega) (by omega) (by omega) (by omega)
  simp only [e2, cond_true]
  by_cases h : a0.tmod a1 = 0
  · have f := t1 (.inl h)
    rw [show (a0.tmod a1 != 0) = false by rw [h]; rfl, cond_false, cond_false, ← f, wrI (by omega)]
    rfl
  · rw [show (a0.tmod a1 != 0) = true by rw [bne_iff_ne]; exact h, cond_true]
    by_cases hn : a0 < 0
    · have f := t2 h hn
      rw [decide_eq_true hn, cond_true, wrI (n := a0.tdiv a1) (by omega), wrI (by omega), ← f]
      rfl
    · have f := t1 (.inr (by omega))
      rw [decide_eq_false hn, cond_false, ← f, wrI (by omega)]
      rfl

theorem run_newelref01_Mod (a0 : Int) (a1 : Int) (hg : divOk a0 a1 = true) : ∃ F d, run k63 F d 54 Tryz.f54 s_newelref01_Mod (a0, a1, ()) = some (r_newelref01_Mod.enc (rMod a0 a1)) := by
  refine ⟨200, 6, ?_⟩
  rw [tree_newelref01_Mod]
  simp only [divOk, byB, big, Bool.and_eq_true, decide_eq_true_eq] at hg
  have e2 : (a1 != 0) = true := by rw [bne_iff_ne]; omega
  obtain ⟨d1, d2, d3, d4⟩ := div_down (a := a0) (b := a1) (by omega)
  simp only [e2, cond_true]
  by_cases h : a0.tmod a1 < 0
  · rw [decide_eq_true h, cond_true, wrI (by omega), ← (d1 h).2]
    rfl
  · rw [decide_eq_false h, cond_false, ← (d2 (by omega)).2]
    rfl

theorem run_newelref02_Leap (a0 : Int) : ∃ F d, run k64 F d 75 Tryz.f75 s_newelref02_Leap (a0, ()) = some (r_newelref02_Leap.enc (leapG a0)) := by
  refine ⟨200, 6, ?_⟩
  rw [tree_newelref02_Leap]
  simp only [r_newelref02_Leap, Res.bool, leapG]
  cases h1 : Int.tmod a0 4 == 0 <;> cases h2 : Int.tmod a0 100 != 0 <;> cases h3 : Int.tmod a0 400 == 0 <;> rfl

theorem run_newelref02_long (a0 : Int) : ∃ F d, run k65 F d 74 Tryz.f74 s_newelref02_long (a0, ()) = some (r_newelref02_long.enc (rLong a0)) := by
  refine ⟨200, 6, ?_⟩
  rw [tree_newelref02_long]
  simp only [r_newelref02_long, Res.int, rLong]
  cases leapG a0 <;> rfl

theorem run_newelref02_Days (a0 : Int) (a1 : Int) : ∃ F d, run k66 F d 62 Tryz.f62 s_newelref02_Days (a0, a1, ()) = some (r_newelref02_Days.enc (daysG a0 a1)) := by
  refine ⟨200, 6, ?_⟩
  rw [tree_newelref02_Days]
  simp only [r_newelref02_Days, Res.int, daysG]
  have hc : (bif bif bif decide (a0 < 1) then true else decide (a0 > 9999) then true else decide (a1 < 1) then true else decide (a1 > 12)) = !monthB a0 a1 := by
    rw [Bool.eq_iff_iff]
    by_cases h1 : a0 < 1 <;> by_cases h2 : a0 > 9999 <;> by_cases h3 : a1 < 1 <;> by_cases h4 : a1 > 12 <;> simp [monthB, h1, h2, h3, h4] <;> omega
  rw [hc]
  cases hm : monthB a0 a1 with
  | false => rfl
  | true =>
    simp only [monthB, Bool.and_eq_true, decide_eq_true_eq] at hm
    simp only [Bool.not_true, cond_false, cond_true]
    have h12 : a1 = 1 ∨ a1 = 2 ∨ a1 = 3 ∨ a1 = 4 ∨ a1 = 5 ∨ a1 = 6 ∨ a1 = 7 ∨ a1 = 8 ∨ a1 = 9 ∨ a1 = 10 ∨ a1 = 11 ∨ a1 = 12 := by omega
    rcases h12 with rfl | rfl | rfl | rfl | rfl | rfl | rfl | rfl | rfl | rfl | rfl | rfl <;> cases leapG a0 <;> rfl

theorem go_yrs (v0_0 v0_1 v0_2 v0 v3 : Int) (F d : Nat) (N : Int) (h1 : 1 ≤ N) (h2 : N ≤ 3652059) : ∀ (m : Nat) (y : Int) (n : Nat), 1 ≤ y → y + m = yrG N → m < n →
    I_yrs F (d + 3) n (S_yrs v0_0 v0_1 v0_2 (N - beforeG y) y) = some (.exit 0, (X_yrs_0 v0_0 v0_1 v0_2 (N - beforeG (yrG N)) (yrG N))) := by
  obtain ⟨y1, y2, l1, l2, e1, e2⟩ := of_spec h1 h2
  intro m
  induction m with
  | zero =>
    intro y n hy hm hn
    obtain ⟨n, rfl⟩ : ∃ k, n = k + 1 := ⟨n - 1, by omega⟩
    have : y = yrG N := by omega
    subst this
    rw [step_yrs]
    have := long_before y1
    rw [show decide (N - beforeG (yrG N) > rLong (yrG N)) = false by simp; omega, cond_false]
  | succ m ih =>
    intro y n hy hm hn
    obtain ⟨n, rfl⟩ : ∃ k, n = k + 1 := ⟨n - 1, by omega⟩
    have hl := long_before hy
    have hb := beforeG_range (y := y) (by omega) (by omega)
    have hb' := beforeG_range (y := y + 1) (by omega) (by omega)
    have hmo := before_mono (y := y + 1) (z := yrG N) (by omega) (by omega)
    rw [step_yrs]
    rw [show decide (N - beforeG y > rLong y) = true by simp; omega, cond_true, wrI (n := N - beforeG y - rLong y) (by omega), wrI (n := y + 1) (by omega), show N - beforeG y - rLong y = N - beforeG (y + 1) by omega]
    exact ih (y + 1) n (by omega) (by omega) (by omega)

theorem main_yrs (v0_0 v0_1 v0_2 v0 v3 : Int) (hg : (v3 == 1 && dayOk v0) = true) : ∃ N d, I_yrs N d N (S_yrs v0_0 v0_1 v0_2 v0 v3) = some (altK Prod.mk [] (.exit 0) (X_yrs_0 v0_0 v0_1 v0_2 (v0 - beforeG (yrG v0)) (yrG v0))) := by
  simp only [Bool.and_eq_true, beq_iff_eq, dayOk_iff] at hg
  obtain ⟨rfl, h1, h2⟩ := hg
  obtain ⟨y1, y2, _⟩ := of_spec h1 h2
  have := go_yrs v0_0 v0_1 v0_2 v0 1 20000 0 v0 h1 h2 (yrG v0 - 1).toNat 1 20000 (by omega) (by omega) (by omega)
  rw [show v0 - beforeG 1 = v0 by rw [show beforeG 1 = 0 from rfl]; omega] at this
  exact ⟨20000, 3, this⟩

theorem monGo_le (y left : Int) : ∀ (k m : Nat), m ≤ monGo y left m k
  | 0, m => Nat.le_refl _
  | k + 1, m => by
    simp only [monGo]
    cases decide (left < sumG y m)
    · have := monGo_le y left k (m + 1); rw [cond_false]; omega
    · exact Nat.le_refl _

theorem go_mons (v0_0 v0_1 v0_2 v0 v3 v4 : Int) (F d : Nat) (R : Int) (h1 : 1 ≤ v3) (h2 : v3 ≤ 9999) (r1 : 1 ≤ R) (r2 : R ≤ rLong v3) : ∀ (k m : Nat) (n : Nat), 1 ≤ m → m + k = 12 → sumG v3 (m - 1) < R → k < n →
    I_mons F (d + 3) n (S_mons v0_0 v0_1 v0_2 (R - sumG v3 (m - 1)) v3 ((m : Nat) : Int)) = some (.exit 2, (X_mons_0 v0_0 v0_1 v0_2 (R - sumG v3 (monGo v3 (R - 1) m k - 1)) v3 ((monGo v3 (R - 1) m k : Nat) : Int))) := by
  intro k
  have hy := sum_year h1 h2
  induction k with
  | zero =>
    intro m n hm hk hs hn
    obtain ⟨n, rfl⟩ : ∃ k, n = k + 1 := ⟨n - 1, by omega⟩
    have : m = 12 := by omega
    subst this
    rw [step_mons]
    have e : sumG v3 12 = sumG v3 11 + daysG v3 12 := rfl
    rw [show decide (R - sumG v3 (12 - 1) > daysG v3 ((12 : Nat) : Int)) = false by simp; omega, cond_false]
    rfl
  | succ k ih =>
    intro m n hm hk hs hn
    obtain ⟨n, rfl⟩ : ∃ k, n = k + 1 := ⟨n - 1, by omega⟩
    have e : sumG v3 m = sumG v3 (m - 1) + daysG v3 (m : Int) := by
      obtain ⟨j, rfl⟩ : ∃ j, m = j + 1 := ⟨m - 1, by omega⟩
      simp only [sumG, Nat.add_sub_cancel]
      rfl
    have hr := sumG_range v3 (m - 1)
    have hr' := sumG_range v3 m
    have hL : rLong v3 ≤ 366 := by unfold rLong; cases leapG v3 <;> decide
    rw [step_mons]
    simp only [monGo]
    by_cases hc : R - 1 < sumG v3 m
    · rw [decide_eq_true hc, cond_true, show decide (R - sumG v3 (m - 1) > daysG v3 (m : Int)) = false by simp; omega, cond_false]
    · rw [decide_eq_false hc, cond_false, show decide (R - sumG v3 (m - 1) > daysG v3 (m : Int)) = true by simp; omega, cond_true, wrI (n := R - sumG v3 (m - 1) - daysG v3 (m : Int)) (by omega), wrI (n := (m : Int) + 1) (by omega)]
      have := ih (m + 1) n (by omega) (by omega) (by rw [Nat.add_sub_cancel]; omega) (by omega)
      rw [Nat.add_sub_cancel] at this
      rw [show R - sumG v3 (m - 1) - daysG v3 (m : Int) = R - sumG v3 m by omega, show (m : Int) + 1 = ((m + 1 : Nat) : Int) by omega]
      exact this

theorem main_mons (v0_0 v0_1 v0_2 v0 v3 v4 : Int) (hg : (v4 == 1 && (decide (1 ≤ v3) && (decide (v3 ≤ 9999) && (decide (1 ≤ v0) && decide (v0 ≤ rLong v3))))) = true) : ∃ N d, I_mons N d N (S_mons v0_0 v0_1 v0_2 v0 v3 v4) = some (altK Prod.mk [] (.exit 2) (X_mons_0 v0_0 v0_1 v0_2 (v0 - sumG v3 (monR v3 v0 - 1)) v3 ((monR v3 v0 : Nat) : Int))) := by
  simp only [Bool.and_eq_true, beq_iff_eq, decide_eq_true_eq] at hg
  obtain ⟨rfl, h1, h2, h3, h4⟩ := hg
  have := go_mons v0_0 v0_1 v0_2 v0 v3 1 200 0 v0 h1 h2 h3 h4 11 1 200 (by omega) (by omega) (by simp only [Nat.sub_self, sumG]; omega) (by omega)
  rw [show v0 - sumG v3 (1 - 1) = v0 by simp only [Nat.sub_self, sumG]; omega] at this
  exact ⟨200, 3, this⟩

theorem run_newelref02_Of (a0 : Int) (hg : dayOk a0 = true) : ∃ F d, run k69 F d 60 Tryz.f60 s_newelref02_Of (a0, ()) = some (r_newelref02_Of.enc (rOf a0)) := by
  refine ⟨200, 6, ?_⟩
  rw [tree_newelref02_Of]
  have h' := dayOk_iff.1 hg
  obtain ⟨y1, y2, l1, l2, e1, e2⟩ := of_spec h'.1 h'.2
  have hl := long_before y1
  rw [hg, show decide (1 ≤ yrG a0) = true by simpa using y1, show decide (yrG a0 ≤ 9999) = true by simpa using y2, show decide (1 ≤ a0 - beforeG (yrG a0)) = true by simp; omega, show decide (a0 - beforeG (yrG a0) ≤ rLong (yrG a0)) = true by simp; omega]
  simp only [Bool.and_self, cond_true]
  have hn : (decide (a0 < 1) || decide (a0 > 3652059)) = false := by simp; omega
  have hm : monR (yrG a0) (a0 - beforeG (yrG a0)) = monG a0 := by
    unfold monR monG
    rw [show a0 - beforeG (yrG a0) - 1 = lfG a0 by omega]
  simp only [r_newelref02_Of, rOf, ofG, hn, cond_false]
  rw [hm, show a0 - beforeG (yrG a0) - sumG (yrG a0) (monG a0 - 1) = lfG a0 - sumG (yrG a0) (monG a0 - 1) + 1 by omega]
  rfl

theorem go_dyrs (v0_0 v0_1 v0_2 v3 v4 : Int) (F d : Nat) (D : Int) (h1 : 1 ≤ v0_0) (h2 : v0_0 ≤ 10000) (hD : -100000 ≤ D ∧ D ≤ 100000) : ∀ (m : Nat) (y : Int) (n : Nat), 1 ≤ y → y + m = v0_0 → m < n →
    I_dyrs F (d + 3) n (S_dyrs v0_0 v0_1 v0_2 (D + beforeG y) y) = some (.exit 0, (X_dyrs_0 v0_0 v0_1 v0_2 (D + beforeG v0_0))) := by
  intro m
  induction m with
  | zero =>
    intro y n hy hm hn
    obtain ⟨n, rfl⟩ : ∃ k, n = k + 1 := ⟨n - 1, by omega⟩
    have : y = v0_0 := by omega
    subst this
    rw [step_dyrs, show decide (y < y) = false by simp, cond_false]
  | succ m ih =>
    intro y n hy hm hn
    obtain ⟨n, rfl⟩ : ∃ k, n = k + 1 := ⟨n - 1, by omega⟩
    have hl := long_before hy
    have hb := beforeG_range (y := y) (by omega) (by omega)
    have hb' := beforeG_range (y := y + 1) (by omega) (by omega)
    rw [step_dyrs, show decide (y < v0_0) = true by simp; omega, cond_true, wrI (n := D + beforeG y + rLong y) (by omega), wrI (n := y + 1) (by omega), show D + beforeG y + rLong y = D + beforeG (y + 1) by omega]
    exact ih (y + 1) n (by omega) (by omega) (by omega)

theorem main_dyrs (v0_0 v0_1 v0_2 v3 v4 : Int) (hg : (v4 == 1 && (lit v3 && yearB v0_0)) = true) : ∃ N d, I_dyrs N d N (S_dyrs v0_0 v0_1 v0_2 v3 v4) = some (altK Prod.mk [] (.exit 0) (X_dyrs_0 v0_0 v0_1 v0_2 (v3 + beforeG v0_0))) := by
  simp only [lit, yearB, Bool.and_eq_true, beq_iff_eq, decide_eq_true_eq] at hg
  obtain ⟨rfl, hD, h1, h2⟩ := hg
  have := go_dyrs v0_0 v0_1 v0_2 v3 1 20000 0 v3 h1 h2 hD (v0_0 - 1).toNat 1 20000 (by omega) (by omega) (by omega)
  rw [show v3 + beforeG 1 = v3 by rw [show beforeG 1 = 0 from rfl]; omega] at this
  exact ⟨20000, 3, this⟩

theorem go_dmon (v0_0 v0_1 v0_2 v3 v5 : Int) (F d : Nat) (D : Int) (h1 : 1 ≤ v0_1) (h2 : v0_1 ≤ 12) (hD : -1000000000000 ≤ D ∧ D ≤ 1000000000000) : ∀ (k m : Nat) (n : Nat), 1 ≤ m → (m : Int) + k = v0_1 → k < n →
    I_dmon F (d + 3) n (S_dmon v0_0 v0_1 v0_2 (D + sumG v0_0 (m - 1)) ((m : Nat) : Int)) = some (.exit 2, (X_dmon_0 v0_0 v0_1 v0_2 (D + sumG v0_0 (v0_1 - 1).toNat))) := by
  intro k
  induction k with
  | zero =>
    intro m n hm hk hn
    obtain ⟨n, rfl⟩ : ∃ k, n = k + 1 := ⟨n - 1, by omega⟩
    rw [step_dmon, show decide ((m : Int) < v0_1) = false by simp; omega, cond_false, show (v0_1 - 1).toNat = m - 1 by omega]
  | succ k ih =>
    intro m n hm hk hn
    obtain ⟨n, rfl⟩ : ∃ k, n = k + 1 := ⟨n - 1, by omega⟩
    have e : sumG v0_0 m = sumG v0_0 (m - 1) + daysG v0_0 (m : Int) := by
      obtain ⟨j, rfl⟩ : ∃ j, m = j + 1 := ⟨m - 1, by omega⟩
      simp only [sumG, Nat.add_sub_cancel]
      rfl
    have hr := sumG_range v0_0 m
    rw [step_dmon, show decide ((m : Int) < v0_1) = true by simp; omega, cond_true, wrI (n := D + sumG v0_0 (m - 1) + daysG v0_0 (m : Int)) (by omega), wrI (n := (m : Int) + 1) (by omega)]
    have := ih (m + 1) n (by omega) (by omega) (by omega)
    rw [Nat.add_sub_cancel] at this
    rw [show D + sumG v0_0 (m - 1) + daysG v0_0 (m : Int) = D + sumG v0_0 m by omega, show (m : Int) + 1 = ((m + 1 : Nat) : Int) by omega]
    exact this

theorem main_dmon (v0_0 v0_1 v0_2 v3 v5 : Int) (hg : (v5 == 1 && (big v3 && (decide (1 ≤ v0_1) && decide (v0_1 ≤ 12)))) = true) : ∃ N d, I_dmon N d N (S_dmon v0_0 v0_1 v0_2 v3 v5) = some (altK Prod.mk [] (.exit 2) (X_dmon_0 v0_0 v0_1 v0_2 (v3 + sumG v0_0 (v0_1 - 1).toNat))) := by
  simp only [big, Bool.and_eq_true, beq_iff_eq, decide_eq_true_eq] at hg
  obtain ⟨rfl, hD, h1, h2⟩ := hg
  have := go_dmon v0_0 v0_1 v0_2 v3 1 200 0 v3 h1 h2 hD (v0_1 - 1).toNat 1 200 (by omega) (by omega) (by omega)
  rw [show v3 + sumG v0_0 (1 - 1) = v3 by simp only [Nat.sub_self, sumG]; omega] at this
  exact ⟨200, 3, this⟩

theorem run_newelref02_Day (a0 : Date) (hg : dateOk a0 = true) : ∃ F d, run k72 F d 92 Tryz.f92 s_newelref02_Day (a0, ()) = some (r_newelref02_Day.enc (rDay a0)) := by
  refine ⟨200, 6, ?_⟩
  rw [tree_newelref02_Day]
  simp only [dateOk, monthB, Bool.and_eq_true, decide_eq_true_eq] at hg
  obtain ⟨⟨y1, y2, m1, m2⟩, hl⟩ := hg
  have hb := beforeG_range (y := a0.year) (by omega) (by omega)
  have hl' := hl
  simp only [lit, Bool.and_eq_true, decide_eq_true_eq] at hl'
  rw [hl, show yearB a0.year = true by simp only [yearB, Bool.and_eq_true, decide_eq_true_eq]; omega, show big (a0.day + beforeG a0.year) = true by simp only [big, Bool.and_eq_true, decide_eq_true_eq]; omega, show decide (1 ≤ a0.month) = true by simpa using m1, show decide (a0.month ≤ 12) = true by simpa using m2]
  rfl

theorem run_newelref02_Weekday (a0 : Int) (hg : midW a0 = true) : ∃ F d, run k73 F d 39 Tryz.f39 s_newelref02_Weekday (a0, ()) = some (r_newelref02_Weekday.enc (rWeekday a0)) := by
  refine ⟨200, 6, ?_⟩
  rw [tree_newelref02_Weekday]
  have h' := hg
  simp only [midW, mid, Bool.and_eq_true, decide_eq_true_eq] at h'
  rw [show divOk a0 7 = true by simp only [divOk, big, byB, Bool.and_eq_true, decide_eq_true_eq]; omega]
  rfl

def metI (o i : Int) : Int := (i + 6 - o) / 7

def lastI (f o i : Int) : Int := if metI o i = 0 then 0 else f + o + 7 * (metI o i - 1)

theorem met_hit {f w o i : Int} (ho : o = (w - f % 7) % 7) (hw : 0 ≤ w ∧ w ≤ 6) (hi : 0 ≤ i) (h : (f + i) % 7 = w) : metI o (i + 1) = metI o i + 1 ∧ lastI f o (i + 1) = f + i ∧ 0 ≤ metI o i ∧ i = o + 7 * metI o i := by
  have h0 : 0 ≤ o ∧ o ≤ 6 := by omega
  have h1 : (i - o) % 7 = 0 := by omega
  have h2 : o ≤ i := by omega
  have e : metI o (i + 1) = metI o i + 1 := by unfold metI; omega
  refine ⟨e, ?_, ?_, ?_⟩
  · unfold lastI
    rw [e]
    unfold metI
    split <;> omega
  · unfold metI; omega
  · unfold metI; omega

theorem met_miss {f w o i : Int} (ho : o = (w - f % 7) % 7) (hw : 0 ≤ w ∧ w ≤ 6) (hi : 0 ≤ i) (h : (f + i) % 7 ≠ w) : metI o (i + 1) = metI o i ∧ lastI f o (i + 1) = lastI f o i := by
  have h0 : 0 ≤ o ∧ o ≤ 6 := by omega
  have h1 : (i - o) % 7 ≠ 0 := by omega
  have e : metI o (i + 1) = metI o i := by unfold metI; omega
  exact ⟨e, by unfold lastI; rw [e]⟩

theorem go_rnthE (v0 v1 v2 v3 v10 v11 v12 v13 : Int) (F d : Nat) (hm : monthB v0 v1 = true) (hf : v10 = firstG v0 v1) (hw : 0 ≤ v2 ∧ v2 ≤ 6) (o : Int) (ho : o = (v2 - v10 % 7) % 7) (hk : v3 = -1 ∨ v3 > metI o (daysG v0 v1)) : ∀ (m : Nat) (i : Int) (n : Nat), 0 ≤ i → i + m = daysG v0 v1 → m < n →
    I_rnth F (d + 3) n (S_rnth v0 v1 v2 v3 v10 (metI o i) (lastI v10 o i) i) = some (.exit 0, (X_rnth_1 v3 (lastI v10 o (daysG v0 v1)))) := by
  have hd := days_month hm
  have hr := first_range hm
  intro m
  induction m with
  | zero =>
    intro i n hi hm' hn
    obtain ⟨n, rfl⟩ : ∃ k, n = k + 1 := ⟨n - 1, by omega⟩
    have : i = daysG v0 v1 := by omega
    subst this
    rw [step_rnth, show decide (daysG v0 v1 < daysG v0 v1) = false by simp, cond_false]
  | succ m ih =>
    intro i n hi hm' hn
    obtain ⟨n, rfl⟩ : ∃ k, n = k + 1 := ⟨n - 1, by omega⟩
    have hq : 0 ≤ o ∧ o ≤ 6 := by omega
    have hmi : 0 ≤ metI o i ∧ metI o i ≤ 5 ∧ metI o i ≤ metI o (daysG v0 v1) := by unfold metI; omega
    have hl := ih (i + 1) n (by omega) (by omega) (by omega)
    rw [step_rnth, show decide (i < daysG v0 v1) = true by simp; omega, cond_true, wrI (n := v10 + i) (by omega), wrI (n := i + 1) (by omega), wrI (n := metI o i + 1) (by omega)]
    rw [show midW (v10 + i) = true by simp only [midW, mid, Bool.and_eq_true, decide_eq_true_eq]; omega, Bool.and_self, cond_true]
    by_cases hc : (v10 + i) % 7 = v2
    · obtain ⟨e1, e2, e3, e4⟩ := met_hit ho hw hi hc
      rw [e1, e2] at hl
      have hmo : metI o (i + 1) ≤ metI o (daysG v0 v1) := by unfold metI; omega
      rw [show (rWeekday (v10 + i) != v2) = false by simp [rWeekday, hc], cond_false, show (metI o i + 1 == v3) = false by rw [beq_eq_false_iff_ne]; omega, cond_false]
      exact hl
    · obtain ⟨e1, e2⟩ := met_miss ho hw hi hc
      rw [e1, e2] at hl
      rw [show (rWeekday (v10 + i) != v2) = true by simp [rWeekday, hc], cond_true]
      exact hl

theorem go_rnthK (v0 v1 v2 v3 v10 v11 v12 v13 : Int) (F d : Nat) (hm : monthB v0 v1 = true) (hf : v10 = firstG v0 v1) (hw : 0 ≤ v2 ∧ v2 ≤ 6) (o : Int) (ho : o = (v2 - v10 % 7) % 7) (hk : 1 ≤ v3 ∧ v3 ≤ metI o (daysG v0 v1)) : ∀ (m : Nat) (i : Int) (n : Nat), 0 ≤ i → i + m = o + 7 * (v3 - 1) → m < n →
    I_rnth F (d + 3) n (S_rnth v0 v1 v2 v3 v10 (metI o i) (lastI v10 o i) i) = some (.ret, (X_rnth_0 v3 v10 (o + 7 * (v3 - 1)))) := by
  have hd := days_month hm
  have hr := first_range hm
  have hq : 0 ≤ o ∧ o ≤ 6 := by omega
  have hlt : o + 7 * (v3 - 1) < daysG v0 v1 := by have := hk.2; unfold metI at this; omega
  intro m
  induction m with
  | zero =>
    intro i n hi hm' hn
    obtain ⟨n, rfl⟩ : ∃ k, n = k + 1 := ⟨n - 1, by omega⟩
    have : i = o + 7 * (v3 - 1) := by omega
    subst this
    have hc : (v10 + (o + 7 * (v3 - 1))) % 7 = v2 := by omega
    obtain ⟨e1, e2, e3, e4⟩ := met_hit ho hw hi hc
    rw [step_rnth, show decide (o + 7 * (v3 - 1) < daysG v0 v1) = true by simp; omega, cond_true, wrI (n := v10 + (o + 7 * (v3 - 1))) (by omega), wrI (n := metI o (o + 7 * (v3 - 1)) + 1) (by omega)]
    rw [show midW (v10 + (o + 7 * (v3 - 1))) = true by simp only [midW, mid, Bool.and_eq_true, decide_eq_true_eq]; omega, Bool.and_self, cond_true]
    rw [show (rWeekday (v10 + (o + 7 * (v3 - 1))) != v2) = false by simp [rWeekday, hc], cond_false, show (metI o (o + 7 * (v3 - 1)) + 1 == v3) = true by rw [beq_iff_eq]; omega, cond_true]
  | succ m ih =>
    intro i n hi hm' hn
    obtain ⟨n, rfl⟩ : ∃ k, n = k + 1 := ⟨n - 1, by omega⟩
    have hmi : 0 ≤ metI o i ∧ metI o i ≤ 5 ∧ metI o i < v3 := by unfold metI; omega
    have hl := ih (i + 1) n (by omega) (by omega) (by omega)
    rw [step_rnth, show decide (i < daysG v0 v1) = true by simp; omega, cond_true, wrI (n := v10 + i) (by omega), wrI (n := i + 1) (by omega), wrI (n := metI o i + 1) (by omega)]
    rw [show midW (v10 + i) = true by simp only [midW, mid, Bool.and_eq_true, decide_eq_true_eq]; omega, Bool.and_self, cond_true]
    by_cases hc : (v10 + i) % 7 = v2
    · obtain ⟨e1, e2, e3, e4⟩ := met_hit ho hw hi hc
      rw [e1, e2] at hl
      rw [show (rWeekday (v10 + i) != v2) = false by simp [rWeekday, hc], cond_false, show (metI o i + 1 == v3) = false by rw [beq_eq_false_iff_ne]; omega, cond_false]
      exact hl
    · obtain ⟨e1, e2⟩ := met_miss ho hw hi hc
      rw [e1, e2] at hl
      rw [show (rWeekday (v10 + i) != v2) = true by simp [rWeekday, hc], cond_true]
      exact hl

theorem nth_good {w k : Int} (h : nthBad w k = false) : (0 ≤ w ∧ w ≤ 6) ∧ (k = -1 ∨ (1 ≤ k ∧ k ≤ 5)) := by
  simp only [nthBad, Bool.or_eq_false_iff, Bool.and_eq_false_iff, decide_eq_false_iff_not, bne_eq_false_iff_eq] at h
  obtain ⟨⟨w0, w1⟩, hk⟩ := h
  refine ⟨by omega, ?_⟩
  rcases hk with h | ⟨h1, h2⟩
  · exact .inl h
  · exact .inr (by omega)

theorem main_rnth (v0 v1 v2 v3 v10 v11 v12 v13 : Int) (hg : (v10 == firstG v0 v1 && (monthB v0 v1 && (!nthBad v2 v3 && (v11 == 0 && (v12 == 0 && v13 == 0))))) = true) : ∃ N d, I_rnth N d N (S_rnth v0 v1 v2 v3 v10 v11 v12 v13) = some (altK Prod.mk [(endN v3 (cntN v0 v1 v2), .exit 0, (X_rnth_1 v3 (fromG v0 v1 v2 + 7 * (cntN v0 v1 v2 - 1))))] (.ret) (X_rnth_0 v3 v10 (fromG v0 v1 v2 + 7 * (v3 - 1) - v10))) := by
  simp only [Bool.and_eq_true, beq_iff_eq, Bool.not_eq_true'] at hg
  obtain ⟨rfl, hm, hb, rfl, rfl, rfl⟩ := hg
  obtain ⟨hw, hk⟩ := nth_good hb
  have hd := days_month hm
  let o : Int := (v2 - firstG v0 v1 % 7) % 7
  have ho : o = (v2 - firstG v0 v1 % 7) % 7 := rfl
  have hq : 0 ≤ o ∧ o ≤ 6 := by omega
  have h0 : metI o 0 = 0 := by unfold metI; omega
  have hl0 : lastI (firstG v0 v1) o 0 = 0 := by unfold lastI; rw [if_pos h0]
  have hfr : fromG v0 v1 v2 = firstG v0 v1 + o := rfl
  have hcn : cntN v0 v1 v2 = metI o (daysG v0 v1) := by unfold cntN metI; rw [hfr]; omega
  have hme : 4 ≤ metI o (daysG v0 v1) := by unfold metI; omega
  refine ⟨200, 3, ?_⟩
  cases he : endN v3 (cntN v0 v1 v2) with
  | true =>
    have hk' : v3 = -1 ∨ v3 > metI o (daysG v0 v1) := by
      rw [hcn] at he
      simpa [endN] using he
    have := go_rnthE v0 v1 v2 v3 (firstG v0 v1) 0 0 0 200 0 hm rfl hw o ho hk' (daysG v0 v1).toNat 0 200 (by omega) (by omega) (by omega)
    rw [h0, hl0] at this
    rw [this]
    have hle : lastI (firstG v0 v1) o (daysG v0 v1) = fromG v0 v1 v2 + 7 * (cntN v0 v1 v2 - 1) := by unfold lastI; rw [if_neg (by omega), hcn, hfr]
    simp [altK, hle]
  | false =>
    have hk' : 1 ≤ v3 ∧ v3 ≤ metI o (daysG v0 v1) := by
      rw [hcn] at he
      simp [endN] at he
      omega
    have := go_rnthK v0 v1 v2 v3 (firstG v0 v1) 0 0 0 200 0 hm rfl hw o ho hk' (o + 7 * (v3 - 1)).toNat 0 200 (by omega) (by omega) (by omega)
    rw [h0, hl0] at this
    rw [this]
    simp [altK, hfr, show firstG v0 v1 + o + 7 * (v3 - 1) - firstG v0 v1 = o + 7 * (v3 - 1) by omega]

theorem run_newelref02_Nth (a0 : Int) (a1 : Int) (a2 : Int) (a3 : Int) : ∃ F d, run k75 F d 88 Tryz.f88 s_newelref02_Nth (a0, a1, a2, a3, ()) = some (r_newelref02_Nth.enc (nthG a0 a1 a2 a3)) := by
  refine ⟨200, 6, ?_⟩
  rw [tree_newelref02_Nth]
  unfold nthG
  cases hd : daysG a0 a1 == 0 with
  | true => rfl
  | false =>
    have hd0 : daysG a0 a1 ≠ 0 := by simpa using hd
    obtain ⟨y1, y2, m1, m2⟩ := (daysG_range a0 a1).2.2 hd0
    have hm : monthB a0 a1 = true := by simp only [monthB, Bool.and_eq_true, decide_eq_true_eq]; omega
    rw [cond_false, cond_false]
    rw [show (bif bif decide (a2 < 0) then true else decide (a2 > 6) then true else bif a3 != -1 then bif decide (a3 < 1) then true else decide (a3 > 5) else false) = nthBad a2 a3 by
      unfold nthBad
      cases decide (a2 < 0) <;> cases decide (a2 > 6) <;> cases (a3 != -1) <;> cases decide (a3 < 1) <;> rfl]
    cases hb : nthBad a2 a3 with
    | true => rfl
    | false =>
      obtain ⟨hw, hk⟩ := nth_good hb
      have hdm := days_month hm
      have hr := first_range hm
      have hf : rDay { year := a0, month := a1, day := 1 } = firstG a0 a1 := by unfold rDay firstG; simp only; omega
      have hfr : firstG a0 a1 ≤ fromG a0 a1 a2 ∧ fromG a0 a1 a2 ≤ firstG a0 a1 + 6 := by unfold fromG; omega
      rw [hf, show dateOk { year := a0, month := a1, day := 1 } = true by simp only [dateOk, hm, lit, Bool.true_and]; rfl, hm]
      simp only [beq_self_eq_true, Bool.not_false, Bool.and_self, cond_true, cond_false]
      have hc : (firstG a0 a1 + daysG a0 a1 - 1 - fromG a0 a1 a2) / 7 = cntN a0 a1 a2 - 1 := by unfold cntN; omega
      rcases hk with rfl | hk
      · rw [show endN (-1) (cntN a0 a1 a2) = true from rfl, cond_true, show ((-1 : Int) == -1) = true from rfl, cond_true, cond_true, hc, show 7 * (cntN a0 a1 a2 - 1) = (cntN a0 a1 a2 - 1) * 7 by omega]
        rfl
      · rw [show (a3 == -1) = false by rw [beq_eq_false_iff_ne]; omega]
        simp only [cond_false]
        have hcc : decide (fromG a0 a1 a2 + 7 * (a3 - 1) ≥ firstG a0 a1 + daysG a0 a1) = decide (a3 > cntN a0 a1 a2) := by
          rw [Bool.eq_iff_iff, decide_eq_true_eq, decide_eq_true_eq]; unfold cntN; omega
        rw [show endN a3 (cntN a0 a1 a2) = decide (a3 > cntN a0 a1 a2) by unfold endN; rw [show (a3 == -1) = false by rw [beq_eq_false_iff_ne]; omega, Bool.false_or], hcc]
        cases decide (a3 > cntN a0 a1 a2) with
        | true => rfl
        | false =>
          rw [cond_false, cond_false, show firstG a0 a1 + (fromG a0 a1 a2 + 7 * (a3 - 1) - firstG a0 a1) = fromG a0 a1 a2 + 7 * (a3 - 1) by omega, wrI (by omega)]
          rfl

theorem run_newelref06_When (a0 : Zone) (a1 : Turn) (a2 : Int) (hg : whenOk a0 a1 a2 = true) : ∃ F d, run k78 F d 82 Tryz.f82 s_newelref06_When (a0, a1, a2, ()) = some (r_newelref06_When.enc (whenG a0 a1 a2)) := by
  refine ⟨200, 6, ?_⟩
  rw [tree_newelref06_When]
  simp only [whenOk, lit, Bool.and_eq_true, decide_eq_true_eq] at hg
  simp only [r_newelref06_When, Res.int, whenG]
  have w : ∀ k, IntKind.wrap IntKind.i64 (IntKind.wrap IntKind.i64 (IntKind.wrap IntKind.i64 ((nthG a2 a1.month a1.weekday k).1 * 1440) + a1.minute) - a0.base) = (nthG a2 a1.month a1.weekday k).1 * 1440 + a1.minute - a0.base := fun k => by
    have := nth_range a2 a1.month a1.weekday k
    rw [wrI (n := (nthG a2 a1.month a1.weekday k).1 * 1440) (by omega), wrI (n := (nthG a2 a1.month a1.weekday k).1 * 1440 + a1.minute) (by omega), wrI (by omega)]
  rw [w, w]
  cases a1.week == 5 <;> rfl

theorem run_newelref06_Summer (a0 : Zone) (a1 : Int) (hg : summerOk a0 a1 = true) : ∃ F d, run k79 F d 72 Tryz.f72 s_newelref06_Summer (a0, a1, ()) = some (r_newelref06_Summer.enc (summerR a0 a1)) := by
  refine ⟨200, 6, ?_⟩
  rw [tree_newelref06_Summer]
  simp only [summerOk, shiftOk, turnsOk, Bool.and_eq_true] at hg
  obtain ⟨⟨⟨b1, b2, b3⟩, b4⟩, b5, b6⟩ := hg
  have b1' := b1
  simp only [lit, mid, Bool.and_eq_true, decide_eq_true_eq] at b1' b4
  simp only [r_newelref06_Summer, Res.bool, summerR]
  cases h0 : a0.shift == 0 with
  | true => rfl
  | false =>
    have w : IntKind.wrap IntKind.i64 (a1 + a0.base) = a1 + a0.base := wrI (by omega)
    have ho : divOk (a1 + a0.base) 1440 = true := by simp only [divOk, byB, big, Bool.and_eq_true, decide_eq_true_eq]; omega
    have k1 : ∀ y, whenOk a0 a0.on y = true := fun y => by simp only [whenOk, b1, b2, Bool.and_self]
    have k2 : ∀ y, whenOk a0 a0.off y = true := fun y => by simp only [whenOk, b1, b3, Bool.and_self]
    have hdv : rDiv (a1 + a0.base) 1440 = (a1 + a0.base) / 1440 := rfl
    have hy : (rOf ((a1 + a0.base) / 1440)).year = yearOf a0 a1 := rfl
    simp only [w, ho, hdv, b6, k1, k2, hy, Bool.and_self, Bool.true_and, cond_true, cond_false, ge_iff_le]
    cases decide (whenG a0 a0.on (yearOf a0 a1) < whenG a0 a0.off (yearOf a0 a1)) <;> cases decide (whenG a0 a0.on (yearOf a0 a1) ≤ a1) <;> cases decide (whenG a0 a0.off (yearOf a0 a1) ≤ a1) <;> rfl

theorem run_newelref06_Told (a0 : Zone) (a1 : Int) (hg : summerOk a0 a1 = true) : ∃ F d, run k80 F d 57 Tryz.f57 s_newelref06_Told (a0, a1, ()) = some (r_newelref06_Told.enc (toldR a0 a1)) := by
  refine ⟨200, 6, ?_⟩
  rw [tree_newelref06_Told]
  have hg' := hg
  simp only [summerOk, shiftOk, turnsOk, lit, mid, Bool.and_eq_true, decide_eq_true_eq] at hg'
  rw [hg]
  simp only [r_newelref06_Told, Res.int, toldR, Bool.and_self, cond_true]
  rw [wrI (n := a1 + a0.base) (by omega), wrI (n := a1 + a0.base + a0.shift) (by omega)]
  cases summerR a0 a1 <;> rfl

theorem run_newelref06_Instants (a0 : Zone) (a1 : Int) (a2 : Int) (hg : instRok a0 a1 a2 = true) : ∃ F d, runO k81 F d 41 Tryz.f41 s_newelref06_Instants r_newelref06_Instants (a0, a1, a2, ()) = some (instR a0 a1 a2) := by
  refine ⟨200, 6, ?_⟩
  rw [tree_newelref06_Instants]
  simp only [instRok, Bool.and_eq_true, decide_eq_true_eq] at hg
  obtain ⟨p3, p1, p1', p2, p2', g1, g2, g3, g4⟩ := hg
  unfold instR
  have w1 : IntKind.wrap IntKind.i64 (a1 * 1440) = a1 * 1440 := wrI (by omega)
  have w2 : IntKind.wrap IntKind.i64 (a1 * 1440 + a2) = a1 * 1440 + a2 := wrI (by omega)
  have w3 : IntKind.wrap IntKind.i64 (a1 * 1440 + a2 - a0.base) = a1 * 1440 + a2 - a0.base := wrI (by omega)
  have w4 : IntKind.wrap IntKind.i64 (a1 * 1440 + a2 - a0.base - a0.shift) = a1 * 1440 + a2 - a0.base - a0.shift := wrI (by omega)
  have hs : lit a0.shift = true := by simp only [lit, Bool.and_eq_true, decide_eq_true_eq]; omega
  have o1 : summerOk a0 (a1 * 1440 + a2 - a0.base) = true := by
    simp only [summerOk, shiftOk, p3, hs, mid, Bool.true_and, Bool.and_eq_true, decide_eq_true_eq, dayOk]; omega
  have o2 : summerOk a0 (a1 * 1440 + a2 - a0.base - a0.shift) = true := by
    simp only [summerOk, shiftOk, p3, hs, mid, Bool.true_and, Bool.and_eq_true, decide_eq_true_eq, dayOk]; omega
  simp only [w1, w2, w3, w4, o1, o2, Bool.and_self, Bool.true_and, Bool.true_or, cond_true]
  rw [show (bif decide (a0.shift > 0) then toldR a0 (a1 * 1440 + a2 - a0.base - a0.shift) == a1 * 1440 + a2 else false) = (decide (a0.shift > 0) && (toldR a0 (a1 * 1440 + a2 - a0.base - a0.shift) == a1 * 1440 + a2)) by cases decide (a0.shift > 0) <;> rfl]
  cases (decide (a0.shift > 0) && (toldR a0 (a1 * 1440 + a2 - a0.base - a0.shift) == a1 * 1440 + a2)) <;> cases toldR a0 (a1 * 1440 + a2 - a0.base) == a1 * 1440 + a2 <;> rfl

theorem run_newelref14_Day (a0 : Int) : ∃ F d, run k82 F d 18 Tryz.f18 s_newelref14_Day (a0, ()) = some (r_newelref14_Day.enc (day14 a0)) := by
  refine ⟨200, 6, ?_⟩
  rw [tree_newelref14_Day]
  simp only [r_newelref14_Day, Res.bool, day14]
  cases decide (a0 ≥ 402) <;> rfl

theorem go_rmom (l2 : List (Int)) (v0_0 v0_1 v0_2 v0_3 v0_4 v0_5 v0_6 v0_7 v0_8 v0_9 v7 : Int) (F d : Nat) (z : Zone) (hz : z = (⟨v0_0, v0_1, ⟨v0_2, v0_3, v0_4, v0_5⟩, ⟨v0_6, v0_7, v0_8, v0_9⟩⟩ : Zone)) (hc : zone_Check z = 0) : ∀ (k : Nat) (t : Int) (n : Nat), 578880 ≤ t → t + k ≤ 5258868000 → reachIn (rowR z) k t = true → k < n →
    I_rmom F (d + 3) n (S_rmom (rowR z t) v0_0 v0_1 v0_2 v0_3 v0_4 v0_5 v0_6 v0_7 v0_8 v0_9 t) = some (.exit 0, (X_rmom_0 (rowR z (whereIn (rowR z) k t)) v0_0 v0_1 v0_2 v0_3 v0_4 v0_5 v0_6 v0_7 v0_8 v0_9)) := by
  obtain ⟨z1, z2, z3, _⟩ := zone_facts hc
  have step : ∀ (t : Int) (n : Nat), 578880 ≤ t → t ≤ 5258868000 → I_rmom F (d + 3) (n + 1) (S_rmom (rowR z t) v0_0 v0_1 v0_2 v0_3 v0_4 v0_5 v0_6 v0_7 v0_8 v0_9 t) = cond (rowR z t).isEmpty (I_rmom F (d + 3) n (S_rmom (rowR z (t + 1)) v0_0 v0_1 v0_2 v0_3 v0_4 v0_5 v0_6 v0_7 v0_8 v0_9 (t + 1))) (some (.exit 0, (X_rmom_0 (rowR z t) v0_0 v0_1 v0_2 v0_3 v0_4 v0_5 v0_6 v0_7 v0_8 v0_9))) := by
    intro t n h0 h1
    have hl := len_pos (rowR z t)
    rw [step_rmom, hl.2.2.2, wrI (n := t + 1) (by omega)]
    have d3 := told_div (t := t + 1) (by omega)
    cases (rowR z t).isEmpty with
    | false => rfl
    | true =>
      rw [cond_true, cond_true]
      have e1 : IntKind.wrap IntKind.i64 (Int.tdiv (t + 1) 1440) = (t + 1) / 1440 := by
        rw [Int.tdiv_eq_ediv_of_nonneg (by omega)]; exact wrI (by omega)
      have e2 : Int.tmod (t + 1) 1440 = (t + 1) % 1440 := Int.tmod_eq_emod_of_nonneg (by omega)
      rw [e1, e2, ← hz]
      rw [show instRok z ((t + 1) / 1440) ((t + 1) % 1440) = true by simp only [instRok, z3, Bool.true_and, Bool.and_eq_true, decide_eq_true_eq]; omega]
      rw [show Nat.beq (instR z ((t + 1) / 1440) ((t + 1) % 1440)).length (instR z ((t + 1) / 1440) ((t + 1) % 1440)).length = true by simp]
      rfl
  intro k
  induction k with
  | zero =>
    intro t n h0 h1 hr hn
    obtain ⟨n, rfl⟩ : ∃ k, n = k + 1 := ⟨n - 1, by omega⟩
    rw [step t n h0 (by omega)]
    simp only [reachIn, Bool.not_eq_true'] at hr
    rw [hr]
    rfl
  | succ k ih =>
    intro t n h0 h1 hr hn
    obtain ⟨n, rfl⟩ : ∃ k, n = k + 1 := ⟨n - 1, by omega⟩
    rw [step t n h0 (by omega)]
    simp only [reachIn, Bool.or_eq_true, Bool.not_eq_true'] at hr
    simp only [whereIn]
    cases he : (rowR z t).isEmpty with
    | false => rfl
    | true =>
      rw [he] at hr
      rw [cond_true, cond_true]
      refine ih (t + 1) n (by omega) (by omega) ?_ (by omega)
      rcases hr with h | h
      · cases h
      · exact h

theorem main_rmom (l2 : List (Int)) (v0_0 v0_1 v0_2 v0_3 v0_4 v0_5 v0_6 v0_7 v0_8 v0_9 v7 : Int) (hg : (zone_Check (⟨v0_0, v0_1, ⟨v0_2, v0_3, v0_4, v0_5⟩, ⟨v0_6, v0_7, v0_8, v0_9⟩⟩ : Zone) == 0 && (toldOk v7 && (sameI l2 (rowR (⟨v0_0, v0_1, ⟨v0_2, v0_3, v0_4, v0_5⟩, ⟨v0_6, v0_7, v0_8, v0_9⟩⟩ : Zone) v7) && reachIn (rowR (⟨v0_0, v0_1, ⟨v0_2, v0_3, v0_4, v0_5⟩, ⟨v0_6, v0_7, v0_8, v0_9⟩⟩ : Zone)) 200 v7))) = true) : ∃ N d, I_rmom N d N (S_rmom l2 v0_0 v0_1 v0_2 v0_3 v0_4 v0_5 v0_6 v0_7 v0_8 v0_9 v7) = some (altK Prod.mk [] (.exit 0) (X_rmom_0 (rowR (⟨v0_0, v0_1, ⟨v0_2, v0_3, v0_4, v0_5⟩, ⟨v0_6, v0_7, v0_8, v0_9⟩⟩ : Zone) (whereIn (rowR (⟨v0_0, v0_1, ⟨v0_2, v0_3, v0_4, v0_5⟩, ⟨v0_6, v0_7, v0_8, v0_9⟩⟩ : Zone)) 200 v7)) v0_0 v0_1 v0_2 v0_3 v0_4 v0_5 v0_6 v0_7 v0_8 v0_9)) := by
  simp only [Bool.and_eq_true, beq_iff_eq, sameI, decide_eq_true_eq] at hg
  obtain ⟨h1, h2, rfl, h3⟩ := hg
  simp only [toldOk, Bool.and_eq_true, decide_eq_true_eq] at h2
  exact ⟨300, 3, go_rmom (rowR (⟨v0_0, v0_1, ⟨v0_2, v0_3, v0_4, v0_5⟩, ⟨v0_6, v0_7, v0_8, v0_9⟩⟩ : Zone) v7) v0_0 v0_1 v0_2 v0_3 v0_4 v0_5 v0_6 v0_7 v0_8 v0_9 v7 300 0 _ rfl h1 200 v7 300 (by omega) (by omega) h3 (by omega)⟩

theorem run_newelref14_Moment (a0 : Zone) (a1 : Int) (a2 : Int) (hg : momRok a0 a1 a2 = true) : ∃ F d, run k84 F d 20 Tryz.f20 s_newelref14_Moment (a0, a1, a2, ()) = some (r_newelref14_Moment.enc (momR a0 a1 a2)) := by
  refine ⟨200, 6, ?_⟩
  rw [tree_newelref14_Moment]
  simp only [momRok, Bool.and_eq_true, beq_iff_eq] at hg
  obtain ⟨hz, hm⟩ := hg
  obtain ⟨z1, z2, z3, _⟩ := zone_facts hz
  have ht := told_ok hm
  obtain ⟨hr, _, _⟩ := same_R hz ht
  have hf := where_found hr
  have ht' := ht
  simp only [toldOk, Bool.and_eq_true, decide_eq_true_eq] at ht'
  have hm' : 0 ≤ a2 ∧ a2 < 1440 := by
    simp only [momOk, Bool.and_eq_true, decide_eq_true_eq] at hm
    exact hm.2
  rw [wrI (n := a1 * 1440) (by omega), wrI (n := a1 * 1440 + a2) (by omega)]
  obtain ⟨d1, d2⟩ := told_div (t := a1 * 1440 + a2) (by omega) (by omega)
  rw [d1, d2]
  have hl := len_pos (rowR a0 (whereIn (rowR a0) 200 (a1 * 1440 + a2)))
  rw [show instRok a0 ((a1 * 1440 + a2) / 1440) ((a1 * 1440 + a2) % 1440) = true by simp only [instRok, z3, Bool.true_and, Bool.and_eq_true, decide_eq_true_eq]; omega]
  rw [show instR a0 ((a1 * 1440 + a2) / 1440) ((a1 * 1440 + a2) % 1440) = rowR a0 (a1 * 1440 + a2) from rfl, hz, ht, hr, hl.2.1, hl.2.2.1, hf]
  simp only [sameI, decide_true, beq_self_eq_true, Bool.and_self, Bool.not_false, cond_true]
  rw [show Nat.beq (rowR a0 (a1 * 1440 + a2)).length (rowR a0 (a1 * 1440 + a2)).length = true by simp]
  rfl
end Go.Proofs.YtgfinnhojeghhaaGreatDoor.Px.PxY
