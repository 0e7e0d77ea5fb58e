/- What is said of functions that other seats have, too. -/
import Derived.Test.YtfhepbbkggdlcaaGreatDoorPxTSteps
import Derived.Test.YtfhepbbkggdlcaaGreatDoorPxIdx
import Derived.Test.YtfhepbbkggdlcaaGreatDoorPxSpecGreg
set_option linter.unusedVariables false
set_option linter.unusedSimpArgs false
namespace Go.Proofs.YtfhepbbkggdlcaaGreatDoor.Px.PxT
open Go Go.Proofs
theorem go_stops (l0 : List (Int)) (l1 : List (Window)) (Q0 Q1 Q2 Q4 Q5 Q6 Q7 Q8 Q9 Q10 Q11 Q12 Q13 Q14 Q15 Q16 Q17 Q18 Q19 Q20 Q21 Q22 Q23 Q24 Q25 Q26 Q27 Q28 Q29 Q30 Q31 Q32 Q33 Q34 : Int) (Q35 v3 : Bool) (v12 v13 : Int) (F d : Nat) : ∀ (suf pre : List Int) (v : Bool) (n : Nat), suf.length < n → (pre ++ suf).length ≤ 1048576 →
  I_stops F (d + 3) n (S_stops (pre ++ suf) l1 Q0 Q1 Q2 Q4 Q5 Q6 Q7 Q8 Q9 Q10 Q11 Q12 Q13 Q14 Q15 Q16 Q17 Q18 Q19 Q20 Q21 Q22 Q23 Q24 Q25 Q26 Q27 Q28 Q29 Q30 Q31 Q32 Q33 Q34 Q35 v (((pre ++ suf).length : Nat) : Int) ((pre.length : Nat) : Int)) = some (.exit 0, (X_stops_0 (pre ++ suf) l1 Q0 Q1 Q2 Q4 Q5 Q6 Q7 Q8 Q9 Q10 Q11 Q12 Q13 Q14 Q15 Q16 Q17 Q18 Q19 Q20 Q21 Q22 Q23 Q24 Q25 Q26 Q27 Q28 Q29 Q30 Q31 Q32 Q33 Q34 Q35 (v && chkS (IntKind.i64.wrap (Q0 - 1)) pre.getLast? suf))) := by
 intro suf
 induction suf with
 | nil =>
  intro pre v n hn hl
  obtain ⟨n, rfl⟩ : ∃ k, n = k + 1 := ⟨n - 1, by omega⟩
  rw [step_stops, idx_end, cond_false]
  simp [chkG, chkS]
 | cons x suf ih =>
  intro pre v n hn hl
  obtain ⟨n, rfl⟩ : ∃ k, n = k + 1 := ⟨n - 1, by omega⟩
  have ih' := ih (pre ++ [x]) (v && (inB x 0 (IntKind.i64.wrap (Q0 - 1)) && (pre.length == 0 || decide (pre.getLast?.getD 0 < x)))) n (by simp at hn; omega) (by simpa using hl)
  have hpl : pre.length + (suf.length + 1) ≤ 1048576 := by simpa using hl
  rw [step_stops]
  simp only [idx_lt, idx_ge, Bool.and_self, cond_true, idx_nat, idx_at, idx_next hl]
  rw [← idx_step] at ih'
  have hacc : (bif bif v then inB x 0 (IntKind.wrap IntKind.i64 (Q0 - 1)) else false then bif ((pre.length : Nat) : Int) == 0 then true else decide (List.getD (pre ++ x :: suf) (0 + Int.toNat (IntKind.wrap IntKind.i64 ((pre.length : Int) - 1))) 0 < x) else false) = (v && (inB x 0 (IntKind.i64.wrap (Q0 - 1)) && (pre.length == 0 || decide (pre.getLast?.getD 0 < x)))) := by
   cases v
   ·rfl
   ·cases inB x 0 (IntKind.wrap IntKind.i64 (Q0 - 1))
    ·rfl
    ·rcases nil_or_snoc pre with rfl | ⟨q, p, rfl⟩
     ·simp
     ·rw [IntWalk.i64_in _ (by simp at hpl ⊢; omega), idx_last, idx_ne0]
      simp
  rw [hacc]
  have g1 : (decide (0 ≤ IntKind.wrap IntKind.i64 ((pre.length : Int) - 1)) && decide (IntKind.wrap IntKind.i64 ((pre.length : Int) - 1) < (((pre ++ x :: suf).length : Nat) : Int)) || !((bif v then inB x 0 (IntKind.wrap IntKind.i64 (Q0 - 1)) else false) && !((pre.length : Nat) : Int) == 0)) = true := by
   rcases nil_or_snoc pre with rfl | ⟨q, p, rfl⟩
   ·simp
   ·rw [IntWalk.i64_in _ (by simp at hpl ⊢; omega)]
    simp
    try omega
  have g2 : (decide (0 + Int.toNat (IntKind.wrap IntKind.i64 ((pre.length : Int) - 1)) < (pre ++ x :: suf).length) || !((bif v then inB x 0 (IntKind.wrap IntKind.i64 (Q0 - 1)) else false) && !((pre.length : Nat) : Int) == 0)) = true := by
   rcases nil_or_snoc pre with rfl | ⟨q, p, rfl⟩
   ·simp
   ·rw [IntWalk.i64_in _ (by simp at hpl ⊢; omega)]
    simp
    try omega
  rw [g1, cond_true, g2, cond_true]
  rw [ih']
  congr 3
  rcases nil_or_snoc pre with rfl | ⟨q, p, rfl⟩
  ·simp [chkG, chkS, Bool.and_assoc]
  ·simp [chkG, chkS, Bool.and_assoc]
theorem main_stops (l0 : List (Int)) (l1 : List (Window)) (Q0 Q1 Q2 Q4 Q5 Q6 Q7 Q8 Q9 Q10 Q11 Q12 Q13 Q14 Q15 Q16 Q17 Q18 Q19 Q20 Q21 Q22 Q23 Q24 Q25 Q26 Q27 Q28 Q29 Q30 Q31 Q32 Q33 Q34 : Int) (Q35 v3 : Bool) (v12 v13 : Int) (hg : (decide (l0.length ≤ 1048576) && (v12 == (l0.length : Int) && v13 == 0)) = true) : ∃ N d, I_stops N d N (S_stops l0 l1 Q0 Q1 Q2 Q4 Q5 Q6 Q7 Q8 Q9 Q10 Q11 Q12 Q13 Q14 Q15 Q16 Q17 Q18 Q19 Q20 Q21 Q22 Q23 Q24 Q25 Q26 Q27 Q28 Q29 Q30 Q31 Q32 Q33 Q34 Q35 v3 v12 v13) = some (altK Prod.mk [] (.exit 0) (X_stops_0 l0 l1 Q0 Q1 Q2 Q4 Q5 Q6 Q7 Q8 Q9 Q10 Q11 Q12 Q13 Q14 Q15 Q16 Q17 Q18 Q19 Q20 Q21 Q22 Q23 Q24 Q25 Q26 Q27 Q28 Q29 Q30 Q31 Q32 Q33 Q34 Q35 (v3 && chkS (IntKind.i64.wrap (Q0 - 1)) none l0))) := by
 simp only [Bool.and_eq_true, decide_eq_true_eq, beq_iff_eq] at hg
 obtain ⟨h1, rfl, rfl⟩ := hg
 have := go_stops l0 l1 Q0 Q1 Q2 Q4 Q5 Q6 Q7 Q8 Q9 Q10 Q11 Q12 Q13 Q14 Q15 Q16 Q17 Q18 Q19 Q20 Q21 Q22 Q23 Q24 Q25 Q26 Q27 Q28 Q29 Q30 Q31 Q32 Q33 Q34 Q35 v3 0 0 (l0.length + 3) 0 l0 [] v3 (l0.length + 3) (by omega) (by simpa using h1)
 exact ⟨l0.length + 3, 3, by simpa [altK] using this⟩
theorem go_wins (l0 : List (Int)) (l1 : List (Window)) (Q0 Q1 Q2 Q4 Q5 Q6 Q7 Q8 Q9 Q10 Q11 Q12 Q13 Q14 Q15 Q16 Q17 Q18 Q19 Q20 Q21 Q22 Q23 Q24 Q25 Q26 Q27 Q28 Q29 Q30 Q31 Q32 Q33 Q34 : Int) (Q35 : Bool) (v7 v8 : Int) (F d : Nat) : ∀ (suf pre : List Window) (n : Nat), suf.length < n → (pre ++ suf).length ≤ 1048576 →
  I_wins F (d + 3) n (S_wins l0 (pre ++ suf) Q0 Q1 Q2 Q4 Q5 Q6 Q7 Q8 Q9 Q10 Q11 Q12 Q13 Q14 Q15 Q16 Q17 Q18 Q19 Q20 Q21 Q22 Q23 Q24 Q25 Q26 Q27 Q28 Q29 Q30 Q31 Q32 Q33 Q34 Q35 (((pre ++ suf).length : Nat) : Int) ((pre.length : Nat) : Int)) = cond (suf.all windowB) (some (.exit 0, (X_wins_1 l0 (pre ++ suf) Q0 Q1 Q2 Q4 Q5 Q6 Q7 Q8 Q9 Q10 Q11 Q12 Q13 Q14 Q15 Q16 Q17 Q18 Q19 Q20 Q21 Q22 Q23 Q24 Q25 Q26 Q27 Q28 Q29 Q30 Q31 Q32 Q33 Q34 Q35))) (some (.ret, (X_wins_0 l0 (pre ++ suf) Q0 Q1 Q2 Q4 Q5 Q6 Q7 Q8 Q9 Q10 Q11 Q12 Q13 Q14 Q15 Q16 Q17 Q18 Q19 Q20 Q21 Q22 Q23 Q24 Q25 Q26 Q27 Q28 Q29 Q30 Q31 Q32 Q33 Q34 Q35 ((pre.length + suf.findIdx (fun w => !windowB w) : Nat) : Int)))) := by
 intro suf
 induction suf with
 | nil =>
  intro pre n hn hl
  obtain ⟨n, rfl⟩ : ∃ k, n = k + 1 := ⟨n - 1, by omega⟩
  rw [step_wins, idx_end, cond_false]
  rfl
 | cons x suf ih =>
  intro pre n hn hl
  obtain ⟨n, rfl⟩ : ∃ k, n = k + 1 := ⟨n - 1, by omega⟩
  have ih' := ih (pre ++ [x]) n (by simp at hn; omega) (by simpa using hl)
  rw [step_wins]
  simp only [idx_lt, idx_ge, Bool.and_self, cond_true, idx_nat, idx_at, idx_next hl]
  rw [← idx_step] at ih'
  cases hw : windowB x
  ·have : (config_Window x != 0) = true := by simp [config_Window, hw, errIf]
   rw [this, cond_true]
   simp [hw, List.findIdx_cons]
  ·have : (config_Window x != 0) = false := by simp [config_Window, hw, errIf]
   rw [this, cond_false, ih']
   simp only [List.all_cons, hw, Bool.true_and, List.findIdx_cons, Bool.not_true, cond_false, List.length_append, List.length_singleton]
   rw [show pre.length + 1 + suf.findIdx (fun w => !windowB w) = pre.length + (suf.findIdx (fun w => !windowB w) + 1) by omega]
theorem main_wins (l0 : List (Int)) (l1 : List (Window)) (Q0 Q1 Q2 Q4 Q5 Q6 Q7 Q8 Q9 Q10 Q11 Q12 Q13 Q14 Q15 Q16 Q17 Q18 Q19 Q20 Q21 Q22 Q23 Q24 Q25 Q26 Q27 Q28 Q29 Q30 Q31 Q32 Q33 Q34 : Int) (Q35 : Bool) (v7 v8 : Int) (hg : (decide (l1.length ≤ 1048576) && (v7 == (l1.length : Int) && v8 == 0)) = true) : ∃ N d, I_wins N d N (S_wins l0 l1 Q0 Q1 Q2 Q4 Q5 Q6 Q7 Q8 Q9 Q10 Q11 Q12 Q13 Q14 Q15 Q16 Q17 Q18 Q19 Q20 Q21 Q22 Q23 Q24 Q25 Q26 Q27 Q28 Q29 Q30 Q31 Q32 Q33 Q34 Q35 v7 v8) = some (altK Prod.mk [(l1.all windowB, .exit 0, (X_wins_1 l0 l1 Q0 Q1 Q2 Q4 Q5 Q6 Q7 Q8 Q9 Q10 Q11 Q12 Q13 Q14 Q15 Q16 Q17 Q18 Q19 Q20 Q21 Q22 Q23 Q24 Q25 Q26 Q27 Q28 Q29 Q30 Q31 Q32 Q33 Q34 Q35))] (.ret) (X_wins_0 l0 l1 Q0 Q1 Q2 Q4 Q5 Q6 Q7 Q8 Q9 Q10 Q11 Q12 Q13 Q14 Q15 Q16 Q17 Q18 Q19 Q20 Q21 Q22 Q23 Q24 Q25 Q26 Q27 Q28 Q29 Q30 Q31 Q32 Q33 Q34 Q35 (firstBad l1))) := by
 simp only [Bool.and_eq_true, decide_eq_true_eq, beq_iff_eq] at hg
 obtain ⟨h1, rfl, rfl⟩ := hg
 have := go_wins l0 l1 Q0 Q1 Q2 Q4 Q5 Q6 Q7 Q8 Q9 Q10 Q11 Q12 Q13 Q14 Q15 Q16 Q17 Q18 Q19 Q20 Q21 Q22 Q23 Q24 Q25 Q26 Q27 Q28 Q29 Q30 Q31 Q32 Q33 Q34 Q35 0 0 (l1.length + 3) 0 l1 [] (l1.length + 3) (by omega) (by simpa using h1)
 refine ⟨l1.length + 3, 3, ?_⟩
 simp only [List.nil_append, List.length_nil, Nat.zero_add] at this
 rw [show ((0 : Nat) : Int) = 0 from rfl] at this
 rw [this]
 cases h : l1.all windowB <;> simp [altK, h, firstBad]
theorem run_config_must (a0 : Bool) (a1 : Int) : ∃ F d, run k21 F d 88 Tryz.f88 s_config_must (a0, a1, ()) = some (r_config_must.enc (errIf a0 a1)) := by
 refine ⟨200, 6, ?_⟩
 rw [tree_config_must]
 cases a0 <;> rfl
theorem run_config_size (a0 : Config) : ∃ F d, run k23 F d 57 Tryz.f57 s_config_size (a0, ()) = some (r_config_size.enc (config_size a0)) := by
 refine ⟨200, 6, ?_⟩
 rw [tree_config_size]
 simp only [r_config_size, Res.int, config_size, sizeB, beqn, ble0, Bool.true_and, Bool.and_true, Bool.and_self, cond_true, cond_false, and_false', or_true']
theorem run_config_stops (a0 : Config) (hg : smallC a0 = true) : ∃ F d, run k25 F d 58 Tryz.f58 s_config_stops (a0, ()) = some (r_config_stops.enc (config_stops a0)) := by
 refine ⟨200, 6, ?_⟩
 rw [tree_config_stops]
 simp only [smallC, Bool.and_eq_true, decide_eq_true_eq] at hg
 simp only [beqn, ble0, Bool.true_and, Bool.and_true, Bool.and_self, cond_true, cond_false, and_false', or_true', hg.1, decide_true, BEq.rfl]
 simp only [r_config_stops, Res.int, config_stops, stopsB]
 congr 5
 simp
 omega
theorem run_config_windows (a0 : Config) (hg : smallC a0 = true) : ∃ F d, run k29 F d 63 Tryz.f63 s_config_windows (a0, ()) = some (r_config_windows.enc (config_windows a0)) := by
 refine ⟨200, 6, ?_⟩
 rw [tree_config_windows]
 simp only [smallC, Bool.and_eq_true, decide_eq_true_eq] at hg
 simp only [beqn, ble0, Bool.true_and, Bool.and_true, Bool.and_self, cond_true, cond_false, and_false', or_true', hg.2, decide_true, BEq.rfl]
 simp only [r_config_windows, Res.int, config_windows, errIf]
 by_cases h : a0.windows.length > 16
 ·simp [h, show ((a0.windows.length : Nat) : Int) > 16 by omega]
 ·simp only [h, show ¬ ((a0.windows.length : Nat) : Int) > 16 by omega, decide_false, cond_false]
  cases a0.windows.all windowB <;> rfl
theorem run_config_Check (a0 : Config) (hg : smallC a0 = true) : ∃ F d, run k30 F d 27 Tryz.f27 s_config_Check (a0, ()) = some (r_config_Check.enc (config_Check a0)) := by
 refine ⟨200, 6, ?_⟩
 rw [tree_config_Check]
 simp only [beqn, ble0, Bool.true_and, Bool.and_true, Bool.and_self, cond_true, cond_false, and_false', or_true', hg]
 simp only [r_config_Check, Res.int, config_Check, orE, bne]
 cases h1 : (config_size a0 == 0) <;> cases h2 : (config_stops a0 == 0) <;> cases h3 : (config_times a0 == 0) <;> cases h4 : (zone_Check a0.zone == 0) <;> cases h5 : (sunset_Check a0.sun == 0) <;> cases h6 : (config_windows a0 == 0) <;> simp_all
theorem run_newelref10_Few (a0 : Config) : ∃ F d, run k31 F d 9 Tryz.f9 s_newelref10_Few (a0, ()) = some (r_newelref10_Few.enc (few10 a0)) := by
 refine ⟨200, 6, ?_⟩
 rw [tree_newelref10_Few]
 simp only [r_newelref10_Few, Res.bool, few10, and_false']
 refine congrArg (fun b => some (AV.bool b)) ?_
 rw [Bool.eq_iff_iff]
 simp
 omega
theorem run_config_Window (a0 : Window) : ∃ F d, run k22 F d 92 Tryz.f92 s_config_Window (a0, ()) = some (r_config_Window.enc (config_Window a0)) := by
 refine ⟨200, 6, ?_⟩
 rw [tree_config_Window]
 simp only [r_config_Window, Res.int, config_Window, windowB, timedB, and_false', or_true', errK]
 cases a0.kind == 1 <;> cases a0.kind == 2 <;> cases a0.kind == 3 <;> cases a0.kind == 4 <;> simp only [cond_true, cond_false, Bool.and_assoc, Bool.true_and, Bool.false_and, Bool.and_false] <;> rfl
theorem run_config_times (a0 : Config) : ∃ F d, run k26 F d 59 Tryz.f59 s_config_times (a0, ()) = some (r_config_times.enc (config_times a0)) := by
 refine ⟨200, 6, ?_⟩
 rw [tree_config_times]
 simp only [r_config_times, Res.int, config_times]
 congr 3
 simp only [timesC, tickB, inB, and_false', or_true', Bool.cond_eq_ite]
 rw [Bool.eq_iff_iff]
 simp only [Bool.and_eq_true, decide_eq_true_eq]
 (repeat' split) <;> simp_all <;> omega
theorem run_newellaw10_Own (a0 : Config) (hg : smallC a0 = true) : ∃ F d, runO k32 F d 12 Tryz.f12 s_newellaw10_Own r_newellaw10_Own (a0, ()) = some (own10 a0) := by
 refine ⟨200, 6, ?_⟩
 rw [tree_newellaw10_Own]
 simp only [smallC, Bool.and_eq_true, decide_eq_true_eq] at hg
 have e1 : Nat.ble a0.stops.length 1048576 = true := by simpa using hg.1
 have e2 : Nat.ble a0.windows.length 1048576 = true := by simpa using hg.2
 simp only [beqn, ble0, Bool.true_and, Bool.and_true, Bool.and_self, cond_true, cond_false, and_false', or_true', e1, e2, List.nil_append, own10]
theorem out_in (x a b : Int) : (bif decide (x < a) then true else decide (x > b)) = !inB x a b := by
 rw [Bool.eq_iff_iff]; simp [inB]; try omega
theorem out_in' (x a b : Int) : (bif decide (x > b) then true else decide (x < a)) = !inB x a b := by
 rw [Bool.eq_iff_iff]; simp [inB]; try omega
theorem wrap_sub {x y a b : Int} (hx : inB x a b = true) (hy : inB y a b = true) (h : -10000 ≤ a) (h' : b ≤ 10000) : IntKind.wrap IntKind.i64 (y - x) = y - x := by
 rw [inB_iff] at hx hy
 exact IntWalk.i64_in _ (by omega)
theorem two0 (x y : Int) : List.getD [x, y] 0 0 = x := rfl
theorem two1 (x y : Int) : List.getD [x, y] 1 0 = y := rfl
theorem turn_eq0 (x : Turn) : (Turn.month x == 0 && (Turn.week x == 0 && (Turn.weekday x == 0 && (Turn.minute x == 0 && true)))) = decide (x = turn0) := by
 cases x; rw [Bool.eq_iff_iff]; simp [turn0]
theorem max_min {x y : Int} (hx : inB x 1 12 = true) (hy : inB y 1 12 = true) : inB (IntKind.wrap IntKind.i64 ((bif decide (y > x) then y else x) - bif decide (y < x) then y else x)) 2 10 = inB (apart x y) 2 10 := by
 rw [inB_iff] at hx hy
 unfold apart
 by_cases h : x ≤ y
 ·by_cases h2 : y ≤ x
  ·have : x = y := by omega
   subst this
   simp [IntKind.wrap, IntKind.bits, IntKind.signed, inB]
  ·simp only [show y > x by omega, show ¬ y < x by omega, decide_true, decide_false, cond_true, cond_false, if_pos h]
   rw [IntWalk.i64_in _ (by omega)]
 ·simp only [show ¬ y > x by omega, show y < x by omega, decide_true, decide_false, cond_true, cond_false, if_neg h]
  rw [IntWalk.i64_in _ (by omega)]
theorem run_zone_Check (a0 : Zone) : ∃ F d, run k12 F d 51 Tryz.f51 s_zone_Check (a0, ()) = some (r_zone_Check.enc (zone_Check a0)) := by
 refine ⟨200, 6, ?_⟩
 rw [tree_zone_Check]
 simp only [r_zone_Check, Res.int, zone_Check, turnsB, turnB, turn_eq0]
 cases h1 : inB a0.base (-720) 840
 ·rfl
 cases h2 : inB a0.shift 0 120
 ·rfl
 have h2' := inB_iff.1 h2
 by_cases h3 : a0.shift = 0
 ·simp only [h3, show decide ((0 : Int) > 0) = false from rfl, show ((0 : Int) == 0) = true from rfl]
  cases decide (a0.on = turn0) <;> cases decide (a0.off = turn0) <;> rfl
 ·have e1 : decide (a0.shift > 0) = true := by simp; omega
  have e2 : (a0.shift == 0) = false := by simp; omega
  rw [e1, e2]
  cases g1 : inB a0.on.month 1 12
  ·rfl
  cases g2 : inB a0.on.week 1 5
  ·rfl
  cases g3 : inB a0.on.weekday 0 6
  ·rfl
  cases g4 : inB a0.on.minute 0 1439
  ·rfl
  cases g5 : inB a0.off.month 1 12
  ·rfl
  cases g6 : inB a0.off.week 1 5
  ·rfl
  cases g7 : inB a0.off.weekday 0 6
  ·rfl
  cases g8 : inB a0.off.minute 0 1439
  ·rfl
  rw [max_min g1 g5]
  cases inB (apart a0.on.month a0.off.month) 2 10 <;> rfl
theorem run_sunset_Check (a0 : Sun) : ∃ F d, run k27 F d 62 Tryz.f62 s_sunset_Check (a0, ()) = some (r_sunset_Check.enc (sunset_Check a0)) := by
 refine ⟨200, 6, ?_⟩
 rw [tree_sunset_Check]
 simp only [r_sunset_Check, Res.int, sunset_Check, sunL, List.all_cons, List.all_nil, stepsB, List.cons_append, List.nil_append, out_in, two0, two1]
 cases h0 : inB a0.m0 900 1320
 ·rfl
 cases h1 : inB a0.m1 900 1320
 ·rfl
 cases h2 : inB a0.m2 900 1320
 ·rfl
 cases h3 : inB a0.m3 900 1320
 ·rfl
 cases h4 : inB a0.m4 900 1320
 ·rfl
 cases h5 : inB a0.m5 900 1320
 ·rfl
 cases h6 : inB a0.m6 900 1320
 ·rfl
 cases h7 : inB a0.m7 900 1320
 ·rfl
 cases h8 : inB a0.m8 900 1320
 ·rfl
 cases h9 : inB a0.m9 900 1320
 ·rfl
 cases h10 : inB a0.m10 900 1320
 ·rfl
 cases h11 : inB a0.m11 900 1320
 ·rfl
 simp only [ wrap_sub h0 h1 (by omega) (by omega), wrap_sub h1 h2 (by omega) (by omega), wrap_sub h2 h3 (by omega) (by omega), wrap_sub h3 h4 (by omega) (by omega), wrap_sub h4 h5 (by omega) (by omega), wrap_sub h5 h6 (by omega) (by omega), wrap_sub h6 h7 (by omega) (by omega), wrap_sub h7 h8 (by omega) (by omega), wrap_sub h8 h9 (by omega) (by omega), wrap_sub h9 h10 (by omega) (by omega), wrap_sub h10 h11 (by omega) (by omega), wrap_sub h11 h0 (by omega) (by omega), out_in']
 cases inB (a0.m1 - a0.m0) (-120) 120
 ·rfl
 cases inB (a0.m2 - a0.m1) (-120) 120
 ·rfl
 cases inB (a0.m3 - a0.m2) (-120) 120
 ·rfl
 cases inB (a0.m4 - a0.m3) (-120) 120
 ·rfl
 cases inB (a0.m5 - a0.m4) (-120) 120
 ·rfl
 cases inB (a0.m6 - a0.m5) (-120) 120
 ·rfl
 cases inB (a0.m7 - a0.m6) (-120) 120
 ·rfl
 cases inB (a0.m8 - a0.m7) (-120) 120
 ·rfl
 cases inB (a0.m9 - a0.m8) (-120) 120
 ·rfl
 cases inB (a0.m10 - a0.m9) (-120) 120
 ·rfl
 cases inB (a0.m11 - a0.m10) (-120) 120
 ·rfl
 cases inB (a0.m0 - a0.m11) (-120) 120
 ·rfl
 rfl
end Go.Proofs.YtfhepbbkggdlcaaGreatDoor.Px.PxT


namespace Go.Proofs.YtfhepbbkggdlcaaGreatDoor.Px.PxT
open Go Go.Proofs
theorem div_big {a b K : Int} (hb : 1 ≤ b) (h0 : 0 ≤ K) (h1 : -K ≤ a) (h2 : a ≤ K) : -K ≤ a / b ∧ a / b ≤ K := by
 have hm : K * 1 ≤ K * b := Int.mul_le_mul_of_nonneg_left hb h0
 constructor
 ·rw [Int.le_ediv_iff_mul_le (by omega), Int.neg_mul]
  omega
 ·apply Int.ediv_le_of_le_mul (by omega)
  omega
theorem run_divs_Div (a0 : Int) (a1 : Int) (hg : divOk a0 a1 = true) : ∃ F d, run k2 F d 78 Tryz.f78 s_divs_Div (a0, a1, ()) = some (r_divs_Div.enc (divsDiv a0 a1)) := by
 refine ⟨200, 6, ?_⟩
 rw [tree_divs_Div]
 simp only [divOk, byB, big, Bool.and_eq_true, decide_eq_true_eq] at hg
 have e1 : decide (a1 < 1) = false := by simp; omega
 have e2 : (a1 != 0) = true := by rw [bne_iff_ne]; omega
 obtain ⟨d1, d2, d3, d4⟩ := div_down (a := a0) (b := a1) (by omega)
 obtain ⟨q1, q2⟩ := div_big (a := a0) (b := a1) (K := 1000000000000) (by omega) (by omega) (by omega) (by omega)
 simp only [e1, e2, cond_true, cond_false]
 by_cases h : a0.tmod a1 < 0
 ·obtain ⟨f1, f2⟩ := d1 h
  rw [decide_eq_true h, cond_true, wrI (n := a0.tdiv a1) (by omega), wrI (by omega), ← f1]
  rfl
 ·obtain ⟨f1, f2⟩ := d2 (by omega)
  rw [decide_eq_false h, cond_false, wrI (n := a0.tdiv a1) (by omega), ← f1]
  rfl
theorem run_divs_Mod (a0 : Int) (a1 : Int) (hg : divOk a0 a1 = true) : ∃ F d, run k3 F d 128 Tryz.f128 s_divs_Mod (a0, a1, ()) = some (r_divs_Mod.enc (divsMod a0 a1)) := by
 refine ⟨200, 6, ?_⟩
 rw [tree_divs_Mod]
 simp only [divOk, byB, big, Bool.and_eq_true, decide_eq_true_eq] at hg
 have e1 : decide (a1 < 1) = false := by simp; omega
 have e2 : (a1 != 0) = true := by rw [bne_iff_ne]; omega
 obtain ⟨d1, d2, d3, d4⟩ := div_down (a := a0) (b := a1) (by omega)
 simp only [e1, e2, cond_true, cond_false]
 by_cases h : a0.tmod a1 < 0
 ·obtain ⟨f1, f2⟩ := d1 h
  rw [decide_eq_true h, cond_true, wrI (by omega), ← f2]
  rfl
 ·obtain ⟨f1, f2⟩ := d2 (by omega)
  rw [decide_eq_false h, cond_false, ← f2]
  rfl
theorem next_rest {a b r : Int} (hb : 1 ≤ b) (h0 : 0 ≤ r) (h1 : r < b) : (r - a % b) % b = (if r - a % b ≥ 0 then r - a % b else r - a % b + b) ∧ 0 ≤ (r - a % b) % b ∧ (r - a % b) % b < b := by
 have e2 := Int.emod_nonneg a (show b ≠ 0 by omega)
 have e3 := Int.emod_lt_of_pos a (show 0 < b by omega)
 refine ⟨?_, Int.emod_nonneg _ (by omega), Int.emod_lt_of_pos _ (by omega)⟩
 split
 ·exact Int.emod_eq_of_lt (by omega) (by omega)
 ·rw [← Int.add_emod_right, Int.emod_eq_of_lt (by omega) (by omega)]
theorem run_divs_Next (a0 : Int) (a1 : Int) (a2 : Int) (hg : nextOk a0 a1 a2 = true) : ∃ F d, run k4 F d 119 Tryz.f119 s_divs_Next (a0, a1, a2, ()) = some (r_divs_Next.enc (divsNext a0 a1 a2)) := by
 refine ⟨200, 6, ?_⟩
 rw [tree_divs_Next]
 simp only [nextOk, Bool.and_eq_true, decide_eq_true_eq] at hg
 obtain ⟨hd, hr0, hr1⟩ := hg
 have hd' := hd
 simp only [divOk, byB, big, Bool.and_eq_true, decide_eq_true_eq] at hd'
 obtain ⟨n1, n2, n3⟩ := next_rest (a := a0) (b := a1) (r := a2) (by omega) hr0 hr1
 have e2 := Int.emod_nonneg a0 (show a1 ≠ 0 by omega)
 have e3 := Int.emod_lt_of_pos a0 (show 0 < a1 by omega)
 have g1 : (bif decide (a2 < 0) then true else decide (a2 ≥ a1)) = false := by
  have : decide (a2 < 0) = false := by simp; omega
  rw [this, cond_false]; simp; omega
 rw [hd, g1]
 simp only [Bool.and_self, Bool.true_and, cond_true, cond_false]
 rw [wrI (n := a2 - a0 % a1) (by omega)]
 by_cases h : a2 - a0 % a1 ≥ 0
 ·rw [if_pos h] at n1
  have g2 : decide (a0 > 9223372036854775807 - (a2 - a0 % a1)) = false := by simp; omega
  rw [decide_eq_true h, cond_true, wrI (n := 9223372036854775807 - (a2 - a0 % a1)) (by omega), g2, cond_false, wrI (by omega), ← n1]
  rfl
 ·rw [if_neg h] at n1
  rw [decide_eq_false h, cond_false, wrI (n := a2 - a0 % a1 + a1) (by omega), wrI (n := 9223372036854775807 - (a2 - a0 % a1 + a1)) (by omega)]
  have g2 : decide (a0 > 9223372036854775807 - (a2 - a0 % a1 + a1)) = false := by simp; omega
  rw [g2, cond_false, wrI (by omega), ← n1]
  rfl
theorem run_greg_Leap (a0 : Int) : ∃ F d, run k5 F d 87 Tryz.f87 s_greg_Leap (a0, ()) = some (r_greg_Leap.enc (leapG a0)) := by
 refine ⟨200, 6, ?_⟩
 rw [tree_greg_Leap]
 simp only [r_greg_Leap, Res.bool, leapG]
 cases Int.tmod a0 4 == 0 <;> cases Int.tmod a0 100 != 0 <;> rfl
theorem run_greg_Days (a0 : Int) (a1 : Int) : ∃ F d, run k6 F d 54 Tryz.f54 s_greg_Days (a0, a1, ()) = some (r_greg_Days.enc (daysG a0 a1)) := by
 refine ⟨200, 6, ?_⟩
 rw [tree_greg_Days]
 simp only [r_greg_Days, Res.int, daysG]
 have hc : (bif bif bif decide (a0 < 1) then true else decide (a0 > 9999) then true else decide (a1 < 1) then true else decide (a1 > 12)) = !monthB a0 a1 := by
  rw [Bool.eq_iff_iff]
  by_cases h1 : a0 < 1 <;> by_cases h2 : a0 > 9999 <;> by_cases h3 : a1 < 1 <;> by_cases h4 : a1 > 12 <;> simp [monthB, h1, h2, h3, h4] <;> omega
 rw [hc]
 cases hm : monthB a0 a1 with
 | false => rfl
 | true =>
  simp only [monthB, Bool.and_eq_true, decide_eq_true_eq] at hm
  simp only [Bool.not_true, cond_false, cond_true]
  rw [show (bif a1 == 2 then leapG a0 else false) = (a1 == 2 && leapG a0) by cases a1 == 2 <;> rfl]
  cases (a1 == 2 && leapG a0) with
  | true => rfl
  | false =>
   simp only [cond_false]
   rw [wrI (n := a1 - 1) (by omega)]
   have g1 : decide (0 ≤ a1 - 1) = true := by simp; omega
   have g2 : decide (a1 - 1 < ((12 : Nat) : Int)) = true := by simp; omega
   have g3 : Nat.ble (0 + Int.toNat (a1 - 1) * 1 + 1) 12 = true := by simp; omega
   rw [g1, g2, Bool.and_self, cond_true, g3, cond_true, Nat.zero_add, Nat.mul_one]
   rfl
theorem run_greg_ahead (a0 : Int) : ∃ F d, run k7 F d 56 Tryz.f56 s_greg_ahead (a0, ()) = some (r_greg_ahead.enc (aheadG a0)) := by
 refine ⟨200, 6, ?_⟩
 rw [tree_greg_ahead]
 have k : ∀ n : Nat, n < 12 → IntKind.wrap IntKind.i64 (sumG a0 n + daysG a0 ((n : Int) + 1)) = sumG a0 (n + 1) := fun n hn => by
  have h1 := sumG_range a0 n
  have h2 := daysG_range a0 ((n : Int) + 1)
  exact wrI (by omega)
 have w : ∀ n : Int, 0 ≤ n → n ≤ 20 → IntKind.wrap IntKind.i64 (n + 1) = n + 1 := fun n h1 h2 => wrI (by omega)
 have m1 : IntKind.wrap IntKind.i64 (1 + 1) = 2 := rfl
 have m2 : IntKind.wrap IntKind.i64 (2 + 1) = 3 := rfl
 have m3 : IntKind.wrap IntKind.i64 (3 + 1) = 4 := rfl
 have m4 : IntKind.wrap IntKind.i64 (4 + 1) = 5 := rfl
 have m5 : IntKind.wrap IntKind.i64 (5 + 1) = 6 := rfl
 have m6 : IntKind.wrap IntKind.i64 (6 + 1) = 7 := rfl
 have m7 : IntKind.wrap IntKind.i64 (7 + 1) = 8 := rfl
 have m8 : IntKind.wrap IntKind.i64 (8 + 1) = 9 := rfl
 have m9 : IntKind.wrap IntKind.i64 (9 + 1) = 10 := rfl
 have m10 : IntKind.wrap IntKind.i64 (10 + 1) = 11 := rfl
 have m11 : IntKind.wrap IntKind.i64 (11 + 1) = 12 := rfl
 have s0 : IntKind.wrap IntKind.i64 (0 + daysG a0 1) = sumG a0 1 := k 0 (by omega)
 have s1 : IntKind.wrap IntKind.i64 (sumG a0 1 + daysG a0 2) = sumG a0 2 := k 1 (by omega)
 have s2 : IntKind.wrap IntKind.i64 (sumG a0 2 + daysG a0 3) = sumG a0 3 := k 2 (by omega)
 have s3 : IntKind.wrap IntKind.i64 (sumG a0 3 + daysG a0 4) = sumG a0 4 := k 3 (by omega)
 have s4 : IntKind.wrap IntKind.i64 (sumG a0 4 + daysG a0 5) = sumG a0 5 := k 4 (by omega)
 have s5 : IntKind.wrap IntKind.i64 (sumG a0 5 + daysG a0 6) = sumG a0 6 := k 5 (by omega)
 have s6 : IntKind.wrap IntKind.i64 (sumG a0 6 + daysG a0 7) = sumG a0 7 := k 6 (by omega)
 have s7 : IntKind.wrap IntKind.i64 (sumG a0 7 + daysG a0 8) = sumG a0 8 := k 7 (by omega)
 have s8 : IntKind.wrap IntKind.i64 (sumG a0 8 + daysG a0 9) = sumG a0 9 := k 8 (by omega)
 have s9 : IntKind.wrap IntKind.i64 (sumG a0 9 + daysG a0 10) = sumG a0 10 := k 9 (by omega)
 have s10 : IntKind.wrap IntKind.i64 (sumG a0 10 + daysG a0 11) = sumG a0 11 := k 10 (by omega)
 have s11 : IntKind.wrap IntKind.i64 (sumG a0 11 + daysG a0 12) = sumG a0 12 := k 11 (by omega)
 simp only [m1, m2, m3, m4, m5, m6, m7, m8, m9, m10, m11, s0, s1, s2, s3, s4, s5, s6, s7, s8, s9, s10, s11]
 rfl
theorem run_greg_before (a0 : Int) (hg : yearB a0 = true) : ∃ F d, run k8 F d 55 Tryz.f55 s_greg_before (a0, ()) = some (r_greg_before.enc (beforeG a0)) := by
 refine ⟨200, 6, ?_⟩
 rw [tree_greg_before]
 simp only [yearB, Bool.and_eq_true, decide_eq_true_eq] at hg
 simp only [r_greg_before, Res.int, beforeG]
 have t4 : Int.tdiv (a0 - 1) 4 = (a0 - 1) / 4 := Int.tdiv_eq_ediv_of_nonneg (by omega)
 have t100 : Int.tdiv (a0 - 1) 100 = (a0 - 1) / 100 := Int.tdiv_eq_ediv_of_nonneg (by omega)
 have t400 : Int.tdiv (a0 - 1) 400 = (a0 - 1) / 400 := Int.tdiv_eq_ediv_of_nonneg (by omega)
 rw [wrI (n := a0 - 1) (by omega), t4, t100, t400, wrI (n := 365 * (a0 - 1)) (by omega), wrI (n := (a0 - 1) / 4) (by omega), wrI (n := (a0 - 1) / 100) (by omega), wrI (n := (a0 - 1) / 400) (by omega),
  wrI (n := 365 * (a0 - 1) + (a0 - 1) / 4) (by omega), wrI (n := 365 * (a0 - 1) + (a0 - 1) / 4 - (a0 - 1) / 100) (by omega), wrI (by omega)]
theorem sel_sum {y : Int} {k : Nat} (h : k < 13) : selI [0, sumG y 1, sumG y 2, sumG y 3, sumG y 4, sumG y 5, sumG y 6, sumG y 7, sumG y 8, sumG y 9, sumG y 10, sumG y 11, sumG y 12] k = sumG y k := by
 have : k = 0 ∨ k = 1 ∨ k = 2 ∨ k = 3 ∨ k = 4 ∨ k = 5 ∨ k = 6 ∨ k = 7 ∨ k = 8 ∨ k = 9 ∨ k = 10 ∨ k = 11 ∨ k = 12 := by omega
 rcases this with rfl | rfl | rfl | rfl | rfl | rfl | rfl | rfl | rfl | rfl | rfl | rfl | rfl <;> rfl
theorem run_greg_Day (a0 : Date) : ∃ F d, run k9 F d 25 Tryz.f25 s_greg_Day (a0, ()) = some (r_greg_Day.enc (dayG a0)) := by
 refine ⟨200, 6, ?_⟩
 rw [tree_greg_Day]
 unfold dayG
 rw [show (bif decide (a0.day < 1) then true else decide (a0.day > daysG a0.year a0.month)) = (decide (a0.day < 1) || decide (a0.day > daysG a0.year a0.month)) by cases decide (a0.day < 1) <;> rfl]
 cases hb : (decide (a0.day < 1) || decide (a0.day > daysG a0.year a0.month)) with
 | true => rfl
 | false =>
  simp only [Bool.or_eq_false_iff, decide_eq_false_iff_not] at hb
  obtain ⟨r1, r2, r3⟩ := daysG_range a0.year a0.month
  obtain ⟨y1, y2, m1, m2⟩ := r3 (by omega)
  have hy : yearB a0.year = true := by simp only [yearB, Bool.and_eq_true, decide_eq_true_eq]; omega
  have hbf := beforeG_range (y := a0.year) y1 (by omega)
  have hs := sumG_range a0.year (a0.month - 1).toNat
  rw [hy, wrI (n := a0.month - 1) (by omega)]
  have g1 : decide (0 ≤ a0.month - 1) = true := by simp; omega
  have g2 : decide (a0.month - 1 < ((13 : Nat) : Int)) = true := by simp; omega
  simp only [g1, g2, Bool.and_self, Bool.true_and, cond_true, cond_false, Nat.mul_one]
  rw [sel_sum (by omega), wrI (n := beforeG a0.year + sumG a0.year (a0.month - 1).toNat) (by omega), wrI (by omega)]
  rfl
theorem run_greg_Of (a0 : Int) : ∃ F d, run k10 F d 79 Tryz.f79 s_greg_Of (a0, ()) = some (r_greg_Of.enc (ofG a0)) := by
 refine ⟨200, 6, ?_⟩
 rw [tree_greg_Of]
 unfold ofG
 rw [show (bif decide (a0 < 1) then true else decide (a0 > 3652059)) = (decide (a0 < 1) || decide (a0 > 3652059)) by cases decide (a0 < 1) <;> rfl]
 cases hb : (decide (a0 < 1) || decide (a0 > 3652059)) with
 | true => rfl
 | false =>
  simp only [Bool.or_eq_false_iff, decide_eq_false_iff_not] at hb
  obtain ⟨y1, y2, l1, l2, _⟩ := of_spec (n := a0) (by omega) (by omega)
  have w : ∀ s : Int, (0 ≤ s ∧ s ≤ 1000) → IntKind.wrap IntKind.i64 (IntKind.wrap IntKind.i64 (lfG a0 - s) + 1) = lfG a0 - s + 1 := fun s hs => by
   rw [wrI (n := lfG a0 - s) (by omega), wrI (by omega)]
  have hs : ∀ k : Nat, k ≤ 12 → 0 ≤ sumG (yrG a0) k ∧ sumG (yrG a0) k ≤ 1000 := fun k hk => by have := sumG_range (yrG a0) k; omega
  simp only [w 0 (by omega), w _ (hs 1 (by omega)), w _ (hs 2 (by omega)), w _ (hs 3 (by omega)), w _ (hs 4 (by omega)), w _ (hs 5 (by omega)), w _ (hs 6 (by omega)), w _ (hs 7 (by omega)), w _ (hs 8 (by omega)), w _ (hs 9 (by omega)), w _ (hs 10 (by omega)), w _ (hs 11 (by omega)), cond_false]
  unfold monG
  simp only [monGo]
  cases h1 : decide (lfG a0 < sumG (yrG a0) 1) with
  | true => simp only [h1, cond_true, cond_false, cond_true]; rfl
  | false =>
   cases h2 : decide (lfG a0 < sumG (yrG a0) 2) with
   | true => simp only [h2, cond_true, cond_false, h1]; rfl
   | false =>
    cases h3 : decide (lfG a0 < sumG (yrG a0) 3) with
    | true => simp only [h3, cond_true, cond_false, h1, h2]; rfl
    | false =>
     cases h4 : decide (lfG a0 < sumG (yrG a0) 4) with
     | true => simp only [h4, cond_true, cond_false, h1, h2, h3]; rfl
     | false =>
      cases h5 : decide (lfG a0 < sumG (yrG a0) 5) with
      | true => simp only [h5, cond_true, cond_false, h1, h2, h3, h4]; rfl
      | false =>
       cases h6 : decide (lfG a0 < sumG (yrG a0) 6) with
       | true => simp only [h6, cond_true, cond_false, h1, h2, h3, h4, h5]; rfl
       | false =>
        cases h7 : decide (lfG a0 < sumG (yrG a0) 7) with
        | true => simp only [h7, cond_true, cond_false, h1, h2, h3, h4, h5, h6]; rfl
        | false =>
         cases h8 : decide (lfG a0 < sumG (yrG a0) 8) with
         | true => simp only [h8, cond_true, cond_false, h1, h2, h3, h4, h5, h6, h7]; rfl
         | false =>
          cases h9 : decide (lfG a0 < sumG (yrG a0) 9) with
          | true => simp only [h9, cond_true, cond_false, h1, h2, h3, h4, h5, h6, h7, h8]; rfl
          | false =>
           cases h10 : decide (lfG a0 < sumG (yrG a0) 10) with
           | true => simp only [h10, cond_true, cond_false, h1, h2, h3, h4, h5, h6, h7, h8, h9]; rfl
           | false =>
            cases h11 : decide (lfG a0 < sumG (yrG a0) 11) with
            | true => simp only [h11, cond_true, cond_false, h1, h2, h3, h4, h5, h6, h7, h8, h9, h10]; rfl
            | false =>
             simp only [h1, h2, h3, h4, h5, h6, h7, h8, h9, h10, h11, cond_true, cond_false]; rfl
theorem nth_ok {y m : Int} (h : daysG y m ≠ 0) : dayG ⟨y, m, 1⟩ = (firstG y m, 0) ∧ 1 ≤ firstG y m ∧ firstG y m ≤ 3800000 ∧ 1 ≤ daysG y m ∧ daysG y m ≤ 31 := by
 obtain ⟨r1, r2, r3⟩ := daysG_range y m
 obtain ⟨y1, y2, m1, m2⟩ := r3 h
 have hbf := beforeG_range (y := y) y1 (by omega)
 have hs := sumG_range y (m - 1).toNat
 have e1 : decide ((1 : Int) < 1) = false := rfl
 have e2 : decide ((1 : Int) > daysG y m) = false := by simp; omega
 refine ⟨?_, by unfold firstG; omega, by unfold firstG; omega, by omega, r2⟩
 unfold dayG
 simp only [e1, e2, Bool.or_self, cond_false, firstG]
theorem from_range {y m w : Int} (h : daysG y m ≠ 0) (hw0 : 0 ≤ w) (hw1 : w ≤ 6) : firstG y m ≤ fromG y m w ∧ fromG y m w ≤ firstG y m + 6 := by
 have := next_rest (a := firstG y m) (b := 7) (r := w) (by omega) hw0 (by omega)
 unfold fromG
 omega
theorem run_greg_Nth (a0 : Int) (a1 : Int) (a2 : Int) (a3 : Int) : ∃ F d, run k11 F d 106 Tryz.f106 s_greg_Nth (a0, a1, a2, a3, ()) = some (r_greg_Nth.enc (nthG a0 a1 a2 a3)) := by
 refine ⟨200, 6, ?_⟩
 rw [tree_greg_Nth]
 unfold nthG
 cases hd : daysG a0 a1 == 0 with
 | true => rfl
 | false =>
  have hd0 : daysG a0 a1 ≠ 0 := by simpa using hd
  obtain ⟨f0, f1, f2, f3, f4⟩ := nth_ok hd0
  rw [cond_false, cond_false]
  rw [show (bif bif decide (a2 < 0) then true else decide (a2 > 6) then true else bif a3 != -1 then bif decide (a3 < 1) then true else decide (a3 > 5) else false) = nthBad a2 a3 by
   unfold nthBad
   cases decide (a2 < 0) <;> cases decide (a2 > 6) <;> cases (a3 != -1) <;> cases decide (a3 < 1) <;> rfl]
  cases hb : nthBad a2 a3 with
  | true => rfl
  | false =>
   simp only [nthBad, Bool.or_eq_false_iff, Bool.and_eq_false_iff, decide_eq_false_iff_not, bne_eq_false_iff_eq] at hb
   obtain ⟨⟨w0, w1⟩, hk⟩ := hb
   have hk' : a3 = -1 ∨ (1 ≤ a3 ∧ a3 ≤ 5) := by
    rcases hk with h | ⟨h1, h2⟩
    ·exact .inl h
    ·exact .inr (by omega)
   obtain ⟨g1, g2⟩ := from_range hd0 (w := a2) (by omega) (by omega)
   have ho : nextOk (firstG a0 a1) 7 a2 = true := by simp only [nextOk, divOk, byB, big, Bool.and_eq_true, decide_eq_true_eq]; omega
   have hfr : firstG a0 a1 + (a2 - firstG a0 a1 % 7) % 7 = fromG a0 a1 a2 := rfl
   simp only [f0, ho, hfr, Bool.and_self, Bool.true_and, cond_true, cond_false]
   cases h1 : a3 == -1 with
   | true =>
    rw [cond_true, cond_true]
    rw [wrI (n := firstG a0 a1 + daysG a0 a1) (by omega), wrI (n := firstG a0 a1 + daysG a0 a1 - 1) (by omega), wrI (n := firstG a0 a1 + daysG a0 a1 - 1 - fromG a0 a1 a2) (by omega)]
    have hq : Int.tdiv (firstG a0 a1 + daysG a0 a1 - 1 - fromG a0 a1 a2) 7 = (firstG a0 a1 + daysG a0 a1 - 1 - fromG a0 a1 a2) / 7 := by
     apply Int.tdiv_eq_ediv_of_nonneg
     have := daysG_least hd0
     omega
    rw [hq, wrI (n := (firstG a0 a1 + daysG a0 a1 - 1 - fromG a0 a1 a2) / 7) (by omega), wrI (n := (firstG a0 a1 + daysG a0 a1 - 1 - fromG a0 a1 a2) / 7 * 7) (by omega), wrI (by omega)]
    rfl
   | false =>
    have hk2 : 1 ≤ a3 ∧ a3 ≤ 5 := by
     rcases hk' with h | h
     ·rw [h] at h1; cases h1
     ·exact h
    rw [cond_false, cond_false]
    rw [wrI (n := a3 - 1) (by omega), wrI (n := 7 * (a3 - 1)) (by omega), wrI (n := fromG a0 a1 a2 + 7 * (a3 - 1)) (by omega), wrI (n := firstG a0 a1 + daysG a0 a1) (by omega)]
    cases decide (fromG a0 a1 a2 + 7 * (a3 - 1) ≥ firstG a0 a1 + daysG a0 a1) <;> rfl
theorem nth_range (y m w k : Int) : 0 ≤ (nthG y m w k).1 ∧ (nthG y m w k).1 ≤ 4000000 := by
 unfold nthG
 cases hd : daysG y m == 0 with
 | true => simp
 | false =>
  have hd0 : daysG y m ≠ 0 := by simpa using hd
  obtain ⟨f0, f1, f2, f3, f4⟩ := nth_ok hd0
  rw [cond_false]
  cases hb : nthBad w k with
  | true => simp
  | false =>
   simp only [nthBad, Bool.or_eq_false_iff, Bool.and_eq_false_iff, decide_eq_false_iff_not, bne_eq_false_iff_eq] at hb
   obtain ⟨⟨w0, w1⟩, hk⟩ := hb
   obtain ⟨g1, g2⟩ := from_range hd0 (w := w) (by omega) (by omega)
   rw [cond_false]
   cases h1 : k == -1 with
   | true =>
    have := daysG_least hd0
    simp only [cond_true]
    omega
   | false =>
    have hk2 : 1 ≤ k ∧ k ≤ 5 := by
     rcases hk with h | ⟨h1', h2⟩
     ·rw [h] at h1; cases h1
     ·omega
    simp only [cond_false]
    cases decide (fromG y m w + 7 * (k - 1) ≥ firstG y m + daysG y m)
    ·simp only [cond_false]; omega
    ·simp
theorem run_zone_when (a0 : Zone) (a1 : Turn) (a2 : Int) (hg : whenOk a0 a1 a2 = true) : ∃ F d, run k13 F d 84 Tryz.f84 s_zone_when (a0, a1, a2, ()) = some (r_zone_when.enc (whenG a0 a1 a2)) := by
 refine ⟨200, 6, ?_⟩
 rw [tree_zone_when]
 simp only [whenOk, lit, Bool.and_eq_true, decide_eq_true_eq] at hg
 simp only [r_zone_when, Res.int, whenG]
 have w : ∀ k, IntKind.wrap IntKind.i64 (IntKind.wrap IntKind.i64 (IntKind.wrap IntKind.i64 ((nthG a2 a1.month a1.weekday k).1 * 1440) + a1.minute) - a0.base) = (nthG a2 a1.month a1.weekday k).1 * 1440 + a1.minute - a0.base := fun k => by
  have := nth_range a2 a1.month a1.weekday k
  rw [wrI (n := (nthG a2 a1.month a1.weekday k).1 * 1440) (by omega), wrI (n := (nthG a2 a1.month a1.weekday k).1 * 1440 + a1.minute) (by omega), wrI (by omega)]
 rw [w, w]
 cases a1.week == 5 <;> rfl
theorem sum_bif' (t a b : Int) : (bif bif bif decide (a < b) then decide (a ≤ t) else false then decide (t < b) else false then true else bif decide (b < a) then bif decide (t < b) then true else decide (a ≤ t) else false) = sumB t a b := by
 unfold sumB
 cases decide (a < b) <;> cases decide (a ≤ t) <;> cases decide (t < b) <;> cases decide (b < a) <;> rfl
theorem run_zone_shift (a0 : Zone) (a1 : Int) (hg : shiftOk a0 a1 = true) : ∃ F d, run k14 F d 47 Tryz.f47 s_zone_shift (a0, a1, ()) = some (r_zone_shift.enc (shiftG a0 a1)) := by
 refine ⟨200, 6, ?_⟩
 rw [tree_zone_shift]
 simp only [shiftOk, turnsOk, Bool.and_eq_true] at hg
 obtain ⟨⟨b1, b2, b3⟩, b4⟩ := hg
 have b1' := b1
 simp only [lit, mid, Bool.and_eq_true, decide_eq_true_eq] at b1' b4
 simp only [r_zone_shift, Res.int, shiftG]
 cases h0 : a0.shift == 0 with
 | true => rfl
 | false =>
  have w : IntKind.wrap IntKind.i64 (a1 + a0.base) = a1 + a0.base := wrI (by omega)
  have ho : divOk (a1 + a0.base) 1440 = true := by simp only [divOk, byB, big, Bool.and_eq_true, decide_eq_true_eq]; omega
  have k1 : ∀ y, whenOk a0 a0.on y = true := fun y => by simp only [whenOk, b1, b2, Bool.and_self]
  have k2 : ∀ y, whenOk a0 a0.off y = true := fun y => by simp only [whenOk, b1, b3, Bool.and_self]
  have hy : (ofG ((a1 + a0.base) / 1440)).1.year = yearOf a0 a1 := rfl
  simp only [w, ho, k1, k2, hy, Bool.and_self, Bool.true_and, cond_true, cond_false, sum_bif']
  cases sumB a1 (whenG a0 a0.on (yearOf a0 a1)) (whenG a0 a0.off (yearOf a0 a1)) <;> rfl
theorem zone_parts {z : Zone} (h : zone_Check z = 0) : (-720 ≤ z.base ∧ z.base ≤ 840) ∧ (0 ≤ z.shift ∧ z.shift ≤ 120) ∧ turnsOk z = true ∧ (z.shift ≠ 0 → turnsB z = true) := by
 unfold zone_Check at h
 cases h1 : inB z.base (-720) 840 with
 | false => rw [h1] at h; simp at h
 | true =>
  rw [h1, cond_true] at h
  cases h2 : inB z.shift 0 120 with
  | false => rw [h2] at h; simp at h
  | true =>
   rw [h2, cond_true] at h
   rw [inB_iff] at h1 h2
   by_cases h3 : z.shift = 0
   ·rw [h3] at h
    simp only [beq_self_eq_true, cond_true] at h
    cases h4 : (decide (z.on = turn0) && decide (z.off = turn0)) with
    | false => rw [h4] at h; simp at h
    | true =>
     simp only [Bool.and_eq_true, decide_eq_true_eq] at h4
     refine ⟨h1, h2, ?_, fun hne => absurd h3 hne⟩
     simp only [turnsOk, lit, h4.1, h4.2, turn0, Bool.and_eq_true, decide_eq_true_eq]
     omega
   ·have e : (z.shift == 0) = false := by rw [beq_eq_false_iff_ne]; exact h3
    rw [e, cond_false] at h
    cases h4 : turnsB z with
    | false => rw [h4] at h; simp at h
    | true =>
     refine ⟨h1, h2, ?_, fun _ => rfl⟩
     simp only [turnsB, turnB, Bool.and_eq_true, inB_iff] at h4
     simp only [turnsOk, lit, Bool.and_eq_true, decide_eq_true_eq]
     omega
theorem run_zone_Instants (a0 : Zone) (a1 : Int) (a2 : Int) : ∃ F d, runO k15 F d 53 Tryz.f53 s_zone_Instants r_zone_Instants (a0, a1, a2, ()) = some (instG a0 a1 a2) := by
 refine ⟨200, 6, ?_⟩
 rw [tree_zone_Instants]
 unfold instG
 cases hz : zone_Check a0 != 0 with
 | true => rfl
 | false =>
  have hz0 : zone_Check a0 = 0 := by simpa using hz
  obtain ⟨p1, p2, p3, _⟩ := zone_parts hz0
  rw [cond_false, cond_false]
  rw [show (bif !inB a1 401 3651998 then true else !inB a2 0 1439) = (!inB a1 401 3651998 || !inB a2 0 1439) by cases inB a1 401 3651998 <;> rfl]
  cases hb : (!inB a1 401 3651998 || !inB a2 0 1439) with
  | true => rfl
  | false =>
   simp only [Bool.or_eq_false_iff, Bool.not_eq_false'] at hb
   rw [inB_iff, inB_iff] at hb
   rw [cond_false, cond_false]
   have w1 : IntKind.wrap IntKind.i64 (a1 * 1440) = a1 * 1440 := wrI (by omega)
   have w2 : IntKind.wrap IntKind.i64 (a1 * 1440 + a2) = a1 * 1440 + a2 := wrI (by omega)
   have w3 : IntKind.wrap IntKind.i64 (a1 * 1440 + a2 - a0.base) = a1 * 1440 + a2 - a0.base := wrI (by omega)
   have w4 : IntKind.wrap IntKind.i64 (a1 * 1440 + a2 - a0.base - a0.shift) = a1 * 1440 + a2 - a0.base - a0.shift := wrI (by omega)
   have o1 : shiftOk a0 (a1 * 1440 + a2 - a0.base) = true := by simp only [shiftOk, p3, mid, Bool.true_and, Bool.and_eq_true, decide_eq_true_eq]; omega
   have o2 : shiftOk a0 (a1 * 1440 + a2 - a0.base - a0.shift) = true := by simp only [shiftOk, p3, mid, Bool.true_and, Bool.and_eq_true, decide_eq_true_eq]; omega
   simp only [w1, w2, w3, w4, o1, o2, Bool.and_self, Bool.true_and, Bool.true_or, cond_true]
   rw [show (bif decide (a0.shift > 0) then decide (shiftG a0 (a1 * 1440 + a2 - a0.base - a0.shift) > 0) else false) = (decide (a0.shift > 0) && decide (shiftG a0 (a1 * 1440 + a2 - a0.base - a0.shift) > 0)) by cases decide (a0.shift > 0) <;> rfl]
   cases (decide (a0.shift > 0) && decide (shiftG a0 (a1 * 1440 + a2 - a0.base - a0.shift) > 0)) <;> cases shiftG a0 (a1 * 1440 + a2 - a0.base) == 0 <;> rfl
theorem whole (z : Zone) : (⟨z.base, z.shift, ⟨z.on.month, z.on.week, z.on.weekday, z.on.minute⟩, ⟨z.off.month, z.off.week, z.off.weekday, z.off.minute⟩⟩ : Zone) = z := rfl
theorem told_div {t : Int} (h : 0 ≤ t) (h2 : t ≤ 5258868000) : IntKind.wrap IntKind.i64 (Int.tdiv t 1440) = t / 1440 ∧ Int.tmod t 1440 = t % 1440 := by
 rw [Int.tdiv_eq_ediv_of_nonneg h, Int.tmod_eq_emod_of_nonneg h]
 exact ⟨wrI (by omega), rfl⟩
theorem len_pos {α : Type} (l : List α) : decide (((l.length : Nat) : Int) > 0) = !l.isEmpty ∧ decide (0 < ((l.length : Nat) : Int)) = !l.isEmpty ∧ decide (0 < l.length) = !l.isEmpty ∧ (((l.length : Nat) : Int) == 0) = l.isEmpty := by
 cases l with
 | nil => exact ⟨rfl, rfl, rfl, rfl⟩
 | cons x l =>
  refine ⟨by simp, by simp, by simp, ?_⟩
  simp only [List.isEmpty_cons, List.length_cons, beq_eq_false_iff_ne]
  omega
theorem go_wmom (O0 O1 O2 O3 O4 O5 O6 O7 O8 O9 v9 : Int) (F d : Nat) (z : Zone) (hz : z = (⟨O0, O1, ⟨O2, O3, O4, O5⟩, ⟨O6, O7, O8, O9⟩⟩ : Zone)) : ∀ (k : Nat) (t : Int) (n : Nat), 0 ≤ t → t + k ≤ 5258868000 → reachIn (rowG z) k t = true → k < n →
  I_wmom F (d + 3) n (S_wmom O0 O1 O2 O3 O4 O5 O6 O7 O8 O9 t) = some (.ret, (X_wmom_0 O0 O1 O2 O3 O4 O5 O6 O7 O8 O9 (whereIn (rowG z) k t))) := by
 have step : ∀ (t : Int) (n : Nat), 0 ≤ t → t ≤ 5258868000 → I_wmom F (d + 3) (n + 1) (S_wmom O0 O1 O2 O3 O4 O5 O6 O7 O8 O9 t) = cond (rowG z t).isEmpty (I_wmom F (d + 3) n (S_wmom O0 O1 O2 O3 O4 O5 O6 O7 O8 O9 (t + 1))) (some (.ret, (X_wmom_0 O0 O1 O2 O3 O4 O5 O6 O7 O8 O9 t))) := by
  intro t n h0 h1
  obtain ⟨d1, d2⟩ := told_div h0 h1
  have hl := len_pos (rowG z t)
  unfold rowG at hl ⊢
  rw [step_wmom, d1, d2, ← hz, hl.1, hl.2.2.1, wrI (n := t + 1) (by omega)]
  cases ((instG z (t / 1440) (t % 1440)).1).isEmpty <;> rfl
 intro k
 induction k with
 | zero =>
  intro t n h0 h1 hr hn
  obtain ⟨n, rfl⟩ : ∃ k, n = k + 1 := ⟨n - 1, by omega⟩
  rw [step t n h0 (by omega)]
  simp only [reachIn, Bool.not_eq_true'] at hr
  rw [hr]
  rfl
 | succ k ih =>
  intro t n h0 h1 hr hn
  obtain ⟨n, rfl⟩ : ∃ k, n = k + 1 := ⟨n - 1, by omega⟩
  rw [step t n h0 (by omega)]
  simp only [reachIn, Bool.or_eq_true, Bool.not_eq_true'] at hr
  simp only [whereIn]
  cases he : (rowG z t).isEmpty with
  | false => rfl
  | true =>
   rw [he] at hr
   rw [cond_true, cond_true]
   refine ih (t + 1) n (by omega) (by omega) ?_ (by omega)
   rcases hr with h | h
   ·cases h
   ·exact h
theorem main_wmom (O0 O1 O2 O3 O4 O5 O6 O7 O8 O9 v9 : Int) (hg : (zone_Check (⟨O0, O1, ⟨O2, O3, O4, O5⟩, ⟨O6, O7, O8, O9⟩⟩ : Zone) == 0 && (toldOk v9 && reachIn (rowG (⟨O0, O1, ⟨O2, O3, O4, O5⟩, ⟨O6, O7, O8, O9⟩⟩ : Zone)) 200 v9)) = true) : ∃ N d, I_wmom N d N (S_wmom O0 O1 O2 O3 O4 O5 O6 O7 O8 O9 v9) = some (altK Prod.mk [] (.ret) (X_wmom_0 O0 O1 O2 O3 O4 O5 O6 O7 O8 O9 (whereIn (rowG (⟨O0, O1, ⟨O2, O3, O4, O5⟩, ⟨O6, O7, O8, O9⟩⟩ : Zone)) 200 v9))) := by
 simp only [Bool.and_eq_true, beq_iff_eq] at hg
 obtain ⟨h1, h2, h3⟩ := hg
 simp only [toldOk, Bool.and_eq_true, decide_eq_true_eq] at h2
 exact ⟨300, 3, go_wmom O0 O1 O2 O3 O4 O5 O6 O7 O8 O9 v9 300 0 _ rfl 200 v9 300 (by omega) (by omega) h3 (by omega)⟩
theorem run_window_Moment (a0 : Zone) (a1 : Int) (a2 : Int) : ∃ F d, run k18 F d 24 Tryz.f24 s_window_Moment (a0, a1, a2, ()) = some (r_window_Moment.enc (momG a0 a1 a2)) := by
 refine ⟨200, 6, ?_⟩
 rw [tree_window_Moment]
 unfold momG
 cases hz : zone_Check a0 != 0 with
 | true => rfl
 | false =>
  have hz0 : zone_Check a0 = 0 := by simpa using hz
  rw [cond_false, cond_false]
  have hc : (bif bif !recG a1 then true else decide (a2 < 0) then true else decide (a2 ≥ 1440)) = !momOk a1 a2 := by
   unfold momOk
   rw [show decide (a2 < 0) = !decide (0 ≤ a2) by rw [Bool.eq_iff_iff]; simp, show decide (a2 ≥ 1440) = !decide (a2 < 1440) by rw [Bool.eq_iff_iff]; simp]
   cases recG a1 <;> cases decide (0 ≤ a2) <;> cases decide (a2 < 1440) <;> rfl
  rw [hc]
  cases hm : momOk a1 a2 with
  | false => rfl
  | true =>
   have ht := told_ok hm
   have hr := reach_G hz0 ht
   have ht' := ht
   simp only [toldOk, Bool.and_eq_true, decide_eq_true_eq] at ht'
   have hd : 402 ≤ a1 ∧ a1 ≤ 3651990 := by
    simp only [momOk, Bool.and_eq_true] at hm
    have := hm.1
    unfold recG at this
    cases h : decide (402 ≤ a1)
    ·rw [h] at this; cases this
    ·rw [h, cond_true] at this; simp at h this; omega
   rw [wrI (n := a1 * 1440) (by omega), wrI (n := a1 * 1440 + a2) (by omega)]
   rw [hz0, ht, hr]
   obtain ⟨d1, d2⟩ := told_div (t := whereIn (rowG a0) 200 (a1 * 1440 + a2)) (by have := where_range (rowG a0) 200 (a1 * 1440 + a2); omega) (by have := where_range (rowG a0) 200 (a1 * 1440 + a2); omega)
   rw [d1, d2]
   rfl
theorem run_greg_Weekday (a0 : Int) (hg : midW a0 = true) : ∃ F d, run k19 F d 171 Tryz.f171 s_greg_Weekday (a0, ()) = some (r_greg_Weekday.enc (rWeekday a0)) := by
 refine ⟨200, 6, ?_⟩
 rw [tree_greg_Weekday]
 have h' := hg
 simp only [midW, mid, Bool.and_eq_true, decide_eq_true_eq] at h'
 rw [show divOk a0 7 = true by simp only [divOk, big, byB, Bool.and_eq_true, decide_eq_true_eq]; omega]
 rfl
theorem run_window_weekly_open (a0 : Unit) (a1 : Config) (a2 : Window) (a3 : Int) (hg : weekOk a0 a1 a2 a3 = true) : ∃ F d, run k52 F d 169 Tryz.f169 s_window_weekly_open (a0, a1, a2, a3, ()) = some (r_window_weekly_open.enc (weekOpen a0 a1 a2 a3)) := by
 refine ⟨200, 6, ?_⟩
 rw [tree_window_weekly_open]
 have h' : midW a3 = true := hg
 have h0 : decide (0 ≤ rWeekday a3) = true := by unfold rWeekday; simp; omega
 have b1 : Nat.beq a1.stops.length a1.stops.length = true := by simp
 have b2 : Nat.ble (0 + a1.stops.length) a1.stops.length = true := by simp
 have b3 : Nat.beq a1.windows.length a1.windows.length = true := by simp
 have b4 : Nat.ble (0 + a1.windows.length) a1.windows.length = true := by simp
 rw [h', h0, b1, b2, b3, b4]
 rfl
end Go.Proofs.YtfhepbbkggdlcaaGreatDoor.Px.PxT


namespace Go.Proofs.YtfhepbbkggdlcaaGreatDoor.Px.PxT
open Go Go.Proofs
set_option maxRecDepth 10000
theorem midW_iff (n : Int) : midW n = true ↔ -100000000000 ≤ n ∧ n ≤ 100000000000 := by
 simp only [midW, mid, Bool.and_eq_true, decide_eq_true_eq]
theorem yearM_iff (h : Int) : yearM h = true ↔ 1 ≤ h ∧ h ≤ 100000 := by
 simp only [yearM, Bool.and_eq_true, decide_eq_true_eq]
theorem months_range {h : Int} (h1 : 1 ≤ h) (h2 : h ≤ 100000) : 0 ≤ monthsM h ∧ monthsM h ≤ 1300000 := by
 unfold monthsM
 omega
theorem parts_range {h : Int} (h1 : 1 ≤ h) (h2 : h ≤ 100000) : 0 ≤ partsM h ∧ partsM h ≤ 1000000000000 := by
 have := months_range h1 h2
 unfold partsM
 omega
theorem newY_range {h : Int} (h1 : 1 ≤ h) (h2 : h ≤ 100000) : -2000000 ≤ newY h ∧ newY h ≤ 100000000 ∧ 0 ≤ delayM h ∧ delayM h ≤ 2 := by
 have hp := parts_range h1 h2
 have hd : 0 ≤ delayM h ∧ delayM h ≤ 2 := by
  unfold delayM offM
  cases putM h <;> cases ((moonM h).1 % 7 + _) % 7 == 0 || _ <;> simp
 unfold newY moonM
 dsimp only
 omega
theorem run_molad_Leap (a0 : Int) (hg : midW a0 = true) : ∃ F d, run k33 F d 186 Tryz.f186 s_molad_Leap (a0, ()) = some (r_molad_Leap.enc (leapM a0)) := by
 refine ⟨200, 6, ?_⟩
 rw [tree_molad_Leap]
 have h' := (midW_iff a0).1 hg
 rw [show divOk a0 19 = true by simp only [divOk, big, byB, Bool.and_eq_true, decide_eq_true_eq]; omega]
 rw [wrI (n := 7 * (a0 % 19)) (by omega), wrI (n := 7 * (a0 % 19) + 1) (by omega), Int.tmod_eq_emod_of_nonneg (by omega)]
 rfl
theorem run_molad_year_months (a0 : Int) (hg : yearM a0 = true) : ∃ F d, run k34 F d 189 Tryz.f189 s_molad_year_months (a0, ()) = some (r_molad_year_months.enc (monthsM a0)) := by
 refine ⟨200, 6, ?_⟩
 rw [tree_molad_year_months]
 have h' := (yearM_iff a0).1 hg
 rw [wrI (n := 235 * a0) (by omega), wrI (n := 235 * a0 - 234) (by omega), Int.tdiv_eq_ediv_of_nonneg (by omega), wrI (by omega)]
 rfl
theorem run_molad_year_moon (a0 : Int) (hg : yearM a0 = true) : ∃ F d, run k35 F d 187 Tryz.f187 s_molad_year_moon (a0, ()) = some (r_molad_year_moon.enc (moonM a0)) := by
 refine ⟨200, 6, ?_⟩
 rw [tree_molad_year_moon]
 have h' := (yearM_iff a0).1 hg
 have hm := months_range h'.1 h'.2
 rw [wrI (n := 765433 * monthsM a0) (by omega), wrI (n := 5604 + 765433 * monthsM a0) (by omega), Int.tdiv_eq_ediv_of_nonneg (by omega), Int.tmod_eq_emod_of_nonneg (by omega), wrI (n := (5604 + 765433 * monthsM a0) / 25920) (by omega), wrI (by omega)]
 rw [hg]
 rfl
theorem seven (w : Int) (h : 0 ≤ w) (h2 : w ≤ 100) : Int.tmod w 7 = w % 7 := Int.tmod_eq_emod_of_nonneg h
theorem off_tree (w : Int) (n : Int) (e : IntKind.wrap IntKind.i64 (n + 1) = n + 1) : (bif (w + n) % 7 == 0 then some (AV.int .i64 (IntKind.wrap IntKind.i64 (n + 1))) else bif (w + n) % 7 == 3 then some (AV.int .i64 (IntKind.wrap IntKind.i64 (n + 1))) else bif (w + n) % 7 == 5 then some (AV.int .i64 (IntKind.wrap IntKind.i64 (n + 1))) else some (AV.int .i64 n)) = some (AV.int .i64 (offM w n)) := by
 unfold offM
 rw [e]
 cases (w + n) % 7 == 0 <;> cases (w + n) % 7 == 3 <;> cases (w + n) % 7 == 5 <;> rfl
theorem run_molad_year_delay (a0 : Int) (hg : yearM a0 = true) : ∃ F d, run k36 F d 188 Tryz.f188 s_molad_year_delay (a0, ()) = some (r_molad_year_delay.enc (delayM a0)) := by
 refine ⟨200, 6, ?_⟩
 rw [tree_molad_year_delay]
 have h' := (yearM_iff a0).1 hg
 have hp := parts_range h'.1 h'.2
 rw [show midW (-1373427 + partsM a0 / 25920) = true from (midW_iff _).2 (by omega), show midW a0 = true from (midW_iff _).2 (by omega), wrI (n := a0 - 1) (by omega), show midW (a0 - 1) = true from (midW_iff _).2 (by omega), hg]
 simp only [Bool.true_and, Bool.true_or, cond_true]
 have e0 : IntKind.wrap IntKind.i64 (0 + 1) = 1 := rfl
 have hw : 0 ≤ rWeekday (-1373427 + partsM a0 / 25920) ∧ rWeekday (-1373427 + partsM a0 / 25920) < 7 := by unfold rWeekday; omega
 have hd : (r_molad_year_delay.enc (delayM a0)) = AV.int .i64 (offM (rWeekday (-1373427 + partsM a0 / 25920)) (cond (putM a0) 1 0)) := rfl
 rw [hd]
 have hput : putM a0 = (decide (partsM a0 % 25920 ≥ 19440) || ((rWeekday (-1373427 + partsM a0 / 25920) == 2 && (decide (partsM a0 % 25920 ≥ 9924) && !leapM a0)) || (rWeekday (-1373427 + partsM a0 / 25920) == 1 && (decide (partsM a0 % 25920 ≥ 16789) && leapM (a0 - 1))))) := rfl
 rw [hput]
 clear hput hd
 generalize rWeekday (-1373427 + partsM a0 / 25920) = w at *
 generalize partsM a0 % 25920 = p at *
 rw [e0, wrI (n := w + 0) (by omega), wrI (n := w + 1) (by omega), seven _ (by omega) (by omega), seven _ (by omega) (by omega)]
 have t0 := off_tree w 0 rfl
 have t1 := off_tree w 1 rfl
 rw [e0] at t0
 rw [t0, t1]
 rw [show decide (p < 9924) = !decide (p ≥ 9924) by rw [Bool.eq_iff_iff]; simp, show decide (p < 16789) = !decide (p ≥ 16789) by rw [Bool.eq_iff_iff]; simp]
 simp only [bne]
 cases decide (p ≥ 19440) <;> cases w == 2 <;> cases w == 1 <;> cases decide (p ≥ 9924) <;> cases decide (p ≥ 16789) <;> cases leapM a0 <;> cases leapM (a0 - 1) <;> rfl
theorem run_molad_year_first (a0 : Int) (hg : yearM a0 = true) : ∃ F d, run k37 F d 183 Tryz.f183 s_molad_year_first (a0, ()) = some (r_molad_year_first.enc (newY a0)) := by
 refine ⟨200, 6, ?_⟩
 rw [tree_molad_year_first]
 have h' := (yearM_iff a0).1 hg
 have hp := parts_range h'.1 h'.2
 have hn := newY_range h'.1 h'.2
 rw [hg, wrI (n := -1373427 + partsM a0 / 25920 + delayM a0) (by omega)]
 rfl
theorem run_molad_year_length (a0 : Int) (hg : yearM2 a0 = true) : ∃ F d, run k38 F d 184 Tryz.f184 s_molad_year_length (a0, ()) = some (r_molad_year_length.enc (lenM a0)) := by
 refine ⟨200, 6, ?_⟩
 rw [tree_molad_year_length]
 have h' : 1 ≤ a0 ∧ a0 ≤ 99999 := by simpa only [yearM2, Bool.and_eq_true, decide_eq_true_eq] using hg
 rw [wrI (n := a0 + 1) (by omega), show yearM (a0 + 1) = true from (yearM_iff _).2 (by omega), show yearM a0 = true from (yearM_iff _).2 (by omega)]
 have h1 := newY_range (h := a0) (by omega) (by omega)
 have h2 := newY_range (h := a0 + 1) (by omega) (by omega)
 rw [wrI (n := newY (a0 + 1) - newY a0) (by omega)]
 rfl
theorem rec_bif (h : Int) : (bif decide (h < 3762) then true else decide (h > 9999)) = !recM h := by
 unfold recM inB
 rw [Bool.eq_iff_iff]
 cases h1 : decide (h < 3762) <;> simp at h1 ⊢ <;> omega
theorem run_molad_NewYear (a0 : Int) : ∃ F d, run k39 F d 177 Tryz.f177 s_molad_NewYear (a0, ()) = some (r_molad_NewYear.enc (newYearG a0)) := by
 refine ⟨200, 6, ?_⟩
 rw [tree_molad_NewYear, rec_bif]
 unfold newYearG
 cases hr : recM a0 with
 | false => rfl
 | true =>
  have := (recM_iff a0).1 hr
  rw [show yearM a0 = true from (yearM_iff _).2 (by omega)]
  rfl
theorem run_molad_Len (a0 : Int) : ∃ F d, run k40 F d 178 Tryz.f178 s_molad_Len (a0, ()) = some (r_molad_Len.enc (lenG a0)) := by
 refine ⟨200, 6, ?_⟩
 rw [tree_molad_Len, rec_bif]
 unfold lenG
 cases hr : recM a0 with
 | false => rfl
 | true =>
  have := (recM_iff a0).1 hr
  rw [show yearM2 a0 = true by simp only [yearM2, Bool.and_eq_true, decide_eq_true_eq]; omega]
  rfl
theorem run_hebrew_Days (a0 : Int) (a1 : Int) : ∃ F d, run k41 F d 180 Tryz.f180 s_hebrew_Days (a0, a1, ()) = some (r_hebrew_Days.enc (daysH a0 a1)) := by
 refine ⟨200, 6, ?_⟩
 rw [tree_hebrew_Days]
 unfold daysH lenG
 cases hr : recM a0 with
 | false => rfl
 | true =>
  have hb := (recM_iff a0).1 hr
  rw [show midW a0 = true from (midW_iff _).2 (by omega)]
  simp only [cond_true, Bool.true_and, Bool.true_or]
  have e : (bif bif ((0 : Int) != 0) then true else decide (a1 < 1) then true else decide (a1 > 13)) = !(decide (1 ≤ a1) && decide (a1 ≤ 13)) := by
   rw [Bool.eq_iff_iff]
   simp only [bne_self_eq_false, cond_false]
   cases h1 : decide (a1 < 1) <;> simp at h1 ⊢ <;> omega
  rw [e]
  cases hm : (decide (1 ≤ a1) && decide (a1 ≤ 13)) with
  | false => rfl
  | true =>
   simp only [Bool.not_true, cond_false, cond_true, long30]
   cases leapM a0 <;> cases h6 : a1 == 6 <;> cases h2 : a1 == 2 <;> cases h3 : a1 == 3 <;> cases h1 : a1 == 1 <;> cases h5 : a1 == 5 <;> cases h8 : a1 == 8 <;> cases h10 : a1 == 10 <;> cases h12 : a1 == 12 <;> cases (lenM a0).tmod 10 == 5 <;> cases (lenM a0).tmod 10 != 3 <;> rfl
theorem go_yh (O0 P0 P1 P2 Q0 v3 : Int) (F d : Nat) : ∀ (k : Nat) (h : Int) (n : Nat), yearReach O0 k h = true → k ≤ n →
  I_yh F (d + 3) n (S_yh O0 P0 P1 P2 h v3) = some (.exit 0, (X_yh_0 O0 P0 P1 P2 (yearGo O0 k h) v3)) := by
 intro k
 induction k with
 | zero => intro h n hr hn; cases hr
 | succ k ih =>
  intro h n hr hn
  obtain ⟨n, rfl⟩ : ∃ k, n = k + 1 := ⟨n - 1, by omega⟩
  simp only [yearReach, Bool.and_eq_true, Bool.or_eq_true] at hr
  obtain ⟨h0, h1⟩ := hr
  have hb := (recM_iff h).1 h0
  rw [step_yh]
  have e1 : newYearG h = (newY h, 0) := by unfold newYearG; rw [h0]; rfl
  have e2 : lenG h = (lenM h, 0) := by unfold lenG; rw [h0]; rfl
  have hn1 := newY_range (h := h + 1) (by omega) (by omega)
  rw [e1, e2]
  dsimp only
  rw [← newY_next, wrI (n := newY (h + 1)) (by omega), wrI (n := h + 1) (by omega)]
  unfold yearGo
  cases hd : decide (O0 < newY (h + 1)) with
  | true => rfl
  | false =>
   rw [hd] at h1
   rw [cond_false, cond_false]
   rcases h1 with h1 | h1
   ·cases h1
   ·exact ih (h + 1) n h1 (by omega)
theorem main_yh (O0 P0 P1 P2 Q0 v3 : Int) (hg : (yearReach O0 600 Q0) = true) : ∃ N d, I_yh N d N (S_yh O0 P0 P1 P2 Q0 v3) = some (altK Prod.mk [] (.exit 0) (X_yh_0 O0 P0 P1 P2 (yearGo O0 600 Q0) v3)) := by
 exact ⟨700, 3, go_yh O0 P0 P1 P2 Q0 v3 700 0 600 Q0 700 hg (by omega)⟩
theorem days_range (h m : Int) : 0 ≤ daysH h m ∧ daysH h m ≤ 30 := by
 unfold daysH
 cases recM h && (decide (1 ≤ m) && decide (m ≤ 13)) <;> cases m == 6 && !leapM h <;> cases long30 h m <;> simp
theorem go_hm (O0 P0 P1 P2 Q0 R0 R1 R2 S0 U0 v4 : Int) (F d : Nat) (hi : inH O0 = true) : ∀ (k : Nat) (m f mo da : Int) (n : Nat), (14 - m).toNat = k → 1 ≤ m → m ≤ 14 → 0 ≤ f → f ≤ 3000000 + 30 * m → k < n →
  I_hm F (d + 3) n (S_hm O0 P0 P1 P2 Q0 R0 mo da Q0 f m) = some (cond (datH O0 Q0 k m f mo da).1 (.ret, (X_hm_0 O0 P0 P1 P2 Q0 R0 ((datH O0 Q0 k m f mo da).2.1) ((datH O0 Q0 k m f mo da).2.2.1) Q0 ((datH O0 Q0 k m f mo da).2.2.2))) (.exit 0, (X_hm_1 O0 P0 P1 P2 Q0 R0 ((datH O0 Q0 k m f mo da).2.1) ((datH O0 Q0 k m f mo da).2.2.1) Q0 ((datH O0 Q0 k m f mo da).2.2.2)))) := by
 have hi' : 249 ≤ O0 ∧ O0 < 2278651 := by simpa only [inH, Bool.and_eq_true, decide_eq_true_eq] using hi
 intro k
 induction k with
 | zero =>
  intro m f mo da n hk h1 h2 h3 h4 hn
  obtain ⟨n, rfl⟩ : ∃ k, n = k + 1 := ⟨n - 1, by omega⟩
  rw [step_hm, decide_eq_false (by omega : ¬ m ≤ 13)]
  rfl
 | succ k ih =>
  intro m f mo da n hk h1 h2 h3 h4 hn
  obtain ⟨n, rfl⟩ : ∃ k, n = k + 1 := ⟨n - 1, by omega⟩
  have hd := days_range Q0 m
  rw [step_hm, decide_eq_true (by omega : m ≤ 13), cond_true]
  unfold datH
  rw [wrI (n := f + daysH Q0 m) (by omega), wrI (n := m + 1) (by omega)]
  cases hc : decide (O0 < f) with
  | true => rfl
  | false =>
   rw [wrI (n := O0 - f) (by omega), wrI (n := O0 - f + 1) (by omega)]
   rw [cond_false]
   cases decide (daysH Q0 m > 0) with
   | true =>
    rw [cond_true, cond_true]
    exact ih (m + 1) (f + daysH Q0 m) m (O0 - f + 1) n (by omega) (by omega) (by omega) (by omega) (by omega) (by omega)
   | false =>
    rw [cond_false, cond_false]
    exact ih (m + 1) (f + daysH Q0 m) mo da n (by omega) (by omega) (by omega) (by omega) (by omega) (by omega)
theorem main_hm (O0 P0 P1 P2 Q0 R0 R1 R2 S0 U0 v4 : Int) (hg : (monOk O0 Q0 S0 v4 U0) = true) : ∃ N d, I_hm N d N (S_hm O0 P0 P1 P2 Q0 R0 R1 R2 S0 U0 v4) = some (altK Prod.mk [((datH O0 Q0 (14 - v4).toNat v4 U0 R1 R2).1, .ret, (X_hm_0 O0 P0 P1 P2 Q0 R0 (datH O0 Q0 (14 - v4).toNat v4 U0 R1 R2).2.1 (datH O0 Q0 (14 - v4).toNat v4 U0 R1 R2).2.2.1 S0 (datH O0 Q0 (14 - v4).toNat v4 U0 R1 R2).2.2.2))] (.exit 0) (X_hm_1 O0 P0 P1 P2 Q0 R0 (datH O0 Q0 (14 - v4).toNat v4 U0 R1 R2).2.1 (datH O0 Q0 (14 - v4).toNat v4 U0 R1 R2).2.2.1 S0 (datH O0 Q0 (14 - v4).toNat v4 U0 R1 R2).2.2.2)) := by
 simp only [monOk, Bool.and_eq_true, beq_iff_eq, decide_eq_true_eq] at hg
 obtain ⟨rfl, h1, h2, h3, h4, h5⟩ := hg
 refine ⟨20, 3, ?_⟩
 have := go_hm O0 P0 P1 P2 Q0 R0 R1 R2 Q0 U0 v4 20 0 h1 (14 - v4).toNat v4 U0 R1 R2 20 rfl h2 h3 h4 h5 (by omega)
 rw [this]
 simp only [altK]
theorem run_hebrew_Of (a0 : Int) : ∃ F d, run k44 F d 175 Tryz.f175 s_hebrew_Of (a0, ()) = some (r_hebrew_Of.enc (hofG a0)) := by
 refine ⟨200, 6, ?_⟩
 rw [tree_hebrew_Of]
 have w1 : newY 3762 = 249 := newY_first
 have w2 : IntKind.wrap IntKind.i64 (newY 9999 + lenM 9999) = 2278651 := by
  rw [← newY_next, show (9999 : Int) + 1 = 10000 from rfl, newY_last]
  rfl
 rw [w1, w2]
 have hc : (bif decide (a0 < 249) then true else decide (a0 ≥ 2278651)) = !inH a0 := by
  unfold inH
  rw [Bool.eq_iff_iff]
  cases h1 : decide (a0 < 249) <;> simp at h1 ⊢ <;> omega
 rw [hc]
 unfold hofG
 cases hi : inH a0 with
 | false => rfl
 | true =>
  obtain ⟨y0, y1, y2, y3, y4, y5, y6⟩ := hyear_spec hi
  have hb : 249 ≤ a0 ∧ a0 < 2278651 := by simpa only [inH, Bool.and_eq_true, decide_eq_true_eq] using hi
  have hyr := (recM_iff _).1 y0
  have ew : IntKind.wrap IntKind.i64 (3762 + IntKind.wrap IntKind.i64 (Int.tdiv (IntKind.wrap IntKind.i64 (a0 - 249)) 386)) = fromH a0 := by
   rw [wrI (n := a0 - 249) (by omega)]
   have : 0 ≤ Int.tdiv (a0 - 249) 386 ∧ Int.tdiv (a0 - 249) 386 ≤ 10000 := by rw [Int.tdiv_eq_ediv_of_nonneg (by omega)]; omega
   rw [wrI (n := Int.tdiv (a0 - 249) 386) (by omega), wrI (by omega)]
   rfl
  rw [ew]
  have eh : yearGo a0 600 (fromH a0) = hyear a0 := rfl
  have e1 : newYearG (hyear a0) = (newY (hyear a0), 0) := by unfold newYearG; rw [y0]; rfl
  rw [eh, y3, e1]
  have hm := newY_mono (a := 3762) (b := hyear a0) (by omega) hyr.1 (by omega)
  rw [w1] at hm
  rw [show monOk a0 (hyear a0) (hyear a0) 1 (newY (hyear a0)) = true by simp only [monOk, hi, beq_self_eq_true, Bool.true_and, Bool.and_eq_true, decide_eq_true_eq]; omega]
  cases hd : (datH a0 (hyear a0) 13 1 (newY (hyear a0)) 0 0).1 <;> simp only [Bool.not_true, cond_false, cond_true, Bool.and_self, hd] <;> rfl
end Go.Proofs.YtfhepbbkggdlcaaGreatDoor.Px.PxT
