/- Configurations: zones, sunsets and what is the same. -/
import Derived.Test.YtchmdbfcmcoohaaPxCProofs
set_option linter.unusedVariables false
set_option linter.unusedSimpArgs false
namespace Go.Proofs.Ytchmdbfcmcoohaa.Px.PxC
open Go Go.Proofs
set_option linter.unusedSimpArgs false
set_option linter.unusedVariables false

theorem out_in (x a b : Int) : (bif decide (x < a) then true else decide (x > b)) = !inB x a b := by
  rw [Bool.eq_iff_iff]; simp [inB]; try omega
theorem out_in' (x a b : Int) : (bif decide (x > b) then true else decide (x < a)) = !inB x a b := by
  rw [Bool.eq_iff_iff]; simp [inB]; try omega
theorem wrap_sub {x y a b : Int} (hx : inB x a b = true) (hy : inB y a b = true) (h : -10000 ≤ a) (h' : b ≤ 10000) : IntKind.wrap IntKind.i64 (y - x) = y - x := by
  rw [inB_iff] at hx hy
  exact IntWalk.i64_in _ (by omega)
theorem two0 (x y : Int) : List.getD [x, y] 0 0 = x := rfl
theorem two1 (x y : Int) : List.getD [x, y] 1 0 = y := rfl
theorem turn_eq0 (x : Turn) : (Turn.month x == 0 && (Turn.week x == 0 && (Turn.weekday x == 0 && (Turn.minute x == 0 && true)))) = decide (x = turn0) := by
  cases x; rw [Bool.eq_iff_iff]; simp [turn0]
theorem turn_eq (x y : Turn) : (Turn.month x == Turn.month y && (Turn.week x == Turn.week y && (Turn.weekday x == Turn.weekday y && (Turn.minute x == Turn.minute y && true)))) = decide (x = y) := by
  cases x; cases y; rw [Bool.eq_iff_iff]; simp
theorem max_min {x y : Int} (hx : inB x 1 12 = true) (hy : inB y 1 12 = true) : inB (IntKind.wrap IntKind.i64 ((bif decide (y > x) then y else x) - bif decide (y < x) then y else x)) 2 10 = inB (apart x y) 2 10 := by
  rw [inB_iff] at hx hy
  unfold apart
  by_cases h : x ≤ y
  · by_cases h2 : y ≤ x
    · have : x = y := by omega
      subst this
      simp [IntKind.wrap, IntKind.bits, IntKind.signed, inB]
    · simp only [show y > x by omega, show ¬ y < x by omega, decide_true, decide_false, cond_true, cond_false, if_pos h]
      rw [IntWalk.i64_in _ (by omega)]
  · simp only [show ¬ y > x by omega, show y < x by omega, decide_true, decide_false, cond_true, cond_false, if_neg h]
    rw [IntWalk.i64_in _ (by omega)]

theorem run_zone_Check (a0 : Zone) : ∃ F d, run k8 F d 25 Try.f25 s_zone_Check (a0, ()) = some (r_zone_Check.enc (zone_Check a0)) := by
  refine ⟨200, 6, ?_⟩
  rw [tree_zone_Check]
  simp only [r_zone_Check, Res.int, zone_Check, turnsB, turnB, turn_eq0]
  cases h1 : inB a0.base (-720) 840
  · rfl
  cases h2 : inB a0.shift 0 120
  · rfl
  have h2' := inB_iff.1 h2
  by_cases h3 : a0.shift = 0
  · simp only [h3, show decide ((0 : Int) > 0) = false from rfl, show ((0 : Int) == 0) = true from rfl]
    cases decide (a0.on = turn0) <;> cases decide (a0.off = turn0) <;> rfl
  · have e1 : decide (a0.shift > 0) = true := by simp; omega
    have e2 : (a0.shift == 0) = false := by simp; omega
    rw [e1, e2]
    cases g1 : inB a0.on.month 1 12
    · rfl
    cases g2 : inB a0.on.week 1 5
    · rfl
    cases g3 : inB a0.on.weekday 0 6
    · rfl
    cases g4 : inB a0.on.minute 0 1439
    · rfl
    cases g5 : inB a0.off.month 1 12
    · rfl
    cases g6 : inB a0.off.week 1 5
    · rfl
    cases g7 : inB a0.off.weekday 0 6
    · rfl
    cases g8 : inB a0.off.minute 0 1439
    · rfl
    rw [max_min g1 g5]
    cases inB (apart a0.on.month a0.off.month) 2 10 <;> rfl
theorem run_newelref06_Check (a0 : Zone) : ∃ F d, run k27 F d 31 Try.f31 s_newelref06_Check (a0, ()) = some (r_newelref06_Check.enc (zone_Check a0)) := by
  refine ⟨200, 6, ?_⟩
  rw [tree_newelref06_Check]
  simp only [r_newelref06_Check, Res.int, zone_Check, turnsB, turn_eq0, out_in]
  cases h1 : inB a0.base (-720) 840
  · rfl
  cases h2 : inB a0.shift 0 120
  · rfl
  cases h3 : a0.shift == 0
  · cases g1 : turnB a0.on
    · cases decide (IntKind.wrap IntKind.i64 (a0.on.month - a0.off.month) < 0) <;> rfl
    cases g2 : turnB a0.off
    · cases decide (IntKind.wrap IntKind.i64 (a0.on.month - a0.off.month) < 0) <;> rfl
    have b1 : inB a0.on.month 1 12 = true := by simp only [turnB, Bool.and_eq_true] at g1; exact g1.1.1.1
    have b2 : inB a0.off.month 1 12 = true := by simp only [turnB, Bool.and_eq_true] at g2; exact g2.1.1.1
    rw [wrap_sub b2 b1 (by omega) (by omega)]
    have b1' := inB_iff.1 b1
    have b2' := inB_iff.1 b2
    unfold apart
    by_cases h : a0.on.month ≤ a0.off.month
    · by_cases h' : a0.on.month = a0.off.month
      · simp [h', inB]
      · rw [if_pos h, IntWalk.i64_in (0 - (a0.on.month - a0.off.month)) (by omega), show decide (a0.on.month - a0.off.month < 0) = true by simp; omega, show 0 - (a0.on.month - a0.off.month) = a0.off.month - a0.on.month by omega]
        simp only [Bool.not_true, cond_true, cond_false, out_in, Bool.true_and]
        cases inB (a0.off.month - a0.on.month) 2 10 <;> rfl
    · rw [if_neg h, show decide (a0.on.month - a0.off.month < 0) = false by simp; omega]
      simp only [Bool.not_true, cond_true, cond_false, out_in, Bool.true_and]
      cases inB (a0.on.month - a0.off.month) 2 10 <;> rfl
  · cases decide (a0.on = turn0) <;> cases decide (a0.off = turn0) <;> rfl
theorem run_sunset_Check (a0 : Sun) : ∃ F d, run k9 F d 27 Try.f27 s_sunset_Check (a0, ()) = some (r_sunset_Check.enc (sunset_Check a0)) := by
  refine ⟨200, 6, ?_⟩
  rw [tree_sunset_Check]
  simp only [r_sunset_Check, Res.int, sunset_Check, sunL, List.all_cons, List.all_nil, stepsB, List.cons_append, List.nil_append, out_in, two0, two1]
  cases h0 : inB a0.m0 900 1320
  · rfl
  cases h1 : inB a0.m1 900 1320
  · rfl
  cases h2 : inB a0.m2 900 1320
  · rfl
  cases h3 : inB a0.m3 900 1320
  · rfl
  cases h4 : inB a0.m4 900 1320
  · rfl
  cases h5 : inB a0.m5 900 1320
  · rfl
  cases h6 : inB a0.m6 900 1320
  · rfl
  cases h7 : inB a0.m7 900 1320
  · rfl
  cases h8 : inB a0.m8 900 1320
  · rfl
  cases h9 : inB a0.m9 900 1320
  · rfl
  cases h10 : inB a0.m10 900 1320
  · rfl
  cases h11 : inB a0.m11 900 1320
  · rfl
  simp only [ wrap_sub h0 h1 (by omega) (by omega), wrap_sub h1 h2 (by omega) (by omega), wrap_sub h2 h3 (by omega) (by omega), wrap_sub h3 h4 (by omega) (by omega), wrap_sub h4 h5 (by omega) (by omega), wrap_sub h5 h6 (by omega) (by omega), wrap_sub h6 h7 (by omega) (by omega), wrap_sub h7 h8 (by omega) (by omega), wrap_sub h8 h9 (by omega) (by omega), wrap_sub h9 h10 (by omega) (by omega), wrap_sub h10 h11 (by omega) (by omega), wrap_sub h11 h0 (by omega) (by omega), out_in']
  cases inB (a0.m1 - a0.m0) (-120) 120
  · rfl
  cases inB (a0.m2 - a0.m1) (-120) 120
  · rfl
  cases inB (a0.m3 - a0.m2) (-120) 120
  · rfl
  cases inB (a0.m4 - a0.m3) (-120) 120
  · rfl
  cases inB (a0.m5 - a0.m4) (-120) 120
  · rfl
  cases inB (a0.m6 - a0.m5) (-120) 120
  · rfl
  cases inB (a0.m7 - a0.m6) (-120) 120
  · rfl
  cases inB (a0.m8 - a0.m7) (-120) 120
  · rfl
  cases inB (a0.m9 - a0.m8) (-120) 120
  · rfl
  cases inB (a0.m10 - a0.m9) (-120) 120
  · rfl
  cases inB (a0.m11 - a0.m10) (-120) 120
  · rfl
  cases inB (a0.m0 - a0.m11) (-120) 120
  · rfl
  rfl
theorem run_newelref07_Check (a0 : Sun) : ∃ F d, run k28 F d 32 Try.f32 s_newelref07_Check (a0, ()) = some (r_newelref07_Check.enc (sunset_Check a0)) := by
  refine ⟨200, 6, ?_⟩
  rw [tree_newelref07_Check]
  simp only [r_newelref07_Check, Res.int, sunset_Check, sunL, List.all_cons, List.all_nil, stepsB, List.cons_append, List.nil_append, out_in, two0, two1]
  cases h0 : inB a0.m0 900 1320
  · rfl
  cases h1 : inB a0.m1 900 1320
  · rfl
  cases h2 : inB a0.m2 900 1320
  · rfl
  cases h3 : inB a0.m3 900 1320
  · rfl
  cases h4 : inB a0.m4 900 1320
  · rfl
  cases h5 : inB a0.m5 900 1320
  · rfl
  cases h6 : inB a0.m6 900 1320
  · rfl
  cases h7 : inB a0.m7 900 1320
  · rfl
  cases h8 : inB a0.m8 900 1320
  · rfl
  cases h9 : inB a0.m9 900 1320
  · rfl
  cases h10 : inB a0.m10 900 1320
  · rfl
  cases h11 : inB a0.m11 900 1320
  · rfl
  simp only [ wrap_sub h0 h1 (by omega) (by omega), wrap_sub h1 h2 (by omega) (by omega), wrap_sub h2 h3 (by omega) (by omega), wrap_sub h3 h4 (by omega) (by omega), wrap_sub h4 h5 (by omega) (by omega), wrap_sub h5 h6 (by omega) (by omega), wrap_sub h6 h7 (by omega) (by omega), wrap_sub h7 h8 (by omega) (by omega), wrap_sub h8 h9 (by omega) (by omega), wrap_sub h9 h10 (by omega) (by omega), wrap_sub h10 h11 (by omega) (by omega), wrap_sub h11 h0 (by omega) (by omega), out_in']
  cases inB (a0.m1 - a0.m0) (-120) 120
  · rfl
  cases inB (a0.m2 - a0.m1) (-120) 120
  · rfl
  cases inB (a0.m3 - a0.m2) (-120) 120
  · rfl
  cases inB (a0.m4 - a0.m3) (-120) 120
  · rfl
  cases inB (a0.m5 - a0.m4) (-120) 120
  · rfl
  cases inB (a0.m6 - a0.m5) (-120) 120
  · rfl
  cases inB (a0.m7 - a0.m6) (-120) 120
  · rfl
  cases inB (a0.m8 - a0.m7) (-120) 120
  · rfl
  cases inB (a0.m9 - a0.m8) (-120) 120
  · rfl
  cases inB (a0.m10 - a0.m9) (-120) 120
  · rfl
  cases inB (a0.m11 - a0.m10) (-120) 120
  · rfl
  cases inB (a0.m0 - a0.m11) (-120) 120
  · rfl
  rfl
end Go.Proofs.Ytchmdbfcmcoohaa.Px.PxC
