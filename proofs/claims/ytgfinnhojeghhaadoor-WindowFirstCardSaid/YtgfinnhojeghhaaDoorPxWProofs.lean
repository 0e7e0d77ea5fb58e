/- Days, dates and zones: the functions are what is said of them. -/
import Derived.Test.YtgfinnhojeghhaaDoorPxWSteps
import Derived.Test.YtgfinnhojeghhaaDoorPxIdx
set_option linter.unusedVariables false
set_option linter.unusedSimpArgs false
namespace Go.Proofs.YtgfinnhojeghhaaDoor.Px.PxW
open Go Go.Proofs
set_option linter.unusedSimpArgs false
set_option linter.unusedVariables false

theorem div_big {a b K : Int} (hb : 1 ≤ b) (h0 : 0 ≤ K) (h1 : -K ≤ a) (h2 : a ≤ K) : -K ≤ a / b ∧ a / b ≤ K := by
  have hm : K * 1 ≤ K * b := Int.mul_le_mul_of_nonneg_left hb h0
  constructor
  · rw [Int.le_ediv_iff_mul_le (by omega), Int.neg_mul]
    omega
  · apply Int.ediv_le_of_le_mul (by omega)
    omega

theorem run_divs_Div (a0 : Int) (a1 : Int) (hg : divOk a0 a1 = true) : ∃ F d, run k1 F d 46 Tryd.f46 s_divs_Div (a0, a1, ()) = some (r_divs_Div.enc (divsDiv a0 a1)) := by
  refine ⟨200, 6, ?_⟩
  rw [tree_divs_Div]
  simp only [divOk, byB, big, Bool.and_eq_true, decide_eq_true_eq] at hg
  have e1 : decide (a1 < 1) = false := by simp; omega
  have e2 : (a1 != 0) = true := by rw [bne_iff_ne]; omega
  obtain ⟨d1, d2, d3, d4⟩ := div_down (a := a0) (b := a1) (by omega)
  obtain ⟨q1, q2⟩ := div_big (a := a0) (b := a1) (K := 1000000000000) (by omega) (by omega) (by omega) (by omega)
  simp only [e1, e2, cond_true, cond_false]
  by_cases h : a0.tmod a1 < 0
  · obtain ⟨f1, f2⟩ := d1 h
    rw [decide_eq_true h, cond_true, wrI (n := a0.tdiv a1) (by omega), wrI (by omega), ← f1]
    rfl
  · obtain ⟨f1, f2⟩ := d2 (by omega)
    rw [decide_eq_false h, cond_false, wrI (n := a0.tdiv a1) (by omega), ← f1]
    rfl

theorem run_divs_Mod (a0 : Int) (a1 : Int) (hg : divOk a0 a1 = true) : ∃ F d, run k2 F d 59 Tryd.f59 s_divs_Mod (a0, a1, ()) = some (r_divs_Mod.enc (divsMod a0 a1)) := by
  refine ⟨200, 6, ?_⟩
  rw [tree_divs_Mod]
  simp only [divOk, byB, big, Bool.and_eq_true, decide_eq_true_eq] at hg
  have e1 : decide (a1 < 1) = false := by simp; omega
  have e2 : (a1 != 0) = true := by rw [bne_iff_ne]; omega
  obtain ⟨d1, d2, d3, d4⟩ := div_down (a := a0) (b := a1) (by omega)
  simp only [e1, e2, cond_true, cond_false]
  by_cases h : a0.tmod a1 < 0
  · obtain ⟨f1, f2⟩ := d1 h
    rw [decide_eq_true h, cond_true, wrI (by omega), ← f2]
    rfl
  · obtain ⟨f1, f2⟩ := d2 (by omega)
    rw [decide_eq_false h, cond_false, ← f2]
    rfl

theorem next_rest {a b r : Int} (hb : 1 ≤ b) (h0 : 0 ≤ r) (h1 : r < b) : (r - a % b) % b = (if r - a % b ≥ 0 then r - a % b else r - a % b + b) ∧ 0 ≤ (r - a % b) % b ∧ (r - a % b) % b < b := by
  have e2 := Int.emod_nonneg a (show b ≠ 0 by omega)
  have e3 := Int.emod_lt_of_pos a (show 0 < b by omega)
  refine ⟨?_, Int.emod_nonneg _ (by omega), Int.emod_lt_of_pos _ (by omega)⟩
  split
  · exact Int.emod_eq_of_lt (by omega) (by omega)
  · rw [← Int.add_emod_right, Int.emod_eq_of_lt (by omega) (by omega)]

theorem run_divs_Next (a0 : Int) (a1 : Int) (a2 : Int) (hg : nextOk a0 a1 a2 = true) : ∃ F d, run k3 F d 74 Tryd.f74 s_divs_Next (a0, a1, a2, ()) = some (r_divs_Next.enc (divsNext a0 a1 a2)) := by
  refine ⟨200, 6, ?_⟩
  rw [tree_divs_Next]
  simp only [nextOk, Bool.and_eq_true, decide_eq_true_eq] at hg
  obtain ⟨hd, hr0, hr1⟩ := hg
  have hd' := hd
  simp only [divOk, byB, big, Bool.and_eq_true, decide_eq_true_eq] at hd'
  obtain ⟨n1, n2, n3⟩ := next_rest (a := a0) (b := a1) (r := a2) (by omega) hr0 hr1
  have e2 := Int.emod_nonneg a0 (show a1 ≠ 0 by omega)
  have e3 := Int.emod_lt_of_pos a0 (show 0 < a1 by omega)
  have g1 : (bif decide (a2 < 0) then true else decide (a2 ≥ a1)) = false := by
    have : decide (a2 < 0) = false := by simp; omega
    rw [this, cond_false]; simp; omega
  rw [hd, g1]
  simp only [Bool.and_self, Bool.true_and, cond_true, cond_false]
  rw [wrI (n := a2 - a0 % a1) (by omega)]
  by_cases h : a2 - a0 % a1 ≥ 0
  · rw [if_pos h] at n1
    have g2 : decide (a0 > 9223372036854775807 - (a2 - a0 % a1)) = false := by simp; omega
    rw [decide_eq_true h, cond_true, wrI (n := 9223372036854775807 - (a2 - a0 % a1)) (by omega), g2, cond_false, wrI (by omega), ← n1]
    rfl
  · rw [if_neg h] at n1
    rw [decide_eq_false h, cond_false, wrI (n := a2 - a0 % a1 + a1) (by omega), wrI (n := 9223372036854775807 - (a2 - a0 % a1 + a1)) (by omega)]
    have g2 : decide (a0 > 9223372036854775807 - (a2 - a0 % a1 + a1)) = false := by simp; omega
    rw [g2, cond_false, wrI (by omega), ← n1]
    rfl

theorem run_greg_Leap (a0 : Int) : ∃ F d, run k4 F d 80 Tryd.f80 s_greg_Leap (a0, ()) = some (r_greg_Leap.enc (leapG a0)) := by
  refine ⟨200, 6, ?_⟩
  rw [tree_greg_Leap]
  simp only [r_greg_Leap, Res.bool, leapG]
  cases Int.tmod a0 4 == 0 <;> cases Int.tmod a0 100 != 0 <;> rfl

theorem run_greg_Days (a0 : Int) (a1 : Int) : ∃ F d, run k5 F d 72 Tryd.f72 s_greg_Days (a0, a1, ()) = some (r_greg_Days.enc (daysG a0 a1)) := by
  refine ⟨200, 6, ?_⟩
  rw [tree_greg_Days]
  simp only [r_greg_Days, Res.int, daysG]
  have hc : (bif bif bif decide (a0 < 1) then true else decide (a0 > 9999) then true else decide (a1 < 1) then true else decide (a1 > 12)) = !monthB a0 a1 := by
    rw [Bool.eq_iff_iff]
    by_cases h1 : a0 < 1 <;> by_cases h2 : a0 > 9999 <;> by_cases h3 : a1 < 1 <;> by_cases h4 : a1 > 12 <;> simp [monthB, h1, h2, h3, h4] <;> omega
  rw [hc]
  cases hm : monthB a0 a1 with
  | false => rfl
  | true =>
    simp only [monthB, Bool.and_eq_true, decide_eq_true_eq] at hm
    simp only [Bool.not_true, cond_false, cond_true]
    rw [show (bif a1 == 2 then leapG a0 else false) = (a1 == 2 && leapG a0) by cases a1 == 2 <;> rfl]
    cases (a1 == 2 && leapG a0) with
    | true => rfl
    | false =>
      simp only [cond_false]
      rw [wrI (n := a1 - 1) (by omega)]
      have g1 : decide (0 ≤ a1 - 1) = true := by simp; omega
      have g2 : decide (a1 - 1 < ((12 : Nat) : Int)) = true := by simp; omega
      have g3 : Nat.ble (0 + Int.toNat (a1 - 1) * 1 + 1) 12 = true := by simp; omega
      rw [g1, g2, Bool.and_self, cond_true, g3, cond_true, Nat.zero_add, Nat.mul_one]
      rfl

theorem run_greg_ahead (a0 : Int) : ∃ F d, run k6 F d 61 Tryd.f61 s_greg_ahead (a0, ()) = some (r_greg_ahead.enc (aheadG a0)) := by
  refine ⟨200, 6, ?_⟩
  rw [tree_greg_ahead]
  have k : ∀ n : Nat, n < 12 → IntKind.wrap IntKind.i64 (sumG a0 n + daysG a0 ((n : Int) + 1)) = sumG a0 (n + 1) := fun n hn => by
    have h1 := sumG_range a0 n
    have h2 := daysG_range a0 ((n : Int) + 1)
    exact wrI (by omega)
  have w : ∀ n : Int, 0 ≤ n → n ≤ 20 → IntKind.wrap IntKind.i64 (n + 1) = n + 1 := fun n h1 h2 => wrI (by omega)
  have m1 : IntKind.wrap IntKind.i64 (1 + 1) = 2 := rfl
  have m2 : IntKind.wrap IntKind.i64 (2 + 1) = 3 := rfl
  have m3 : IntKind.wrap IntKind.i64 (3 + 1) = 4 := rfl
  have m4 : IntKind.wrap IntKind.i64 (4 + 1) = 5 := rfl
  have m5 : IntKind.wrap IntKind.i64 (5 + 1) = 6 := rfl
  have m6 : IntKind.wrap IntKind.i64 (6 + 1) = 7 := rfl
  have m7 : IntKind.wrap IntKind.i64 (7 + 1) = 8 := rfl
  have m8 : IntKind.wrap IntKind.i64 (8 + 1) = 9 := rfl
  have m9 : IntKind.wrap IntKind.i64 (9 + 1) = 10 := rfl
  have m10 : IntKind.wrap IntKind.i64 (10 + 1) = 11 := rfl
  have m11 : IntKind.wrap IntKind.i64 (11 + 1) = 12 := rfl
  have s0 : IntKind.wrap IntKind.i64 (0 + daysG a0 1) = sumG a0 1 := k 0 (by omega)
  have s1 : IntKind.wrap IntKind.i64 (sumG a0 1 + daysG a0 2) = sumG a0 2 := k 1 (by omega)
  have s2 : IntKind.wrap IntKind.i64 (sumG a0 2 + daysG a0 3) = sumG a0 3 := k 2 (by omega)
  have s3 : IntKind.wrap IntKind.i64 (sumG a0 3 + daysG a0 4) = sumG a0 4 := k 3 (by omega)
  have s4 : IntKind.wrap IntKind.i64 (sumG a0 4 + daysG a0 5) = sumG a0 5 := k 4 (by omega)
  have s5 : IntKind.wrap IntKind.i64 (sumG a0 5 + daysG a0 6) = sumG a0 6 := k 5 (by omega)
  have s6 : IntKind.wrap IntKind.i64 (sumG a0 6 + daysG a0 7) = sumG a0 7 := k 6 (by omega)
  have s7 : IntKind.wrap IntKind.i64 (sumG a0 7 + daysG a0 8) = sumG a0 8 := k 7 (by omega)
  have s8 : IntKind.wrap IntKind.i64 (sumG a0 8 + daysG a0 9) = sumG a0 9 := k 8 (by omega)
  have s9 : IntKind.wrap IntKind.i64 (sumG a0 9 + daysG a0 10) = sumG a0 10 := k 9 (by omega)
  have s10 : IntKind.wrap IntKind.i64 (sumG a0 10 + daysG a0 11) = sumG a0 11 := k 10 (by omega)
  have s11 : IntKind.wrap IntKind.i64 (sumG a0 11 + daysG a0 12) = sumG a0 12 := k 11 (by omega)
  simp only [m1, m2, m3, m4, m5, m6, m7, m8, m9, m10, m11, s0, s1, s2, s3, s4, s5, s6, s7, s8, s9, s10, s11]
  rfl

theorem run_greg_before (a0 : Int) (hg : yearB a0 = true) : ∃ F d, run k7 F d 81 Tryd.f81 s_greg_before (a0, ()) = some (r_greg_before.enc (beforeG a0)) := by
  refine ⟨200, 6, ?_⟩
  rw [tree_greg_before]
  simp only [yearB, Bool.and_eq_true, decide_eq_true_eq] at hg
  simp only [r_greg_before, Res.int, beforeG]
  have t4 : Int.tdiv (a0 - 1) 4 = (a0 - 1) / 4 := Int.tdiv_eq_ediv_of_nonneg (by omega)
  have t100 : Int.tdiv (a0 - 1) 100 = (a0 - 1) / 100 := Int.tdiv_eq_ediv_of_nonneg (by omega)
  have t400 : Int.tdiv (a0 - 1) 400 = (a0 - 1) / 400 := Int.tdiv_eq_ediv_of_nonneg (by omega)
  rw [wrI (n := a0 - 1) (by omega), t4, t100, t400, wrI (n := 365 * (a0 - 1)) (by omega), wrI (n := (a0 - 1) / 4) (by omega), wrI (n := (a0 - 1) / 100) (by omega), wrI (n := (a0 - 1) / 400) (by omega),
    wrI (n := 365 * (a0 - 1) + (a0 - 1) / 4) (by omega), wrI (n := 365 * (a0 - 1) + (a0 - 1) / 4 - (a0 - 1) / 100) (by omega), wrI (by omega)]

theorem sel_sum {y : Int} {k : Nat} (h : k < 13) : selI [0, sumG y 1, sumG y 2, sumG y 3, sumG y 4, sumG y 5, sumG y 6, sumG y 7, sumG y 8, sumG y 9, sumG y 10, sumG y 11, sumG y 12] k = sumG y k := by
  have : k = 0 ∨ k = 1 ∨ k = 2 ∨ k = 3 ∨ k = 4 ∨ k = 5 ∨ k = 6 ∨ k = 7 ∨ k = 8 ∨ k = 9 ∨ k = 10 ∨ k = 11 ∨ k = 12 := by omega
  rcases this with rfl | rfl | rfl | rfl | rfl | rfl | rfl | rfl | rfl | rfl | rfl | rfl | rfl <;> rfl

theorem run_greg_Day (a0 : Date) : ∃ F d, run k8 F d 73 Tryd.f73 s_greg_Day (a0, ()) = some (r_greg_Day.enc (dayG a0)) := by
  refine ⟨200, 6, ?_⟩
  rw [tree_greg_Day]
  unfold dayG
  rw [show (bif decide (a0.day < 1) then true else decide (a0.day > daysG a0.year a0.month)) = (decide (a0.day < 1) || decide (a0.day > daysG a0.year a0.month)) by cases decide (a0.day < 1) <;> rfl]
  cases hb : (decide (a0.day < 1) || decide (a0.day > daysG a0.year a0.month)) with
  | true => rfl
  | false =>
    simp only [Bool.or_eq_false_iff, decide_eq_false_iff_not] at hb
    obtain ⟨r1, r2, r3⟩ := daysG_range a0.year a0.month
    obtain ⟨y1, y2, m1, m2⟩ := r3 (by omega)
    have hy : yearB a0.year = true := by simp only [yearB, Bool.and_eq_true, decide_eq_true_eq]; omega
    have hbf := beforeG_range (y := a0.year) y1 (by omega)
    have hs := sumG_range a0.year (a0.month - 1).toNat
    rw [hy, wrI (n := a0.month - 1) (by omega)]
    have g1 : decide (0 ≤ a0.month - 1) = true := by simp; omega
    have g2 : decide (a0.month - 1 < ((13 : Nat) : Int)) = true := by simp; omega
    simp only [g1, g2, Bool.and_self, Bool.true_and, cond_true, cond_false, Nat.mul_one]
    rw [sel_sum (by omega), wrI (n := beforeG a0.year + sumG a0.year (a0.month - 1).toNat) (by omega), wrI (by omega)]
    rfl
end Go.Proofs.YtgfinnhojeghhaaDoor.Px.PxW
