/- What is said of functions that other seats have, too. -/
import Derived.Test.YtgfinnhojeghhaaDoorPxXProofs
import Derived.Test.YtgfinnhojeghhaaDoorPxSpecGreg
set_option linter.unusedVariables false
set_option linter.unusedSimpArgs false
namespace Go.Proofs.YtgfinnhojeghhaaDoor.Px.PxX
open Go Go.Proofs
set_option linter.unusedSimpArgs false
set_option linter.unusedVariables false

theorem div_big {a b K : Int} (hb : 1 ≤ b) (h0 : 0 ≤ K) (h1 : -K ≤ a) (h2 : a ≤ K) : -K ≤ a / b ∧ a / b ≤ K := by
  have hm : K * 1 ≤ K * b := Int.mul_le_mul_of_nonneg_left hb h0
  constructor
  · rw [Int.le_ediv_iff_mul_le (by omega), Int.neg_mul]
    omega
  · apply Int.ediv_le_of_le_mul (by omega)
    omega

theorem run_divs_Div (a0 : Int) (a1 : Int) (hg : divOk a0 a1 = true) : ∃ F d, run k2 F d 46 Tryd.f46 s_divs_Div (a0, a1, ()) = some (r_divs_Div.enc (divsDiv a0 a1)) := by
  refine ⟨200, 6, ?_⟩
  rw [tree_divs_Div]
  simp only [divOk, byB, big, Bool.and_eq_true, decide_eq_true_eq] at hg
  have e1 : decide (a1 < 1) = false := by simp; omega
  have e2 : (a1 != 0) = true := by rw [bne_iff_ne]; omega
  obtain ⟨d1, d2, d3, d4⟩ := div_down (a := a0) (b := a1) (by omega)
  obtain ⟨q1, q2⟩ := div_big (a := a0) (b := a1) (K := 1000000000000) (by omega) (by omega) (by omega) (by omega)
  simp only [e1, e2, cond_true, cond_false]
  by_cases h : a0.tmod a1 < 0
  · obtain ⟨f1, f2⟩ := d1 h
    rw [decide_eq_true h, cond_true, wrI (n := a0.tdiv a1) (by omega), wrI (by omega), ← f1]
    rfl
  · obtain ⟨f1, f2⟩ := d2 (by omega)
    rw [decide_eq_false h, cond_false, wrI (n := a0.tdiv a1) (by omega), ← f1]
    rfl

theorem run_divs_Mod (a0 : Int) (a1 : Int) (hg : divOk a0 a1 = true) : ∃ F d, run k3 F d 59 Tryd.f59 s_divs_Mod (a0, a1, ()) = some (r_divs_Mod.enc (divsMod a0 a1)) := by
  refine ⟨200, 6, ?_⟩
  rw [tree_divs_Mod]
  simp only [divOk, byB, big, Bool.and_eq_true, decide_eq_true_eq] at hg
  have e1 : decide (a1 < 1) = false := by simp; omega
  have e2 : (a1 != 0) = true := by rw [bne_iff_ne]; omega
  obtain ⟨d1, d2, d3, d4⟩ := div_down (a := a0) (b := a1) (by omega)
  simp only [e1, e2, cond_true, cond_false]
  by_cases h : a0.tmod a1 < 0
  · obtain ⟨f1, f2⟩ := d1 h
    rw [decide_eq_true h, cond_true, wrI (by omega), ← f2]
    rfl
  · obtain ⟨f1, f2⟩ := d2 (by omega)
    rw [decide_eq_false h, cond_false, ← f2]
    rfl

theorem next_rest {a b r : Int} (hb : 1 ≤ b) (h0 : 0 ≤ r) (h1 : r < b) : (r - a % b) % b = (if r - a % b ≥ 0 then r - a % b else r - a % b + b) ∧ 0 ≤ (r - a % b) % b ∧ (r - a % b) % b < b := by
  have e2 := Int.emod_nonneg a (show b ≠ 0 by omega)
  have e3 := Int.emod_lt_of_pos a (show 0 < b by omega)
  refine ⟨?_, Int.emod_nonneg _ (by omega), Int.emod_lt_of_pos _ (by omega)⟩
  split
  · exact Int.emod_eq_of_lt (by omega) (by omega)
  · rw [← Int.add_emod_right, Int.emod_eq_of_lt (by omega) (by omega)]

theorem run_divs_Next (a0 : Int) (a1 : Int) (a2 : Int) (hg : nextOk a0 a1 a2 = true) : ∃ F d, run k4 F d 74 Tryd.f74 s_divs_Next (a0, a1, a2, ()) = some (r_divs_Next.enc (divsNext a0 a1 a2)) := by
  refine ⟨200, 6, ?_⟩
  rw [tree_divs_Next]
  simp only [nextOk, Bool.and_eq_true, decide_eq_true_eq] at hg
  obtain ⟨hd, hr0, hr1⟩ := hg
  have hd' := hd
  simp only [divOk, byB, big, Bool.and_eq_true, decide_eq_true_eq] at hd'
  obtain ⟨n1, n2, n3⟩ := next_rest (a := a0) (b := a1) (r := a2) (by omega) hr0 hr1
  have e2 := Int.emod_nonneg a0 (show a1 ≠ 0 by omega)
  have e3 := Int.emod_lt_of_pos a0 (show 0 < a1 by omega)
  have g1 : (bif decide (a2 < 0) then true else decide (a2 ≥ a1)) = false := by
    have : decide (a2 < 0) = false := by simp; omega
    rw [this, cond_false]; simp; omega
  rw [hd, g1]
  simp only [Bool.and_self, Bool.true_and, cond_true, cond_false]
  rw [wrI (n := a2 - a0 % a1) (by omega)]
  by_cases h : a2 - a0 % a1 ≥ 0
  · rw [if_pos h] at n1
    have g2 : decide (a0 > 9223372036854775807 - (a2 - a0 % a1)) = false := by simp; omega
    rw [decide_eq_true h, cond_true, wrI (n := 9223372036854775807 - (a2 - a0 % a1)) (by omega), g2, cond_false, wrI (by omega), ← n1]
    rfl
  · rw [if_neg h] at n1
    rw [decide_eq_false h, cond_false, wrI (n := a2 - a0 % a1 + a1) (by omega), wrI (n := 9223372036854775807 - (a2 - a0 % a1 + a1)) (by omega)]
    have g2 : decide (a0 > 9223372036854775807 - (a2 - a0 % a1 + a1)) = false := by simp; omega
    rw [g2, cond_false, wrI (by omega), ← n1]
    rfl

theorem run_greg_Leap (a0 : Int) : ∃ F d, run k5 F d 80 Tryd.f80 s_greg_Leap (a0, ()) = some (r_greg_Leap.enc (leapG a0)) := by
  refine ⟨200, 6, ?_⟩
  rw [tree_greg_Leap]
  simp only [r_greg_Leap, Res.bool, leapG]
  cases Int.tmod a0 4 == 0 <;> cases Int.tmod a0 100 != 0 <;> rfl

theorem run_greg_Days (a0 : Int) (a1 : Int) : ∃ F d, run k6 F d 72 Tryd.f72 s_greg_Days (a0, a1, ()) = some (r_greg_Days.enc (daysG a0 a1)) := by
  refine ⟨200, 6, ?_⟩
  rw [tree_greg_Days]
  simp only [r_greg_Days, Res.int, daysG]
  have hc : (bif bif bif decide (a0 < 1) then true else decide (a0 > 9999) then true else decide (a1 < 1) then true else decide (a1 > 12)) = !monthB a0 a1 := by
    rw [Bool.eq_iff_iff]
    by_cases h1 : a0 < 1 <;> by_cases h2 : a0 > 9999 <;> by_cases h3 : a1 < 1 <;> by_cases h4 : a1 > 12 <;> simp [monthB, h1, h2, h3, h4] <;> omega
  rw [hc]
  cases hm : monthB a0 a1 with
  | false => rfl
  | true =>
    simp only [monthB, Bool.and_eq_true, decide_eq_true_eq] at hm
    simp only [Bool.not_true, cond_false, cond_true]
    rw [show (bif a1 == 2 then leapG a0 else false) = (a1 == 2 && leapG a0) by cases a1 == 2 <;> rfl]
    cases (a1 == 2 && leapG a0) with
    | true => rfl
    | false =>
      simp only [cond_false]
      rw [wrI (n := a1 - 1) (by omega)]
      have g1 : decide (0 ≤ a1 - 1) = true := by simp; omega
      have g2 : decide (a1 - 1 < ((12 : Nat) : Int)) = true := by simp; omega
      have g3 : Nat.ble (0 + Int.toNat (a1 - 1) * 1 + 1) 12 = true := by simp; omega
      rw [g1, g2, Bool.and_self, cond_true, g3, cond_true, Nat.zero_add, Nat.mul_one]
      rfl

theorem run_greg_ahead (a0 : Int) : ∃ F d, run k7 F d 61 Tryd.f61 s_greg_ahead (a0, ()) = some (r_greg_ahead.enc (aheadG a0)) := by
  refine ⟨200, 6, ?_⟩
  rw [tree_greg_ahead]
  have k : ∀ n : Nat, n < 12 → IntKind.wrap IntKind.i64 (sumG a0 n + daysG a0 ((n : Int) + 1)) = sumG a0 (n + 1) := fun n hn => by
    have h1 := sumG_range a0 n
    have h2 := daysG_range a0 ((n : Int) + 1)
    exact wrI (by omega)
  have w : ∀ n : Int, 0 ≤ n → n ≤ 20 → IntKind.wrap IntKind.i64 (n + 1) = n + 1 := fun n h1 h2 => wrI (by omega)
  have m1 : IntKind.wrap IntKind.i64 (1 + 1) = 2 := rfl
  have m2 : IntKind.wrap IntKind.i64 (2 + 1) = 3 := rfl
  have m3 : IntKind.wrap IntKind.i64 (3 + 1) = 4 := rfl
  have m4 : IntKind.wrap IntKind.i64 (4 + 1) = 5 := rfl
  have m5 : IntKind.wrap IntKind.i64 (5 + 1) = 6 := rfl
  have m6 : IntKind.wrap IntKind.i64 (6 + 1) = 7 := rfl
  have m7 : IntKind.wrap IntKind.i64 (7 + 1) = 8 := rfl
  have m8 : IntKind.wrap IntKind.i64 (8 + 1) = 9 := rfl
  have m9 : IntKind.wrap IntKind.i64 (9 + 1) = 10 := rfl
  have m10 : IntKind.wrap IntKind.i64 (10 + 1) = 11 := rfl
  have m11 : IntKind.wrap IntKind.i64 (11 + 1) = 12 := rfl
  have s0 : IntKind.wrap IntKind.i64 (0 + daysG a0 1) = sumG a0 1 := k 0 (by omega)
  have s1 : IntKind.wrap IntKind.i64 (sumG a0 1 + daysG a0 2) = sumG a0 2 := k 1 (by omega)
  have s2 : IntKind.wrap IntKind.i64 (sumG a0 2 + daysG a0 3) = sumG a0 3 := k 2 (by omega)
  have s3 : IntKind.wrap IntKind.i64 (sumG a0 3 + daysG a0 4) = sumG a0 4 := k 3 (by omega)
  have s4 : IntKind.wrap IntKind.i64 (sumG a0 4 + daysG a0 5) = sumG a0 5 := k 4 (by omega)
  have s5 : IntKind.wrap IntKind.i64 (sumG a0 5 + daysG a0 6) = sumG a0 6 := k 5 (by omega)
  have s6 : IntKind.wrap IntKind.i64 (sumG a0 6 + daysG a0 7) = sumG a0 7 := k 6 (by omega)
  have s7 : IntKind.wrap IntKind.i64 (sumG a0 7 + daysG a0 8) = sumG a0 8 := k 7 (by omega)
  have s8 : IntKind.wrap IntKind.i64 (sumG a0 8 + daysG a0 9) = sumG a0 9 := k 8 (by omega)
  have s9 : IntKind.wrap IntKind.i64 (sumG a0 9 + daysG a0 10) = sumG a0 10 := k 9 (by omega)
  have s10 : IntKind.wrap IntKind.i64 (sumG a0 10 + daysG a0 11) = sumG a0 11 := k 10 (by omega)
  have s11 : IntKind.wrap IntKind.i64 (sumG a0 11 + daysG a0 12) = sumG a0 12 := k 11 (by omega)
  simp only [m1, m2, m3, m4, m5, m6, m7, m8, m9, m10, m11, s0, s1, s2, s3, s4, s5, s6, s7, s8, s9, s10, s11]
  rfl

theorem run_greg_before (a0 : Int) (hg : yearB a0 = true) : ∃ F d, run k8 F d 81 Tryd.f81 s_greg_before (a0, ()) = some (r_greg_before.enc (beforeG a0)) := by
  refine ⟨200, 6, ?_⟩
  rw [tree_greg_before]
  simp only [yearB, Bool.and_eq_true, decide_eq_true_eq] at hg
  simp only [r_greg_before, Res.int, beforeG]
  have t4 : Int.tdiv (a0 - 1) 4 = (a0 - 1) / 4 := Int.tdiv_eq_ediv_of_nonneg (by omega)
  have t100 : Int.tdiv (a0 - 1) 100 = (a0 - 1) / 100 := Int.tdiv_eq_ediv_of_nonneg (by omega)
  have t400 : Int.tdiv (a0 - 1) 400 = (a0 - 1) / 400 := Int.tdiv_eq_ediv_of_nonneg (by omega)
  rw [wrI (n := a0 - 1) (by omega), t4, t100, t400, wrI (n := 365 * (a0 - 1)) (by omega), wrI (n := (a0 - 1) / 4) (by omega), wrI (n := (a0 - 1) / 100) (by omega), wrI (n := (a0 - 1) / 400) (by omega),
    wrI (n := 365 * (a0 - 1) + (a0 - 1) / 4) (by omega), wrI (n := 365 * (a0 - 1) + (a0 - 1) / 4 - (a0 - 1) / 100) (by omega), wrI (by omega)]

theorem sel_sum {y : Int} {k : Nat} (h : k < 13) : selI [0, sumG y 1, sumG y 2, sumG y 3, sumG y 4, sumG y 5, sumG y 6, sumG y 7, sumG y 8, sumG y 9, sumG y 10, sumG y 11, sumG y 12] k = sumG y k := by
  have : k = 0 ∨ k = 1 ∨ k = 2 ∨ k = 3 ∨ k = 4 ∨ k = 5 ∨ k = 6 ∨ k = 7 ∨ k = 8 ∨ k = 9 ∨ k = 10 ∨ k = 11 ∨ k = 12 := by omega
  rcases this with rfl | rfl | rfl | rfl | rfl | rfl | rfl | rfl | rfl | rfl | rfl | rfl | rfl <;> rfl

theorem run_greg_Day (a0 : Date) : ∃ F d, run k9 F d 73 Tryd.f73 s_greg_Day (a0, ()) = some (r_greg_Day.enc (dayG a0)) := by
  refine ⟨200, 6, ?_⟩
  rw [tree_greg_Day]
  unfold dayG
  rw [show (bif decide (a0.day < 1) then true else decide (a0.day > daysG a0.year a0.month)) = (decide (a0.day < 1) || decide (a0.day > daysG a0.year a0.month)) by cases decide (a0.day < 1) <;> rfl]
  cases hb : (decide (a0.day < 1) || decide (a0.day > daysG a0.year a0.month)) with
  | true => rfl
  | false =>
    simp only [Bool.or_eq_false_iff, decide_eq_false_iff_not] at hb
    obtain ⟨r1, r2, r3⟩ := daysG_range a0.year a0.month
    obtain ⟨y1, y2, m1, m2⟩ := r3 (by omega)
    have hy : yearB a0.year = true := by simp only [yearB, Bool.and_eq_true, decide_eq_true_eq]; omega
    have hbf := beforeG_range (y := a0.year) y1 (by omega)
    have hs := sumG_range a0.year (a0.month - 1).toNat
    rw [hy, wrI (n := a0.month - 1) (by omega)]
    have g1 : decide (0 ≤ a0.month - 1) = true := by simp; omega
    have g2 : decide (a0.month - 1 < ((13 : Nat) : Int)) = true := by simp; omega
    simp only [g1, g2, Bool.and_self, Bool.true_and, cond_true, cond_false, Nat.mul_one]
    rw [sel_sum (by omega), wrI (n := beforeG a0.year + sumG a0.year (a0.month - 1).toNat) (by omega), wrI (by omega)]
    rfl

theorem run_greg_Of (a0 : Int) : ∃ F d, run k10 F d 47 Tryd.f47 s_greg_Of (a0, ()) = some (r_greg_Of.enc (ofG a0)) := by
  refine ⟨200, 6, ?_⟩
  rw [tree_greg_Of]
  unfold ofG
  rw [show (bif decide (a0 < 1) then true else decide (a0 > 3652059)) = (decide (a0 < 1) || decide (a0 > 3652059)) by cases decide (a0 < 1) <;> rfl]
  cases hb : (decide (a0 < 1) || decide (a0 > 3652059)) with
  | true => rfl
  | false =>
    simp only [Bool.or_eq_false_iff, decide_eq_false_iff_not] at hb
    obtain ⟨y1, y2, l1, l2, _⟩ := of_spec (n := a0) (by omega) (by omega)
    have w : ∀ s : Int, (0 ≤ s ∧ s ≤ 1000) → IntKind.wrap IntKind.i64 (IntKind.wrap IntKind.i64 (lfG a0 - s) + 1) = lfG a0 - s + 1 := fun s hs => by
      rw [wrI (n := lfG a0 - s) (by omega), wrI (by omega)]
    have hs : ∀ k : Nat, k ≤ 12 → 0 ≤ sumG (yrG a0) k ∧ sumG (yrG a0) k ≤ 1000 := fun k hk => by have := sumG_range (yrG a0) k; omega
    simp only [w 0 (by omega), w _ (hs 1 (by omega)), w _ (hs 2 (by omega)), w _ (hs 3 (by omega)), w _ (hs 4 (by omega)), w _ (hs 5 (by omega)), w _ (hs 6 (by omega)), w _ (hs 7 (by omega)), w _ (hs 8 (by omega)), w _ (hs 9 (by omega)), w _ (hs 10 (by omega)), w _ (hs 11 (by omega)), cond_false]
    unfold monG
    simp only [monGo]
    cases h1 : decide (lfG a0 < sumG (yrG a0) 1) with
    | true => simp only [h1, cond_true, cond_false, cond_true]; rfl
    | false =>
      cases h2 : decide (lfG a0 < sumG (yrG a0) 2) with
      | true => simp only [h2, cond_true, cond_false, h1]; rfl
      | false =>
        cases h3 : decide (lfG a0 < sumG (yrG a0) 3) with
        | true => simp only [h3, cond_true, cond_false, h1, h2]; rfl
        | false =>
          cases h4 : decide (lfG a0 < sumG (yrG a0) 4) with
          | true => simp only [h4, cond_true, cond_false, h1, h2, h3]; rfl
          | false =>
            cases h5 : decide (lfG a0 < sumG (yrG a0) 5) with
            | true => simp only [h5, cond_true, cond_false, h1, h2, h3, h4]; rfl
            | false =>
              cases h6 : decide (lfG a0 < sumG (yrG a0) 6) with
              | true => simp only [h6, cond_true, cond_false, h1, h2, h3, h4, h5]; rfl
              | false =>
                cases h7 : decide (lfG a0 < sumG (yrG a0) 7) with
                | true => simp only [h7, cond_true, cond_false, h1, h2, h3, h4, h5, h6]; rfl
                | false =>
                  cases h8 : decide (lfG a0 < sumG (yrG a0) 8) with
                  | true => simp only [h8, cond_true, cond_false, h1, h2, h3, h4, h5, h6, h7]; rfl
                  | false =>
                    cases h9 : decide (lfG a0 < sumG (yrG a0) 9) with
                    | true => simp only [h9, cond_true, cond_false, h1, h2, h3, h4, h5, h6, h7, h8]; rfl
                    | false =>
                      cases h10 : decide (lfG a0 < sumG (yrG a0) 10) with
                      | true => simp only [h10, cond_true, cond_false, h1, h2, h3, h4, h5, h6, h7, h8, h9]; rfl
                      | false =>
                        cases h11 : decide (lfG a0 < sumG (yrG a0) 11) with
                        | true => simp only [h11, cond_true, cond_false, h1, h2, h3, h4, h5, h6, h7, h8, h9, h10]; rfl
                        | false =>
                          simp only [h1, h2, h3, h4, h5, h6, h7, h8, h9, h10, h11, cond_true, cond_false]; rfl

theorem nth_ok {y m : Int} (h : daysG y m ≠ 0) : dayG ⟨y, m, 1⟩ = (firstG y m, 0) ∧ 1 ≤ firstG y m ∧ firstG y m ≤ 3800000 ∧ 1 ≤ daysG y m ∧ daysG y m ≤ 31 := by
  obtain ⟨r1, r2, r3⟩ := daysG_range y m
  obtain ⟨y1, y2, m1, m2⟩ := r3 h
  have hbf := beforeG_range (y := y) y1 (by omega)
  have hs := sumG_range y (m - 1).toNat
  have e1 : decide ((1 : Int) < 1) = false := rfl
  have e2 : decide ((1 : Int) > daysG y m) = false := by simp; omega
  refine ⟨?_, by unfold firstG; omega, by unfold firstG; omega, by omega, r2⟩
  unfold dayG
  simp only [e1, e2, Bool.or_self, cond_false, firstG]

theorem from_range {y m w : Int} (h : daysG y m ≠ 0) (hw0 : 0 ≤ w) (hw1 : w ≤ 6) : firstG y m ≤ fromG y m w ∧ fromG y m w ≤ firstG y m + 6 := by
  have := next_rest (a := firstG y m) (b := 7) (r := w) (by omega) hw0 (by omega)
  unfold fromG
  omega

theorem run_greg_Nth (a0 : Int) (a1 : Int) (a2 : Int) (a3 : Int) : ∃ F d, run k11 F d 62 Tryd.f62 s_greg_Nth (a0, a1, a2, a3, ()) = some (r_greg_Nth.enc (nthG a0 a1 a2 a3)) := by
  refine ⟨200, 6, ?_⟩
  rw [tree_greg_Nth]
  unfold nthG
  cases hd : daysG a0 a1 == 0 with
  | true => rfl
  | false =>
    have hd0 : daysG a0 a1 ≠ 0 := by simpa using hd
    obtain ⟨f0, f1, f2, f3, f4⟩ := nth_ok hd0
    rw [cond_false, cond_false]
    rw [show (bif bif decide (a2 < 0) then true else decide (a2 > 6) then true else bif a3 != -1 then bif decide (a3 < 1) then true else decide (a3 > 5) else false) = nthBad a2 a3 by
      unfold nthBad
      cases decide (a2 < 0) <;> cases decide (a2 > 6) <;> cases (a3 != -1) <;> cases decide (a3 < 1) <;> rfl]
    cases hb : nthBad a2 a3 with
    | true => rfl
    | false =>
      simp only [nthBad, Bool.or_eq_false_iff, Bool.and_eq_false_iff, decide_eq_false_iff_not, bne_eq_false_iff_eq] at hb
      obtain ⟨⟨w0, w1⟩, hk⟩ := hb
      have hk' : a3 = -1 ∨ (1 ≤ a3 ∧ a3 ≤ 5) := by
        rcases hk with h | ⟨h1, h2⟩
        · exact .inl h
        · exact .inr (by omega)
      obtain ⟨g1, g2⟩ := from_range hd0 (w := a2) (by omega) (by omega)
      have ho : nextOk (firstG a0 a1) 7 a2 = true := by simp only [nextOk, divOk, byB, big, Bool.and_eq_true, decide_eq_true_eq]; omega
      have hfr : firstG a0 a1 + (a2 - firstG a0 a1 % 7) % 7 = fromG a0 a1 a2 := rfl
      simp only [f0, ho, hfr, Bool.and_self, Bool.true_and, cond_true, cond_false]
      cases h1 : a3 == -1 with
      | true =>
        rw [cond_true, cond_true]
        rw [wrI (n := firstG a0 a1 + daysG a0 a1) (by omega), wrI (n := firstG a0 a1 + daysG a0 a1 - 1) (by omega), wrI (n := firstG a0 a1 + daysG a0 a1 - 1 - fromG a0 a1 a2) (by omega)]
        have hq : Int.tdiv (firstG a0 a1 + daysG a0 a1 - 1 - fromG a0 a1 a2) 7 = (firstG a0 a1 + daysG a0 a1 - 1 - fromG a0 a1 a2) / 7 := by
          apply Int.tdiv_eq_ediv_of_nonneg
          have := daysG_least hd0
          omega
        rw [hq, wrI (n := (firstG a0 a1 + daysG a0 a1 - 1 - fromG a0 a1 a2) / 7) (by omega), wrI (n := (firstG a0 a1 + daysG a0 a1 - 1 - fromG a0 a1 a2) / 7 * 7) (by omega), wrI (by omega)]
        rfl
      | false =>
        have hk2 : 1 ≤ a3 ∧ a3 ≤ 5 := by
          rcases hk' with h | h
          · rw [h] at h1; cases h1
          · exact h
        rw [cond_false, cond_false]
        rw [wrI (n := a3 - 1) (by omega), wrI (n := 7 * (a3 - 1)) (by omega), wrI (n := fromG a0 a1 a2 + 7 * (a3 - 1)) (by omega), wrI (n := firstG a0 a1 + daysG a0 a1) (by omega)]
        cases decide (fromG a0 a1 a2 + 7 * (a3 - 1) ≥ firstG a0 a1 + daysG a0 a1) <;> rfl

theorem nth_range (y m w k : Int) : 0 ≤ (nthG y m w k).1 ∧ (nthG y m w k).1 ≤ 4000000 := by
  unfold nthG
  cases hd : daysG y m == 0 with
  | true => simp
  | false =>
    have hd0 : daysG y m ≠ 0 := by simpa using hd
    obtain ⟨f0, f1, f2, f3, f4⟩ := nth_ok hd0
    rw [cond_false]
    cases hb : nthBad w k with
    | true => simp
    | false =>
      simp only [nthBad, Bool.or_eq_false_iff, Bool.and_eq_false_iff, decide_eq_false_iff_not, bne_eq_false_iff_eq] at hb
      obtain ⟨⟨w0, w1⟩, hk⟩ := hb
      obtain ⟨g1, g2⟩ := from_range hd0 (w := w) (by omega) (by omega)
      rw [cond_false]
      cases h1 : k == -1 with
      | true =>
        have := daysG_least hd0
        simp only [cond_true]
        omega
      | false =>
        have hk2 : 1 ≤ k ∧ k ≤ 5 := by
          rcases hk with h | ⟨h1', h2⟩
          · rw [h] at h1; cases h1
          · omega
        simp only [cond_false]
        cases decide (fromG y m w + 7 * (k - 1) ≥ firstG y m + daysG y m)
        · simp only [cond_false]; omega
        · simp

theorem run_zone_when (a0 : Zone) (a1 : Turn) (a2 : Int) (hg : whenOk a0 a1 a2 = true) : ∃ F d, run k13 F d 48 Tryd.f48 s_zone_when (a0, a1, a2, ()) = some (r_zone_when.enc (whenG a0 a1 a2)) := by
  refine ⟨200, 6, ?_⟩
  rw [tree_zone_when]
  simp only [whenOk, lit, Bool.and_eq_true, decide_eq_true_eq] at hg
  simp only [r_zone_when, Res.int, whenG]
  have w : ∀ k, IntKind.wrap IntKind.i64 (IntKind.wrap IntKind.i64 (IntKind.wrap IntKind.i64 ((nthG a2 a1.month a1.weekday k).1 * 1440) + a1.minute) - a0.base) = (nthG a2 a1.month a1.weekday k).1 * 1440 + a1.minute - a0.base := fun k => by
    have := nth_range a2 a1.month a1.weekday k
    rw [wrI (n := (nthG a2 a1.month a1.weekday k).1 * 1440) (by omega), wrI (n := (nthG a2 a1.month a1.weekday k).1 * 1440 + a1.minute) (by omega), wrI (by omega)]
  rw [w, w]
  cases a1.week == 5 <;> rfl

theorem sum_bif (t a b : Int) : (bif bif bif bif decide (a < b) then decide (a ≤ t) else false then decide (t < b) else false then true else bif decide (b < a) then bif decide (t < b) then true else decide (a ≤ t) else false then true else false) = sumB t a b := by
  unfold sumB
  cases decide (a < b) <;> cases decide (a ≤ t) <;> cases decide (t < b) <;> cases decide (b < a) <;> rfl

theorem sum_bif' (t a b : Int) : (bif bif bif decide (a < b) then decide (a ≤ t) else false then decide (t < b) else false then true else bif decide (b < a) then bif decide (t < b) then true else decide (a ≤ t) else false) = sumB t a b := by
  unfold sumB
  cases decide (a < b) <;> cases decide (a ≤ t) <;> cases decide (t < b) <;> cases decide (b < a) <;> rfl

theorem run_zone_shift (a0 : Zone) (a1 : Int) (hg : shiftOk a0 a1 = true) : ∃ F d, run k14 F d 30 Tryd.f30 s_zone_shift (a0, a1, ()) = some (r_zone_shift.enc (shiftG a0 a1)) := by
  refine ⟨200, 6, ?_⟩
  rw [tree_zone_shift]
  simp only [shiftOk, turnsOk, Bool.and_eq_true] at hg
  obtain ⟨⟨b1, b2, b3⟩, b4⟩ := hg
  have b1' := b1
  simp only [lit, mid, Bool.and_eq_true, decide_eq_true_eq] at b1' b4
  simp only [r_zone_shift, Res.int, shiftG]
  cases h0 : a0.shift == 0 with
  | true => rfl
  | false =>
    have w : IntKind.wrap IntKind.i64 (a1 + a0.base) = a1 + a0.base := wrI (by omega)
    have ho : divOk (a1 + a0.base) 1440 = true := by simp only [divOk, byB, big, Bool.and_eq_true, decide_eq_true_eq]; omega
    have k1 : ∀ y, whenOk a0 a0.on y = true := fun y => by simp only [whenOk, b1, b2, Bool.and_self]
    have k2 : ∀ y, whenOk a0 a0.off y = true := fun y => by simp only [whenOk, b1, b3, Bool.and_self]
    have hy : (ofG ((a1 + a0.base) / 1440)).1.year = yearOf a0 a1 := rfl
    simp only [w, ho, k1, k2, hy, Bool.and_self, Bool.true_and, cond_true, cond_false, sum_bif']
    cases sumB a1 (whenG a0 a0.on (yearOf a0 a1)) (whenG a0 a0.off (yearOf a0 a1)) <;> rfl

theorem zone_parts {z : Zone} (h : zone_Check z = 0) : (-720 ≤ z.base ∧ z.base ≤ 840) ∧ (0 ≤ z.shift ∧ z.shift ≤ 120) ∧ turnsOk z = true ∧ (z.shift ≠ 0 → turnsB z = true) := by
  unfold zone_Check at h
  cases h1 : inB z.base (-720) 840 with
  | false => rw [h1] at h; simp at h
  | true =>
    rw [h1, cond_true] at h
    cases h2 : inB z.shift 0 120 with
    | false => rw [h2] at h; simp at h
    | true =>
      rw [h2, cond_true] at h
      rw [inB_iff] at h1 h2
      by_cases h3 : z.shift = 0
      · rw [h3] at h
        simp only [beq_self_eq_true, cond_true] at h
        cases h4 : (decide (z.on = turn0) && decide (z.off = turn0)) with
        | false => rw [h4] at h; simp at h
        | true =>
          simp only [Bool.and_eq_true, decide_eq_true_eq] at h4
          refine ⟨h1, h2, ?_, fun hne => absurd h3 hne⟩
          simp only [turnsOk, lit, h4.1, h4.2, turn0, Bool.and_eq_true, decide_eq_true_eq]
          omega
      · have e : (z.shift == 0) = false := by rw [beq_eq_false_iff_ne]; exact h3
        rw [e, cond_false] at h
        cases h4 : turnsB z with
        | false => rw [h4] at h; simp at h
        | true =>
          refine ⟨h1, h2, ?_, fun _ => rfl⟩
          simp only [turnsB, turnB, Bool.and_eq_true, inB_iff] at h4
          simp only [turnsOk, lit, Bool.and_eq_true, decide_eq_true_eq]
          omega

theorem run_zone_Instants (a0 : Zone) (a1 : Int) (a2 : Int) : ∃ F d, runO k15 F d 18 Tryd.f18 s_zone_Instants r_zone_Instants (a0, a1, a2, ()) = some (instG a0 a1 a2) := by
  refine ⟨200, 6, ?_⟩
  rw [tree_zone_Instants]
  unfold instG
  cases hz : zone_Check a0 != 0 with
  | true => rfl
  | false =>
    have hz0 : zone_Check a0 = 0 := by simpa using hz
    obtain ⟨p1, p2, p3, _⟩ := zone_parts hz0
    rw [cond_false, cond_false]
    rw [show (bif !inB a1 401 3651998 then true else !inB a2 0 1439) = (!inB a1 401 3651998 || !inB a2 0 1439) by cases inB a1 401 3651998 <;> rfl]
    cases hb : (!inB a1 401 3651998 || !inB a2 0 1439) with
    | true => rfl
    | false =>
      simp only [Bool.or_eq_false_iff, Bool.not_eq_false'] at hb
      rw [inB_iff, inB_iff] at hb
      rw [cond_false, cond_false]
      have w1 : IntKind.wrap IntKind.i64 (a1 * 1440) = a1 * 1440 := wrI (by omega)
      have w2 : IntKind.wrap IntKind.i64 (a1 * 1440 + a2) = a1 * 1440 + a2 := wrI (by omega)
      have w3 : IntKind.wrap IntKind.i64 (a1 * 1440 + a2 - a0.base) = a1 * 1440 + a2 - a0.base := wrI (by omega)
      have w4 : IntKind.wrap IntKind.i64 (a1 * 1440 + a2 - a0.base - a0.shift) = a1 * 1440 + a2 - a0.base - a0.shift := wrI (by omega)
      have o1 : shiftOk a0 (a1 * 1440 + a2 - a0.base) = true := by simp only [shiftOk, p3, mid, Bool.true_and, Bool.and_eq_true, decide_eq_true_eq]; omega
      have o2 : shiftOk a0 (a1 * 1440 + a2 - a0.base - a0.shift) = true := by simp only [shiftOk, p3, mid, Bool.true_and, Bool.and_eq_true, decide_eq_true_eq]; omega
      simp only [w1, w2, w3, w4, o1, o2, Bool.and_self, Bool.true_and, Bool.true_or, cond_true]
      rw [show (bif decide (a0.shift > 0) then decide (shiftG a0 (a1 * 1440 + a2 - a0.base - a0.shift) > 0) else false) = (decide (a0.shift > 0) && decide (shiftG a0 (a1 * 1440 + a2 - a0.base - a0.shift) > 0)) by cases decide (a0.shift > 0) <;> rfl]
      cases (decide (a0.shift > 0) && decide (shiftG a0 (a1 * 1440 + a2 - a0.base - a0.shift) > 0)) <;> cases shiftG a0 (a1 * 1440 + a2 - a0.base) == 0 <;> rfl

theorem whole (z : Zone) : (⟨z.base, z.shift, ⟨z.on.month, z.on.week, z.on.weekday, z.on.minute⟩, ⟨z.off.month, z.off.week, z.off.weekday, z.off.minute⟩⟩ : Zone) = z := rfl

theorem told_div {t : Int} (h : 0 ≤ t) (h2 : t ≤ 5258868000) : IntKind.wrap IntKind.i64 (Int.tdiv t 1440) = t / 1440 ∧ Int.tmod t 1440 = t % 1440 := by
  rw [Int.tdiv_eq_ediv_of_nonneg h, Int.tmod_eq_emod_of_nonneg h]
  exact ⟨wrI (by omega), rfl⟩

theorem len_pos {α : Type} (l : List α) : decide (((l.length : Nat) : Int) > 0) = !l.isEmpty ∧ decide (0 < ((l.length : Nat) : Int)) = !l.isEmpty ∧ decide (0 < l.length) = !l.isEmpty ∧ (((l.length : Nat) : Int) == 0) = l.isEmpty := by
  cases l with
  | nil => exact ⟨rfl, rfl, rfl, rfl⟩
  | cons x l =>
    refine ⟨by simp, by simp, by simp, ?_⟩
    simp only [List.isEmpty_cons, List.length_cons, beq_eq_false_iff_ne]
    omega

theorem go_wmom (v0_0 v0_1 v0_2 v0_3 v0_4 v0_5 v0_6 v0_7 v0_8 v0_9 v9 : Int) (F d : Nat) (z : Zone) (hz : z = (⟨v0_0, v0_1, ⟨v0_2, v0_3, v0_4, v0_5⟩, ⟨v0_6, v0_7, v0_8, v0_9⟩⟩ : Zone)) : ∀ (k : Nat) (t : Int) (n : Nat), 0 ≤ t → t + k ≤ 5258868000 → reachIn (rowG z) k t = true → k < n →
    I_wmom F (d + 3) n (S_wmom v0_0 v0_1 v0_2 v0_3 v0_4 v0_5 v0_6 v0_7 v0_8 v0_9 t) = some (.ret, (X_wmom_0 v0_0 v0_1 v0_2 v0_3 v0_4 v0_5 v0_6 v0_7 v0_8 v0_9 (whereIn (rowG z) k t))) := by
  have step : ∀ (t : Int) (n : Nat), 0 ≤ t → t ≤ 5258868000 → I_wmom F (d + 3) (n + 1) (S_wmom v0_0 v0_1 v0_2 v0_3 v0_4 v0_5 v0_6 v0_7 v0_8 v0_9 t) = cond (rowG z t).isEmpty (I_wmom F (d + 3) n (S_wmom v0_0 v0_1 v0_2 v0_3 v0_4 v0_5 v0_6 v0_7 v0_8 v0_9 (t + 1))) (some (.ret, (X_wmom_0 v0_0 v0_1 v0_2 v0_3 v0_4 v0_5 v0_6 v0_7 v0_8 v0_9 t))) := by
    intro t n h0 h1
    obtain ⟨d1, d2⟩ := told_div h0 h1
    have hl := len_pos (rowG z t)
    unfold rowG at hl ⊢
    rw [step_wmom, d1, d2, ← hz, hl.1, hl.2.2.1, wrI (n := t + 1) (by omega)]
    cases ((instG z (t / 1440) (t % 1440)).1).isEmpty <;> rfl
  intro k
  induction k with
  | zero =>
    intro t n h0 h1 hr hn
    obtain ⟨n, rfl⟩ : ∃ k, n = k + 1 := ⟨n - 1, by omega⟩
    rw [step t n h0 (by omega)]
    simp only [reachIn, Bool.not_eq_true'] at hr
    rw [hr]
    rfl
  | succ k ih =>
    intro t n h0 h1 hr hn
    obtain ⟨n, rfl⟩ : ∃ k, n = k + 1 := ⟨n - 1, by omega⟩
    rw [step t n h0 (by omega)]
    simp only [reachIn, Bool.or_eq_true, Bool.not_eq_true'] at hr
    simp only [whereIn]
    cases he : (rowG z t).isEmpty with
    | false => rfl
    | true =>
      rw [he] at hr
      rw [cond_true, cond_true]
      refine ih (t + 1) n (by omega) (by omega) ?_ (by omega)
      rcases hr with h | h
      · cases h
      · exact h

theorem main_wmom (v0_0 v0_1 v0_2 v0_3 v0_4 v0_5 v0_6 v0_7 v0_8 v0_9 v9 : Int) (hg : (zone_Check (⟨v0_0, v0_1, ⟨v0_2, v0_3, v0_4, v0_5⟩, ⟨v0_6, v0_7, v0_8, v0_9⟩⟩ : Zone) == 0 && (toldOk v9 && reachIn (rowG (⟨v0_0, v0_1, ⟨v0_2, v0_3, v0_4, v0_5⟩, ⟨v0_6, v0_7, v0_8, v0_9⟩⟩ : Zone)) 200 v9)) = true) : ∃ N d, I_wmom N d N (S_wmom v0_0 v0_1 v0_2 v0_3 v0_4 v0_5 v0_6 v0_7 v0_8 v0_9 v9) = some (altK Prod.mk [] (.ret) (X_wmom_0 v0_0 v0_1 v0_2 v0_3 v0_4 v0_5 v0_6 v0_7 v0_8 v0_9 (whereIn (rowG (⟨v0_0, v0_1, ⟨v0_2, v0_3, v0_4, v0_5⟩, ⟨v0_6, v0_7, v0_8, v0_9⟩⟩ : Zone)) 200 v9))) := by
  simp only [Bool.and_eq_true, beq_iff_eq] at hg
  obtain ⟨h1, h2, h3⟩ := hg
  simp only [toldOk, Bool.and_eq_true, decide_eq_true_eq] at h2
  exact ⟨300, 3, go_wmom v0_0 v0_1 v0_2 v0_3 v0_4 v0_5 v0_6 v0_7 v0_8 v0_9 v9 300 0 _ rfl 200 v9 300 (by omega) (by omega) h3 (by omega)⟩

theorem run_window_Moment (a0 : Zone) (a1 : Int) (a2 : Int) : ∃ F d, run k18 F d 8 Tryd.f8 s_window_Moment (a0, a1, a2, ()) = some (r_window_Moment.enc (momG a0 a1 a2)) := by
  refine ⟨200, 6, ?_⟩
  rw [tree_window_Moment]
  unfold momG
  cases hz : zone_Check a0 != 0 with
  | true => rfl
  | false =>
    have hz0 : zone_Check a0 = 0 := by simpa using hz
    rw [cond_false, cond_false]
    have hc : (bif bif !recG a1 then true else decide (a2 < 0) then true else decide (a2 ≥ 1440)) = !momOk a1 a2 := by
      unfold momOk
      rw [show decide (a2 < 0) = !decide (0 ≤ a2) by rw [Bool.eq_iff_iff]; simp, show decide (a2 ≥ 1440) = !decide (a2 < 1440) by rw [Bool.eq_iff_iff]; simp]
      cases recG a1 <;> cases decide (0 ≤ a2) <;> cases decide (a2 < 1440) <;> rfl
    rw [hc]
    cases hm : momOk a1 a2 with
    | false => rfl
    | true =>
      have ht := told_ok hm
      have hr := reach_G hz0 ht
      have ht' := ht
      simp only [toldOk, Bool.and_eq_true, decide_eq_true_eq] at ht'
      have hd : 402 ≤ a1 ∧ a1 ≤ 3651990 := by
        simp only [momOk, Bool.and_eq_true] at hm
        have := hm.1
        unfold recG at this
        cases h : decide (402 ≤ a1)
        · rw [h] at this; cases this
        · rw [h, cond_true] at this; simp at h this; omega
      rw [wrI (n := a1 * 1440) (by omega), wrI (n := a1 * 1440 + a2) (by omega)]
      rw [hz0, ht, hr]
      obtain ⟨d1, d2⟩ := told_div (t := whereIn (rowG a0) 200 (a1 * 1440 + a2)) (by have := where_range (rowG a0) 200 (a1 * 1440 + a2); omega) (by have := where_range (rowG a0) 200 (a1 * 1440 + a2); omega)
      rw [d1, d2]
      rfl

theorem run_greg_Weekday (a0 : Int) (hg : midW a0 = true) : ∃ F d, run k19 F d 44 Tryd.f44 s_greg_Weekday (a0, ()) = some (r_greg_Weekday.enc (rWeekday a0)) := by
  refine ⟨200, 6, ?_⟩
  rw [tree_greg_Weekday]
  have h' := hg
  simp only [midW, mid, Bool.and_eq_true, decide_eq_true_eq] at h'
  rw [show divOk a0 7 = true by simp only [divOk, big, byB, Bool.and_eq_true, decide_eq_true_eq]; omega]
  rfl

theorem run_window_weekly_open (a0 : Unit) (a1 : Config) (a2 : Window) (a3 : Int) (hg : weekOk a0 a1 a2 a3 = true) : ∃ F d, run k52 F d 103 Tryd.f103 s_window_weekly_open (a0, a1, a2, a3, ()) = some (r_window_weekly_open.enc (weekOpen a0 a1 a2 a3)) := by
  refine ⟨200, 6, ?_⟩
  rw [tree_window_weekly_open]
  have h' : midW a3 = true := hg
  have h0 : decide (0 ≤ rWeekday a3) = true := by unfold rWeekday; simp; omega
  have b1 : Nat.beq a1.stops.length a1.stops.length = true := by simp
  have b2 : Nat.ble (0 + a1.stops.length) a1.stops.length = true := by simp
  have b3 : Nat.beq a1.windows.length a1.windows.length = true := by simp
  have b4 : Nat.ble (0 + a1.windows.length) a1.windows.length = true := by simp
  rw [h', h0, b1, b2, b3, b4]
  rfl

end Go.Proofs.YtgfinnhojeghhaaDoor.Px.PxX
