/- The document's days and dates: the functions are what is said of them. -/
import Derived.Test.YtgfinnhojeghhaaDoorPxWProofs2
import Derived.Test.YtgfinnhojeghhaaDoorPxSpecGreg
set_option linter.unusedVariables false
set_option linter.unusedSimpArgs false
namespace Go.Proofs.YtgfinnhojeghhaaDoor.Px.PxW
open Go Go.Proofs
set_option linter.unusedSimpArgs false
set_option linter.unusedVariables false

theorem tdiv_mod {a b : Int} (hb : 1 ≤ b) : (a.tmod b = 0 ∨ 0 ≤ a → a / b = a.tdiv b) ∧ (a.tmod b ≠ 0 → a < 0 → a / b = a.tdiv b - 1) := by
  obtain ⟨d1, d2, d3, d4⟩ := div_down (a := a) (b := b) hb
  refine ⟨fun h => (d2 ?_).1, fun h1 h2 => (d1 ?_).1⟩
  · rcases h with h | h
    · omega
    · exact Int.tmod_nonneg b h
  · have hn := Int.tmod_nonneg b (show 0 ≤ -a by omega)
    rw [Int.neg_tmod] at hn
    omega

theorem run_newelref01_Div (a0 : Int) (a1 : Int) (hg : divOk a0 a1 = true) : ∃ F d, run k15 F d 64 Tryd.f64 s_newelref01_Div (a0, a1, ()) = some (r_newelref01_Div.enc (rDiv a0 a1)) := by
  refine ⟨200, 6, ?_⟩
  rw [tree_newelref01_Div]
  simp only [divOk, byB, big, Bool.and_eq_true, decide_eq_true_eq] at hg
  have e2 : (a1 != 0) = true := by rw [bne_iff_ne]; omega
  obtain ⟨t1, t2⟩ := tdiv_mod (a := a0) (b := a1) (by omega)
  obtain ⟨q1, q2⟩ := div_big (a := a0) (b := a1) (K := 1000000000000) (by omega) (by omega) (by omega) (by omega)
  simp only [e2, cond_true]
  by_cases h : a0.tmod a1 = 0
  · have f := t1 (.inl h)
    rw [show (a0.tmod a1 != 0) = false by rw [h]; rfl, cond_false, cond_false, ← f, wrI (by omega)]
    rfl
  · rw [show (a0.tmod a1 != 0) = true by rw [bne_iff_ne]; exact h, cond_true]
    by_cases hn : a0 < 0
    · have f := t2 h hn
      rw [decide_eq_true hn, cond_true, wrI (n := a0.tdiv a1) (by omega), wrI (by omega), ← f]
      rfl
    · have f := t1 (.inr (by omega))
      rw [decide_eq_false hn, cond_false, ← f, wrI (by omega)]
      rfl

theorem run_newelref01_Mod (a0 : Int) (a1 : Int) (hg : divOk a0 a1 = true) : ∃ F d, run k16 F d 86 Tryd.f86 s_newelref01_Mod (a0, a1, ()) = some (r_newelref01_Mod.enc (rMod a0 a1)) := by
  refine ⟨200, 6, ?_⟩
  rw [tree_newelref01_Mod]
  simp only [divOk, byB, big, Bool.and_eq_true, decide_eq_true_eq] at hg
  have e2 : (a1 != 0) = true := by rw [bne_iff_ne]; omega
  obtain ⟨d1, d2, d3, d4⟩ := div_down (a := a0) (b := a1) (by omega)
  simp only [e2, cond_true]
  by_cases h : a0.tmod a1 < 0
  · rw [decide_eq_true h, cond_true, wrI (by omega), ← (d1 h).2]
    rfl
  · rw [decide_eq_false h, cond_false, ← (d2 (by omega)).2]
    rfl

theorem run_newelref02_Leap (a0 : Int) : ∃ F d, run k17 F d 82 Tryd.f82 s_newelref02_Leap (a0, ()) = some (r_newelref02_Leap.enc (leapG a0)) := by
  refine ⟨200, 6, ?_⟩
  rw [tree_newelref02_Leap]
  simp only [r_newelref02_Leap, Res.bool, leapG]
  cases h1 : Int.tmod a0 4 == 0 <;> cases h2 : Int.tmod a0 100 != 0 <;> cases h3 : Int.tmod a0 400 == 0 <;> rfl

theorem run_newelref02_long (a0 : Int) : ∃ F d, run k18 F d 75 Tryd.f75 s_newelref02_long (a0, ()) = some (r_newelref02_long.enc (rLong a0)) := by
  refine ⟨200, 6, ?_⟩
  rw [tree_newelref02_long]
  simp only [r_newelref02_long, Res.int, rLong]
  cases leapG a0 <;> rfl

theorem run_newelref02_Days (a0 : Int) (a1 : Int) : ∃ F d, run k19 F d 76 Tryd.f76 s_newelref02_Days (a0, a1, ()) = some (r_newelref02_Days.enc (daysG a0 a1)) := by
  refine ⟨200, 6, ?_⟩
  rw [tree_newelref02_Days]
  simp only [r_newelref02_Days, Res.int, daysG]
  have hc : (bif bif bif decide (a0 < 1) then true else decide (a0 > 9999) then true else decide (a1 < 1) then true else decide (a1 > 12)) = !monthB a0 a1 := by
    rw [Bool.eq_iff_iff]
    by_cases h1 : a0 < 1 <;> by_cases h2 : a0 > 9999 <;> by_cases h3 : a1 < 1 <;> by_cases h4 : a1 > 12 <;> simp [monthB, h1, h2, h3, h4] <;> omega
  rw [hc]
  cases hm : monthB a0 a1 with
  | false => rfl
  | true =>
    simp only [monthB, Bool.and_eq_true, decide_eq_true_eq] at hm
    simp only [Bool.not_true, cond_false, cond_true]
    have h12 : a1 = 1 ∨ a1 = 2 ∨ a1 = 3 ∨ a1 = 4 ∨ a1 = 5 ∨ a1 = 6 ∨ a1 = 7 ∨ a1 = 8 ∨ a1 = 9 ∨ a1 = 10 ∨ a1 = 11 ∨ a1 = 12 := by omega
    rcases h12 with rfl | rfl | rfl | rfl | rfl | rfl | rfl | rfl | rfl | rfl | rfl | rfl <;> cases leapG a0 <;> rfl

theorem go_yrs (v0_0 v0_1 v0_2 v0 v3 : Int) (F d : Nat) (N : Int) (h1 : 1 ≤ N) (h2 : N ≤ 3652059) : ∀ (m : Nat) (y : Int) (n : Nat), 1 ≤ y → y + m = yrG N → m < n →
    I_yrs F (d + 3) n (S_yrs v0_0 v0_1 v0_2 (N - beforeG y) y) = some (.exit 0, (X_yrs_0 v0_0 v0_1 v0_2 (N - beforeG (yrG N)) (yrG N))) := by
  obtain ⟨y1, y2, l1, l2, e1, e2⟩ := of_spec h1 h2
  intro m
  induction m with
  | zero =>
    intro y n hy hm hn
    obtain ⟨n, rfl⟩ : ∃ k, n = k + 1 := ⟨n - 1, by omega⟩
    have : y = yrG N := by omega
    subst this
    rw [step_yrs]
    have := long_before y1
    rw [show decide (N - beforeG (yrG N) > rLong (yrG N)) = false by simp; omega, cond_false]
  | succ m ih =>
    intro y n hy hm hn
    obtain ⟨n, rfl⟩ : ∃ k, n = k + 1 := ⟨n - 1, by omega⟩
    have hl := long_before hy
    have hb := beforeG_range (y := y) (by omega) (by omega)
    have hb' := beforeG_range (y := y + 1) (by omega) (by omega)
    have hmo := before_mono (y := y + 1) (z := yrG N) (by omega) (by omega)
    rw [step_yrs]
    rw [show decide (N - beforeG y > rLong y) = true by simp; omega, cond_true, wrI (n := N - beforeG y - rLong y) (by omega), wrI (n := y + 1) (by omega), show N - beforeG y - rLong y = N - beforeG (y + 1) by omega]
    exact ih (y + 1) n (by omega) (by omega) (by omega)

theorem main_yrs (v0_0 v0_1 v0_2 v0 v3 : Int) (hg : (v3 == 1 && dayOk v0) = true) : ∃ N d, I_yrs N d N (S_yrs v0_0 v0_1 v0_2 v0 v3) = some (altK Prod.mk [] (.exit 0) (X_yrs_0 v0_0 v0_1 v0_2 (v0 - beforeG (yrG v0)) (yrG v0))) := by
  simp only [Bool.and_eq_true, beq_iff_eq, dayOk_iff] at hg
  obtain ⟨rfl, h1, h2⟩ := hg
  obtain ⟨y1, y2, _⟩ := of_spec h1 h2
  have := go_yrs v0_0 v0_1 v0_2 v0 1 20000 0 v0 h1 h2 (yrG v0 - 1).toNat 1 20000 (by omega) (by omega) (by omega)
  rw [show v0 - beforeG 1 = v0 by rw [show beforeG 1 = 0 from rfl]; omega] at this
  exact ⟨20000, 3, this⟩

theorem monGo_le (y left : Int) : ∀ (k m : Nat), m ≤ monGo y left m k
  | 0, m => Nat.le_refl _
  | k + 1, m => by
    simp only [monGo]
    cases decide (left < sumG y m)
    · have := monGo_le y left k (m + 1); rw [cond_false]; omega
    · exact Nat.le_refl _

theorem go_mons (v0_0 v0_1 v0_2 v0 v3 v4 : Int) (F d : Nat) (R : Int) (h1 : 1 ≤ v3) (h2 : v3 ≤ 9999) (r1 : 1 ≤ R) (r2 : R ≤ rLong v3) : ∀ (k m : Nat) (n : Nat), 1 ≤ m → m + k = 12 → sumG v3 (m - 1) < R → k < n →
    I_mons F (d + 3) n (S_mons v0_0 v0_1 v0_2 (R - sumG v3 (m - 1)) v3 ((m : Nat) : Int)) = some (.exit 2, (X_mons_0 v0_0 v0_1 v0_2 (R - sumG v3 (monGo v3 (R - 1) m k - 1)) v3 ((monGo v3 (R - 1) m k : Nat) : Int))) := by
  intro k
  have hy := sum_year h1 h2
  induction k with
  | zero =>
    intro m n hm hk hs hn
    obtain ⟨n, rfl⟩ : ∃ k, n = k + 1 := ⟨n - 1, by omega⟩
    have : m = 12 := by omega
    subst this
    rw [step_mons]
    have e : sumG v3 12 = sumG v3 11 + daysG v3 12 := rfl
    rw [show decide (R - sumG v3 (12 - 1) > daysG v3 ((12 : Nat) : Int)) = false by simp; omega, cond_false]
    rfl
  | succ k ih =>
    intro m n hm hk hs hn
    obtain ⟨n, rfl⟩ : ∃ k, n = k + 1 := ⟨n - 1, by omega⟩
    have e : sumG v3 m = sumG v3 (m - 1) + daysG v3 (m : Int) := by
      obtain ⟨j, rfl⟩ : ∃ j, m = j + 1 := ⟨m - 1, by omega⟩
      simp only [sumG, Nat.add_sub_cancel]
      rfl
    have hr := sumG_range v3 (m - 1)
    have hr' := sumG_range v3 m
    have hL : rLong v3 ≤ 366 := by unfold rLong; cases leapG v3 <;> decide
    rw [step_mons]
    simp only [monGo]
    by_cases hc : R - 1 < sumG v3 m
    · rw [decide_eq_true hc, cond_true, show decide (R - sumG v3 (m - 1) > daysG v3 (m : Int)) = false by simp; omega, cond_false]
    · rw [decide_eq_false hc, cond_false, show decide (R - sumG v3 (m - 1) > daysG v3 (m : Int)) = true by simp; omega, cond_true, wrI (n := R - sumG v3 (m - 1) - daysG v3 (m : Int)) (by omega), wrI (n := (m : Int) + 1) (by omega)]
      have := ih (m + 1) n (by omega) (by omega) (by rw [Nat.add_sub_cancel]; omega) (by omega)
      rw [Nat.add_sub_cancel] at this
      rw [show R - sumG v3 (m - 1) - daysG v3 (m : Int) = R - sumG v3 m by omega, show (m : Int) + 1 = ((m + 1 : Nat) : Int) by omega]
      exact this

theorem main_mons (v0_0 v0_1 v0_2 v0 v3 v4 : Int) (hg : (v4 == 1 && (decide (1 ≤ v3) && (decide (v3 ≤ 9999) && (decide (1 ≤ v0) && decide (v0 ≤ rLong v3))))) = true) : ∃ N d, I_mons N d N (S_mons v0_0 v0_1 v0_2 v0 v3 v4) = some (altK Prod.mk [] (.exit 2) (X_mons_0 v0_0 v0_1 v0_2 (v0 - sumG v3 (monR v3 v0 - 1)) v3 ((monR v3 v0 : Nat) : Int))) := by
  simp only [Bool.and_eq_true, beq_iff_eq, decide_eq_true_eq] at hg
  obtain ⟨rfl, h1, h2, h3, h4⟩ := hg
  have := go_mons v0_0 v0_1 v0_2 v0 v3 1 200 0 v0 h1 h2 h3 h4 11 1 200 (by omega) (by omega) (by simp only [Nat.sub_self, sumG]; omega) (by omega)
  rw [show v0 - sumG v3 (1 - 1) = v0 by simp only [Nat.sub_self, sumG]; omega] at this
  exact ⟨200, 3, this⟩

theorem run_newelref02_Of (a0 : Int) (hg : dayOk a0 = true) : ∃ F d, run k22 F d 63 Tryd.f63 s_newelref02_Of (a0, ()) = some (r_newelref02_Of.enc (rOf a0)) := by
  refine ⟨200, 6, ?_⟩
  rw [tree_newelref02_Of]
  have h' := dayOk_iff.1 hg
  obtain ⟨y1, y2, l1, l2, e1, e2⟩ := of_spec h'.1 h'.2
  have hl := long_before y1
  rw [hg, show decide (1 ≤ yrG a0) = true by simpa using y1, show decide (yrG a0 ≤ 9999) = true by simpa using y2, show decide (1 ≤ a0 - beforeG (yrG a0)) = true by simp; omega, show decide (a0 - beforeG (yrG a0) ≤ rLong (yrG a0)) = true by simp; omega]
  simp only [Bool.and_self, cond_true]
  have hn : (decide (a0 < 1) || decide (a0 > 3652059)) = false := by simp; omega
  have hm : monR (yrG a0) (a0 - beforeG (yrG a0)) = monG a0 := by
    unfold monR monG
    rw [show a0 - beforeG (yrG a0) - 1 = lfG a0 by omega]
  simp only [r_newelref02_Of, rOf, ofG, hn, cond_false]
  rw [hm, show a0 - beforeG (yrG a0) - sumG (yrG a0) (monG a0 - 1) = lfG a0 - sumG (yrG a0) (monG a0 - 1) + 1 by omega]
  rfl

theorem go_dyrs (v0_0 v0_1 v0_2 v3 v4 : Int) (F d : Nat) (D : Int) (h1 : 1 ≤ v0_0) (h2 : v0_0 ≤ 10000) (hD : -100000 ≤ D ∧ D ≤ 100000) : ∀ (m : Nat) (y : Int) (n : Nat), 1 ≤ y → y + m = v0_0 → m < n →
    I_dyrs F (d + 3) n (S_dyrs v0_0 v0_1 v0_2 (D + beforeG y) y) = some (.exit 0, (X_dyrs_0 v0_0 v0_1 v0_2 (D + beforeG v0_0))) := by
  intro m
  induction m with
  | zero =>
    intro y n hy hm hn
    obtain ⟨n, rfl⟩ : ∃ k, n = k + 1 := ⟨n - 1, by omega⟩
    have : y = v0_0 := by omega
    subst this
    rw [step_dyrs, show decide (y < y) = false by simp, cond_false]
  | succ m ih =>
    intro y n hy hm hn
    obtain ⟨n, rfl⟩ : ∃ k, n = k + 1 := ⟨n - 1, by omega⟩
    have hl := long_before hy
    have hb := beforeG_range (y := y) (by omega) (by omega)
    have hb' := beforeG_range (y := y + 1) (by omega) (by omega)
    rw [step_dyrs, show decide (y < v0_0) = true by simp; omega, cond_true, wrI (n := D + beforeG y + rLong y) (by omega), wrI (n := y + 1) (by omega), show D + beforeG y + rLong y = D + beforeG (y + 1) by omega]
    exact ih (y + 1) n (by omega) (by omega) (by omega)

theorem main_dyrs (v0_0 v0_1 v0_2 v3 v4 : Int) (hg : (v4 == 1 && (lit v3 && yearB v0_0)) = true) : ∃ N d, I_dyrs N d N (S_dyrs v0_0 v0_1 v0_2 v3 v4) = some (altK Prod.mk [] (.exit 0) (X_dyrs_0 v0_0 v0_1 v0_2 (v3 + beforeG v0_0))) := by
  simp only [lit, yearB, Bool.and_eq_true, beq_iff_eq, decide_eq_true_eq] at hg
  obtain ⟨rfl, hD, h1, h2⟩ := hg
  have := go_dyrs v0_0 v0_1 v0_2 v3 1 20000 0 v3 h1 h2 hD (v0_0 - 1).toNat 1 20000 (by omega) (by omega) (by omega)
  rw [show v3 + beforeG 1 = v3 by rw [show beforeG 1 = 0 from rfl]; omega] at this
  exact ⟨20000, 3, this⟩

theorem go_dmon (v0_0 v0_1 v0_2 v3 v5 : Int) (F d : Nat) (D : Int) (h1 : 1 ≤ v0_1) (h2 : v0_1 ≤ 12) (hD : -1000000000000 ≤ D ∧ D ≤ 1000000000000) : ∀ (k m : Nat) (n : Nat), 1 ≤ m → (m : Int) + k = v0_1 → k < n →
    I_dmon F (d + 3) n (S_dmon v0_0 v0_1 v0_2 (D + sumG v0_0 (m - 1)) ((m : Nat) : Int)) = some (.exit 2, (X_dmon_0 v0_0 v0_1 v0_2 (D + sumG v0_0 (v0_1 - 1).toNat))) := by
  intro k
  induction k with
  | zero =>
    intro m n hm hk hn
    obtain ⟨n, rfl⟩ : ∃ k, n = k + 1 := ⟨n - 1, by omega⟩
    rw [step_dmon, show decide ((m : Int) < v0_1) = false by simp; omega, cond_false, show (v0_1 - 1).toNat = m - 1 by omega]
  | succ k ih =>
    intro m n hm hk hn
    obtain ⟨n, rfl⟩ : ∃ k, n = k + 1 := ⟨n - 1, by omega⟩
    have e : sumG v0_0 m = sumG v0_0 (m - 1) + daysG v0_0 (m : Int) := by
      obtain ⟨j, rfl⟩ : ∃ j, m = j + 1 := ⟨m - 1, by omega⟩
      simp only [sumG, Nat.add_sub_cancel]
      rfl
    have hr := sumG_range v0_0 m
    rw [step_dmon, show decide ((m : Int) < v0_1) = true by simp; omega, cond_true, wrI (n := D + sumG v0_0 (m - 1) + daysG v0_0 (m : Int)) (by omega), wrI (n := (m : Int) + 1) (by omega)]
    have := ih (m + 1) n (by omega) (by omega) (by omega)
    rw [Nat.add_sub_cancel] at this
    rw [show D + sumG v0_0 (m - 1) + daysG v0_0 (m : Int) = D + sumG v0_0 m by omega, show (m : Int) + 1 = ((m + 1 : Nat) : Int) by omega]
    exact this

theorem main_dmon (v0_0 v0_1 v0_2 v3 v5 : Int) (hg : (v5 == 1 && (big v3 && (decide (1 ≤ v0_1) && decide (v0_1 ≤ 12)))) = true) : ∃ N d, I_dmon N d N (S_dmon v0_0 v0_1 v0_2 v3 v5) = some (altK Prod.mk [] (.exit 2) (X_dmon_0 v0_0 v0_1 v0_2 (v3 + sumG v0_0 (v0_1 - 1).toNat))) := by
  simp only [big, Bool.and_eq_true, beq_iff_eq, decide_eq_true_eq] at hg
  obtain ⟨rfl, hD, h1, h2⟩ := hg
  have := go_dmon v0_0 v0_1 v0_2 v3 1 200 0 v3 h1 h2 hD (v0_1 - 1).toNat 1 200 (by omega) (by omega) (by omega)
  rw [show v3 + sumG v0_0 (1 - 1) = v3 by simp only [Nat.sub_self, sumG]; omega] at this
  exact ⟨200, 3, this⟩

theorem run_newelref02_Day (a0 : Date) (hg : dateOk a0 = true) : ∃ F d, run k25 F d 83 Tryd.f83 s_newelref02_Day (a0, ()) = some (r_newelref02_Day.enc (rDay a0)) := by
  refine ⟨200, 6, ?_⟩
  rw [tree_newelref02_Day]
  simp only [dateOk, monthB, Bool.and_eq_true, decide_eq_true_eq] at hg
  obtain ⟨⟨y1, y2, m1, m2⟩, hl⟩ := hg
  have hb := beforeG_range (y := a0.year) (by omega) (by omega)
  have hl' := hl
  simp only [lit, Bool.and_eq_true, decide_eq_true_eq] at hl'
  rw [hl, show yearB a0.year = true by simp only [yearB, Bool.and_eq_true, decide_eq_true_eq]; omega, show big (a0.day + beforeG a0.year) = true by simp only [big, Bool.and_eq_true, decide_eq_true_eq]; omega, show decide (1 ≤ a0.month) = true by simpa using m1, show decide (a0.month ≤ 12) = true by simpa using m2]
  rfl

theorem run_newelref02_Weekday (a0 : Int) (hg : midW a0 = true) : ∃ F d, run k26 F d 84 Tryd.f84 s_newelref02_Weekday (a0, ()) = some (r_newelref02_Weekday.enc (rWeekday a0)) := by
  refine ⟨200, 6, ?_⟩
  rw [tree_newelref02_Weekday]
  have h' := hg
  simp only [midW, mid, Bool.and_eq_true, decide_eq_true_eq] at h'
  rw [show divOk a0 7 = true by simp only [divOk, big, byB, Bool.and_eq_true, decide_eq_true_eq]; omega]
  rfl
end Go.Proofs.YtgfinnhojeghhaaDoor.Px.PxW
