/- The document's Hebrew years, dates, days of rest, sunsets and windows. -/
import Derived.Test.YtgfinnhojeghhaaGreatDoorPxYProofs6
import Derived.Test.YtgfinnhojeghhaaGreatDoorPxSpecFeast
set_option linter.unusedVariables false
set_option linter.unusedSimpArgs false
namespace Go.Proofs.YtgfinnhojeghhaaGreatDoor.Px.PxY
open Go Go.Proofs
set_option linter.unusedSimpArgs false
set_option linter.unusedVariables false
set_option maxRecDepth 10000

theorem run_newelref03_Leap (a0 : Int) (hg : midW a0 = true) : ∃ F d, run k96 F d 81 Tryz.f81 s_newelref03_Leap (a0, ()) = some (r_newelref03_Leap.enc (leapM a0)) := by
  refine ⟨200, 6, ?_⟩
  rw [tree_newelref03_Leap]
  have h' := (midW_iff a0).1 hg
  unfold rMod
  rw [show divOk a0 19 = true by simp only [divOk, big, byB, Bool.and_eq_true, decide_eq_true_eq]; omega]
  rw [wrI (n := 7 * (a0 % 19)) (by omega), wrI (n := 7 * (a0 % 19) + 1) (by omega)]
  rw [show divOk (7 * (a0 % 19) + 1) 19 = true by simp only [divOk, big, byB, Bool.and_eq_true, decide_eq_true_eq]; omega]
  rfl

theorem run_newelref03_May (a0 : Int) : ∃ F d, run k97 F d 80 Tryz.f80 s_newelref03_May (a0, ()) = some (r_newelref03_May.enc (recM a0)) := by
  refine ⟨200, 6, ?_⟩
  rw [tree_newelref03_May]
  have e : (bif decide (a0 ≥ 3762) then decide (a0 ≤ 9999) else false) = recM a0 := by
    unfold recM inB
    cases decide (a0 ≥ 3762) <;> rfl
  rw [e]
  rfl

theorem months_step {y : Int} (h : 1 ≤ y) : monthsM (y + 1) = cond (leapM y) (monthsM y + 1 + 12) (monthsM y + 12) := by
  unfold monthsM leapM
  obtain ⟨q, r, hy, hr⟩ : ∃ q r : Int, y = 19 * q + r ∧ (r = 0 ∨ r = 1 ∨ r = 2 ∨ r = 3 ∨ r = 4 ∨ r = 5 ∨ r = 6 ∨ r = 7 ∨ r = 8 ∨ r = 9 ∨ r = 10 ∨ r = 11 ∨ r = 12 ∨ r = 13 ∨ r = 14 ∨ r = 15 ∨ r = 16 ∨ r = 17 ∨ r = 18) := ⟨y / 19, y % 19, by omega, by omega⟩
  have hm : y % 19 = r := by omega
  rw [hm]
  subst hy
  rcases hr with rfl | rfl | rfl | rfl | rfl | rfl | rfl | rfl | rfl | rfl | rfl | rfl | rfl | rfl | rfl | rfl | rfl | rfl | rfl <;> simp only [Int.reduceMul, Int.reduceAdd, Int.reduceMod, Int.reduceLT, decide_true, decide_false, cond_true, cond_false] <;> omega

theorem go_rmth (v0 v4 v5 : Int) (F d : Nat) (h0 : v0 ≤ 100000) : ∀ (k : Nat) (y : Int) (n : Nat), (v0 - y).toNat = k → 1 ≤ y → y ≤ v0 → k < n →
    I_rmth F (d + 3) n (S_rmth v0 (monthsM y) y) = some (.exit 0, (X_rmth_0 (monthsM v0))) := by
  intro k
  induction k with
  | zero =>
    intro y n hk h1 h2 hn
    obtain ⟨n, rfl⟩ : ∃ k, n = k + 1 := ⟨n - 1, by omega⟩
    have : y = v0 := by omega
    subst this
    rw [step_rmth, decide_eq_false (by omega : ¬ y < y)]
    rfl
  | succ k ih =>
    intro y n hk h1 h2 hn
    obtain ⟨n, rfl⟩ : ∃ k, n = k + 1 := ⟨n - 1, by omega⟩
    have hr := months_range h1 (by omega : y ≤ 100000)
    have hs := months_step h1
    rw [step_rmth, decide_eq_true (by omega : y < v0), show midW y = true from (midW_iff _).2 (by omega)]
    rw [wrI (n := monthsM y + 1) (by omega), wrI (n := monthsM y + 1 + 12) (by omega), wrI (n := monthsM y + 12) (by omega), wrI (n := y + 1) (by omega)]
    have := ih (y + 1) n (by omega) (by omega) (by omega) (by omega)
    rw [hs] at this
    cases hl : leapM y with
    | true => rw [hl] at this; exact this
    | false => rw [hl] at this; exact this

theorem main_rmth (v0 v4 v5 : Int) (hg : (yearM v0 && (decide (1 ≤ v5) && (decide (v5 ≤ v0) && (decide (v0 - v5 ≤ 20) && v4 == monthsM v5)))) = true) : ∃ N d, I_rmth N d N (S_rmth v0 v4 v5) = some (altK Prod.mk [] (.exit 0) (X_rmth_0 (monthsM v0))) := by
  simp only [yearM_iff, Bool.and_eq_true, beq_iff_eq, decide_eq_true_eq] at hg
  obtain ⟨⟨h1, h2⟩, h3, h4, h5, rfl⟩ := hg
  exact ⟨40, 3, go_rmth v0 (monthsM v5) v5 40 0 h2 (v0 - v5).toNat v5 40 rfl h3 h4 (by omega)⟩

theorem run_newelref03_Months (a0 : Int) (hg : yearM a0 = true) : ∃ F d, run k99 F d 86 Tryz.f86 s_newelref03_Months (a0, ()) = some (r_newelref03_Months.enc (monthsM a0)) := by
  refine ⟨200, 6, ?_⟩
  rw [tree_newelref03_Months]
  have h' := (yearM_iff a0).1 hg
  rw [wrI (n := a0 - 1) (by omega), Int.tdiv_eq_ediv_of_nonneg (by omega), wrI (n := (a0 - 1) / 19) (by omega), wrI (n := 19 * ((a0 - 1) / 19)) (by omega), wrI (n := 19 * ((a0 - 1) / 19) + 1) (by omega), wrI (n := 235 * ((a0 - 1) / 19)) (by omega)]
  have e : monthsM (19 * ((a0 - 1) / 19) + 1) = 235 * ((a0 - 1) / 19) := by unfold monthsM; omega
  rw [e, hg, decide_eq_true (by omega : 1 ≤ 19 * ((a0 - 1) / 19) + 1), decide_eq_true (by omega : 19 * ((a0 - 1) / 19) + 1 ≤ a0), decide_eq_true (by omega : a0 - (19 * ((a0 - 1) / 19) + 1) ≤ 20), beq_self_eq_true]
  rfl

theorem run_newelref03_Molad (a0 : Int) (hg : yearM a0 = true) : ∃ F d, run k100 F d 78 Tryz.f78 s_newelref03_Molad (a0, ()) = some (r_newelref03_Molad.enc (moonR a0)) := by
  refine ⟨200, 6, ?_⟩
  rw [tree_newelref03_Molad]
  have h' := (yearM_iff a0).1 hg
  have hm := months_range h'.1 h'.2
  rw [wrI (n := 765433 * monthsM a0) (by omega), wrI (n := 5604 + 765433 * monthsM a0) (by omega), Int.tdiv_eq_ediv_of_nonneg (by omega), Int.tmod_eq_emod_of_nonneg (by omega), wrI (n := (5604 + 765433 * monthsM a0) / 25920) (by omega), wrI (by omega)]
  rw [hg]
  rfl

theorem run_newelref03_put (a0 : Int) (a1 : Moon) (hg : putOk a0 a1 = true) : ∃ F d, run k101 F d 87 Tryz.f87 s_newelref03_put (a0, a1, ()) = some (r_newelref03_put.enc (putR a0 a1)) := by
  refine ⟨200, 6, ?_⟩
  rw [tree_newelref03_put]
  have hg' : yearM a0 = true ∧ midW a1.day = true := by simpa only [putOk, Bool.and_eq_true] using hg
  have h' := (yearM_iff a0).1 hg'.1
  rw [hg'.2, show midW a0 = true from (midW_iff _).2 (by omega), wrI (n := a0 - 1) (by omega), show midW (a0 - 1) = true from (midW_iff _).2 (by omega)]
  unfold putR rWeekday
  cases decide (a1.part ≥ 19440) <;> cases a1.day % 7 == 2 <;> cases a1.day % 7 == 1 <;> cases decide (a1.part ≥ 9924) <;> cases decide (a1.part ≥ 16789) <;> cases leapM a0 <;> cases leapM (a0 - 1) <;> rfl

theorem run_newelref03_Delay (a0 : Int) (hg : yearM a0 = true) : ∃ F d, run k102 F d 79 Tryz.f79 s_newelref03_Delay (a0, ()) = some (r_newelref03_Delay.enc (delayM a0)) := by
  refine ⟨200, 6, ?_⟩
  rw [tree_newelref03_Delay]
  have h' := (yearM_iff a0).1 hg
  have hp := parts_range h'.1 h'.2
  have hput : putR a0 { day := -1373427 + partsM a0 / 25920, part := partsM a0 % 25920 } = cond (putM a0) 1 0 := rfl
  have hd : (r_newelref03_Delay.enc (delayM a0)) = AV.int .i64 (offM ((-1373427 + partsM a0 / 25920) % 7) (cond (putM a0) 1 0)) := rfl
  have hpn : (0 : Int) ≤ cond (putM a0) 1 0 ∧ (cond (putM a0) 1 0 : Int) ≤ 1 := by cases putM a0 <;> decide
  rw [hput, hd]
  rw [show putOk a0 { day := -1373427 + partsM a0 / 25920, part := partsM a0 % 25920 } = true by simp only [putOk, hg, Bool.true_and]; exact (midW_iff _).2 (by omega), hg]
  clear hput hd
  have hq : 0 ≤ partsM a0 / 25920 ∧ partsM a0 / 25920 ≤ 100000000 := by omega
  generalize (cond (putM a0) 1 0 : Int) = p at *
  generalize partsM a0 / 25920 = q at *
  rw [wrI (n := -1373427 + q + p) (by omega), show midW (-1373427 + q + p) = true from (midW_iff _).2 (by omega), wrI (n := p + 1) (by omega)]
  unfold offM rWeekday
  rw [show ((-1373427 + q) % 7 + p) % 7 = (-1373427 + q + p) % 7 by omega]
  cases (-1373427 + q + p) % 7 == 0 <;> cases (-1373427 + q + p) % 7 == 3 <;> cases (-1373427 + q + p) % 7 == 5 <;> rfl

theorem run_newelref03_NewYear (a0 : Int) (hg : yearM a0 = true) : ∃ F d, run k103 F d 70 Tryz.f70 s_newelref03_NewYear (a0, ()) = some (r_newelref03_NewYear.enc (newY a0)) := by
  refine ⟨200, 6, ?_⟩
  rw [tree_newelref03_NewYear]
  have h' := (yearM_iff a0).1 hg
  have hp := parts_range h'.1 h'.2
  have hn := newY_range h'.1 h'.2
  rw [hg, wrI (n := -1373427 + partsM a0 / 25920 + delayM a0) (by omega)]
  rfl

theorem run_newelref03_Len (a0 : Int) (hg : yearM2 a0 = true) : ∃ F d, run k104 F d 73 Tryz.f73 s_newelref03_Len (a0, ()) = some (r_newelref03_Len.enc (lenM a0)) := by
  refine ⟨200, 6, ?_⟩
  rw [tree_newelref03_Len]
  have h' : 1 ≤ a0 ∧ a0 ≤ 99999 := by simpa only [yearM2, Bool.and_eq_true, decide_eq_true_eq] using hg
  rw [wrI (n := a0 + 1) (by omega), show yearM (a0 + 1) = true from (yearM_iff _).2 (by omega), show yearM a0 = true from (yearM_iff _).2 (by omega)]
  have h1 := newY_range (h := a0) (by omega) (by omega)
  have h2 := newY_range (h := a0 + 1) (by omega) (by omega)
  rw [wrI (n := newY (a0 + 1) - newY a0) (by omega)]
  rfl

theorem run_newelref04_Days (a0 : Int) (a1 : Int) : ∃ F d, run k105 F d 71 Tryz.f71 s_newelref04_Days (a0, a1, ()) = some (r_newelref04_Days.enc (daysH a0 a1)) := by
  refine ⟨200, 6, ?_⟩
  rw [tree_newelref04_Days]
  unfold daysH
  cases hr : recM a0 with
  | false => rfl
  | true =>
    have hb := (recM_iff a0).1 hr
    rw [show midW a0 = true from (midW_iff _).2 (by omega), show yearM2 a0 = true by simp only [yearM2, Bool.and_eq_true, decide_eq_true_eq]; omega]
    simp only [cond_true, Bool.true_and, Bool.not_true, cond_false]
    have e : (bif decide (a1 < 1) then true else decide (a1 > 13)) = !(decide (1 ≤ a1) && decide (a1 ≤ 13)) := by
      rw [Bool.eq_iff_iff]
      cases h1 : decide (a1 < 1) <;> simp at h1 ⊢ <;> omega
    rw [e]
    cases hm : (decide (1 ≤ a1) && decide (a1 ≤ 13)) with
    | false => rfl
    | true =>
      have hm' : 1 ≤ a1 ∧ a1 ≤ 13 := by simpa only [Bool.and_eq_true, decide_eq_true_eq] using hm
      simp only [Bool.not_true, cond_false, cond_true, long30, bne]
      have hc : a1 = 1 ∨ a1 = 2 ∨ a1 = 3 ∨ a1 = 4 ∨ a1 = 5 ∨ a1 = 6 ∨ a1 = 7 ∨ a1 = 8 ∨ a1 = 9 ∨ a1 = 10 ∨ a1 = 11 ∨ a1 = 12 ∨ a1 = 13 := by omega
      rcases hc with rfl | rfl | rfl | rfl | rfl | rfl | rfl | rfl | rfl | rfl | rfl | rfl | rfl <;> cases leapM a0 <;> cases (lenM a0).tmod 10 == 5 <;> cases (lenM a0).tmod 10 == 3 <;> rfl

theorem run_newelref04_First : ∃ F d, run k106 F d 58 Tryz.f58 s_newelref04_First (()) = some (r_newelref04_First.enc (firstH)) := ⟨200, 6, by rw [tree_newelref04_First]; rfl⟩
theorem last_eq : lastH = 2278650 := by
  unfold lastH
  rw [← newY_next, show (9999 : Int) + 1 = 10000 from rfl, newY_last]
  rfl
theorem run_newelref04_Last : ∃ F d, run k107 F d 59 Tryz.f59 s_newelref04_Last (()) = some (r_newelref04_Last.enc (lastH)) := by
  refine ⟨200, 6, ?_⟩
  rw [tree_newelref04_Last]
  have h := last_eq
  unfold lastH at h
  rw [wrI (n := newY 9999 + lenM 9999) (by omega), wrI (n := newY 9999 + lenM 9999 - 1) (by omega)]
  rfl

theorem go_seek (v0 v3 v4 : Int) (F d : Nat) (hi0 : inH v0 = true) : ∀ (k : Nat) (lo hi : Int) (n : Nat), hi - lo ≤ (k : Int) + 1 → 3762 ≤ lo → lo < hi → hi ≤ 10000 → newY lo ≤ v0 → v0 < newY hi → k < n →
    I_seek F (d + 3) n (S_seek v0 lo hi) = some (.exit 0, (X_seek_0 (hyear v0))) := by
  intro k
  induction k with
  | zero =>
    intro lo hi n hk h1 h2 h3 h4 h5 hn
    obtain ⟨n, rfl⟩ : ∃ k, n = k + 1 := ⟨n - 1, by omega⟩
    have e : hi = lo + 1 := by omega
    subst e
    rw [step_seek, wrI (n := lo + 1 - lo) (by omega), decide_eq_false (by omega : ¬ lo + 1 - lo > 1), hyear_only ((recM_iff lo).2 (by omega)) h4 h5]
    rfl
  | succ k ih =>
    intro lo hi n hk h1 h2 h3 h4 h5 hn
    obtain ⟨n, rfl⟩ : ∃ k, n = k + 1 := ⟨n - 1, by omega⟩
    rw [step_seek, wrI (n := hi - lo) (by omega)]
    by_cases hc : hi - lo > 1
    · rw [decide_eq_true hc, cond_true, wrI (n := lo + hi) (by omega), Int.tdiv_eq_ediv_of_nonneg (by omega), wrI (n := (lo + hi) / 2) (by omega), show yearM ((lo + hi) / 2) = true from (yearM_iff _).2 (by omega)]
      simp only [Bool.and_self, cond_true]
      by_cases hm : newY ((lo + hi) / 2) ≤ v0
      · rw [decide_eq_true hm, cond_true]
        exact ih ((lo + hi) / 2) hi n (by omega) (by omega) (by omega) h3 hm h5 (by omega)
      · rw [decide_eq_false hm, cond_false]
        exact ih lo ((lo + hi) / 2) n (by omega) h1 (by omega) (by omega) h4 (by omega) (by omega)
    · have e : hi = lo + 1 := by omega
      subst e
      rw [decide_eq_false hc, hyear_only ((recM_iff lo).2 (by omega)) h4 h5]
      rfl

theorem main_seek (v0 v3 v4 : Int) (hg : (seekOk v0 v3 v4) = true) : ∃ N d, I_seek N d N (S_seek v0 v3 v4) = some (altK Prod.mk [] (.exit 0) (X_seek_0 (hyear v0))) := by
  simp only [seekOk, Bool.and_eq_true, decide_eq_true_eq] at hg
  obtain ⟨h1, h2, h3, h4, h5, h6⟩ := hg
  exact ⟨20000, 3, go_seek v0 v3 v4 20000 0 h1 (v4 - v3).toNat v3 v4 20000 (by omega) h2 h3 h4 h5 h6 (by omega)⟩

theorem run_newelref04_year (a0 : Int) (hg : inH a0 = true) : ∃ F d, run k109 F d 69 Tryz.f69 s_newelref04_year (a0, ()) = some (r_newelref04_year.enc (hyear a0)) := by
  refine ⟨200, 6, ?_⟩
  rw [tree_newelref04_year]
  have hb := (inH_iff a0).1 hg
  have w1 : newY 3762 = 249 := newY_first
  have w2 : newY 10000 = 2278651 := newY_last
  rw [show seekOk a0 3762 10000 = true by simp only [seekOk, hg, w1, w2, Bool.true_and, Bool.and_eq_true, decide_eq_true_eq]; omega]
  rfl

theorem go_rmon (v0_0 v0_1 v0_2 v3 v4 v5 : Int) (F d : Nat) (hr : recM v3 = true) : ∀ (k : Nat) (m o : Int) (n : Nat), (refD (lenM v3) k m o).2 < daysL (lenM v3) (refD (lenM v3) k m o).1 → 0 ≤ o → o ≤ 100000 → 1 ≤ m → m + k ≤ 100 → k < n →
    I_rmon F (d + 3) n (S_rmon v0_0 v0_1 v0_2 v3 o m) = some (.exit 0, (X_rmon_0 v0_0 v0_1 v0_2 v3 (refD (lenM v3) k m o).2 (refD (lenM v3) k m o).1)) := by
  intro k
  induction k with
  | zero =>
    intro m o n hf h0 h1 h2 h3 hn
    obtain ⟨n, rfl⟩ : ∃ k, n = k + 1 := ⟨n - 1, by omega⟩
    rw [step_rmon, days_len hr]
    have hf' : o < daysL (lenM v3) m := hf
    rw [decide_eq_false (by omega : ¬ o ≥ daysL (lenM v3) m)]
    rfl
  | succ k ih =>
    intro m o n hf h0 h1 h2 h3 hn
    obtain ⟨n, rfl⟩ : ∃ k, n = k + 1 := ⟨n - 1, by omega⟩
    have hd := days_range v3 m
    rw [days_len hr] at hd
    rw [step_rmon, days_len hr]
    unfold refD at hf ⊢
    by_cases hc : o ≥ daysL (lenM v3) m
    · rw [decide_eq_true hc] at hf ⊢
      rw [cond_true] at hf
      rw [cond_true, wrI (n := o - daysL (lenM v3) m) (by omega), wrI (n := m + 1) (by omega)]
      exact ih (m + 1) (o - daysL (lenM v3) m) n hf (by omega) (by omega) (by omega) (by omega) (by omega)
    · rw [decide_eq_false hc]
      rfl

theorem ref_in {h o : Int} (hr : recM h = true) (h0 : 0 ≤ o) (h1 : o < lenM h) : (0 ≤ (refD (lenM h) 13 1 o).2 ∧ (refD (lenM h) 13 1 o).2 < daysL (lenM h) (refD (lenM h) 13 1 o).1) ∧ (datL (lenM h) 13 1 o 0 0).1 = (refD (lenM h) 13 1 o).1 ∧ (datL (lenM h) 13 1 o 0 0).2 = (refD (lenM h) 13 1 o).2 + 1 := by
  have e : ((o.toNat : Nat) : Int) = o := by omega
  have a := in_all (year_is hr).1 (o := o.toNat) (by omega)
  have b := same_all (year_is hr).1 (o := o.toNat) (by omega)
  simp only [refIn, sameD, e, Bool.and_eq_true, decide_eq_true_eq, beq_iff_eq] at a b
  exact ⟨a.1, b⟩

theorem main_rmon (v0_0 v0_1 v0_2 v3 v4 v5 : Int) (hg : (monR5 v3 v5 v4) = true) : ∃ N d, I_rmon N d N (S_rmon v0_0 v0_1 v0_2 v3 v4 v5) = some (altK Prod.mk [] (.exit 0) (X_rmon_0 v0_0 v0_1 v0_2 v3 (refD (lenM v3) 13 1 v4).2 (refD (lenM v3) 13 1 v4).1)) := by
  simp only [monR5, Bool.and_eq_true, beq_iff_eq, decide_eq_true_eq] at hg
  obtain ⟨h1, rfl, h3, h4⟩ := hg
  have hl := len_range h1
  exact ⟨40, 3, go_rmon v0_0 v0_1 v0_2 v3 v4 1 40 0 h1 13 1 v4 40 (ref_in h1 h3 h4).1.2 h3 (by omega) (by omega) (by omega) (by omega)⟩

theorem hdate_ref {n : Int} (hi : inH n = true) : hdateOf n = ⟨hyear n, (refD (lenM (hyear n)) 13 1 (n - newY (hyear n))).1, (refD (lenM (hyear n)) 13 1 (n - newY (hyear n))).2 + 1⟩ := by
  obtain ⟨y0, y1, y2, _⟩ := hyear_spec hi
  have hn := newY_next (hyear n)
  have hd := dat_len y0 n 13 1 (newY (hyear n)) 0 0
  obtain ⟨_, r1, r2⟩ := ref_in y0 (o := n - newY (hyear n)) (by omega) (by omega)
  unfold hdateOf
  rw [hd.1, hd.2, r1, r2]

theorem run_newelref04_Of (a0 : Int) (hg : inH a0 = true) : ∃ F d, run k111 F d 56 Tryz.f56 s_newelref04_Of (a0, ()) = some (r_newelref04_Of.enc (hdateOf a0)) := by
  refine ⟨200, 6, ?_⟩
  rw [tree_newelref04_Of]
  obtain ⟨y0, y1, y2, _⟩ := hyear_spec hg
  have hb := (inH_iff a0).1 hg
  have hyr := (recM_iff _).1 y0
  have hn := newY_next (hyear a0)
  have hl := len_range y0
  obtain ⟨⟨r1, r2⟩, _⟩ := ref_in y0 (o := a0 - newY (hyear a0)) (by omega) (by omega)
  have hd := days_range (hyear a0) (refD (lenM (hyear a0)) 13 1 (a0 - newY (hyear a0))).1
  rw [days_len y0] at hd
  rw [wrI (n := a0 - newY (hyear a0)) (by omega), hg, show yearM (hyear a0) = true from (yearM_iff _).2 (by omega)]
  rw [show monR5 (hyear a0) 1 (a0 - newY (hyear a0)) = true by simp only [monR5, y0, beq_self_eq_true, Bool.true_and, Bool.and_eq_true, decide_eq_true_eq]; omega]
  rw [wrI (n := (refD (lenM (hyear a0)) 13 1 (a0 - newY (hyear a0))).2 + 1) (by omega), hdate_ref hg]
  rfl

theorem run_newelref05_tishri (a0 : Int) (a1 : Bool) : ∃ F d, run k112 F d 68 Tryz.f68 s_newelref05_tishri (a0, a1, ()) = some (r_newelref05_tishri.enc (tishriR a0 a1)) := by
  refine ⟨200, 6, ?_⟩
  rw [tree_newelref05_tishri]
  unfold tishriR
  cases a0 == 1 <;> cases a0 == 2 <;> cases a0 == 10 <;> cases a0 == 15 <;> cases a0 == 16 <;> cases a0 == 22 <;> cases a0 == 23 <;> cases a1 <;> rfl

theorem run_newelref05_Of (a0 : HDate) (a1 : Bool) : ∃ F d, run k113 F d 55 Tryz.f55 s_newelref05_Of (a0, a1, ()) = some (r_newelref05_Of.enc (kindR a0 a1)) := by
  refine ⟨200, 6, ?_⟩
  rw [tree_newelref05_Of]
  unfold kindR
  cases a0.month == 1 <;> cases a0.month == 8 <;> cases a0.month == 10 <;> (try rfl) <;> cases a0.day == 15 <;> cases a0.day == 16 <;> cases a0.day == 21 <;> cases a0.day == 22 <;> (try rfl) <;> cases a0.day == 6 <;> cases a0.day == 7 <;> cases a1 <;> rfl

theorem kindR_eq (d : HDate) (ab : Bool) : kindR d ab = kindF d.month d.day ab := by
  obtain ⟨y, m, d⟩ := d
  unfold kindR tishriR kindF holF
  dsimp only
  rw [show List.range 13 = [0, 1, 2, 3, 4, 5, 6, 7, 8, 9, 10, 11, 12] from rfl]
  have none_ok : ∀ l : List Nat, (∀ j ∈ l, hit m d j = false) → l.find? (hit m d) = none := by
    intro l hl
    rw [List.find?_eq_none]
    intro j hj
    rw [hl j hj]
    decide
  have ne : ∀ {a b : Int}, a ≠ b → (a == b) = false := fun h => beq_eq_false_iff_ne.2 h
  by_cases m1 : m = 1
  · subst m1
    rcases (show d = 1 ∨ d = 2 ∨ d = 10 ∨ d = 15 ∨ d = 16 ∨ d = 22 ∨ d = 23 ∨ (d ≠ 1 ∧ d ≠ 2 ∧ d ≠ 10 ∧ d ≠ 15 ∧ d ≠ 16 ∧ d ≠ 22 ∧ d ≠ 23) by omega) with rfl | rfl | rfl | rfl | rfl | rfl | rfl | ⟨h1, h2, h3, h4, h5, h6, h7⟩
    iterate 7 (cases ab <;> rfl)
    rw [none_ok _ (by
      intro j hj
      simp only [List.mem_cons, List.not_mem_nil, or_false] at hj
      rcases hj with rfl | rfl | rfl | rfl | rfl | rfl | rfl | rfl | rfl | rfl | rfl | rfl | rfl <;> simp [hit, holAt, hols, h1, h2, h3, h4, h5, h6, h7])]
    simp [ne h1, ne h2, ne h3, ne h4, ne h5, ne h6, ne h7]
  · by_cases m8 : m = 8
    · subst m8
      rcases (show d = 15 ∨ d = 16 ∨ d = 21 ∨ d = 22 ∨ (d ≠ 15 ∧ d ≠ 16 ∧ d ≠ 21 ∧ d ≠ 22) by omega) with rfl | rfl | rfl | rfl | ⟨h1, h2, h3, h4⟩
      iterate 4 (cases ab <;> rfl)
      rw [none_ok _ (by
        intro j hj
        simp only [List.mem_cons, List.not_mem_nil, or_false] at hj
        rcases hj with rfl | rfl | rfl | rfl | rfl | rfl | rfl | rfl | rfl | rfl | rfl | rfl | rfl <;> simp [hit, holAt, hols, h1, h2, h3, h4])]
      simp [ne h1, ne h2, ne h3, ne h4]
    · by_cases m10 : m = 10
      · subst m10
        rcases (show d = 6 ∨ d = 7 ∨ (d ≠ 6 ∧ d ≠ 7) by omega) with rfl | rfl | ⟨h1, h2⟩
        iterate 2 (cases ab <;> rfl)
        rw [none_ok _ (by
          intro j hj
          simp only [List.mem_cons, List.not_mem_nil, or_false] at hj
          rcases hj with rfl | rfl | rfl | rfl | rfl | rfl | rfl | rfl | rfl | rfl | rfl | rfl | rfl <;> simp [hit, holAt, hols, h1, h2])]
        simp [ne h1, ne h2]
      · rw [none_ok _ (by
          intro j hj
          simp only [List.mem_cons, List.not_mem_nil, or_false] at hj
          rcases hj with rfl | rfl | rfl | rfl | rfl | rfl | rfl | rfl | rfl | rfl | rfl | rfl | rfl <;> simp [hit, holAt, hols, m1, m8, m10])]
        simp [ne m1, ne m8, ne m10]

theorem run_newelref05_Has (a0 : Int) : ∃ F d, run k114 F d 42 Tryz.f42 s_newelref05_Has (a0, ()) = some (r_newelref05_Has.enc (inH a0)) := by
  refine ⟨200, 6, ?_⟩
  rw [tree_newelref05_Has, last_eq, show firstH = 249 from newY_first]
  have e : (bif decide (a0 ≥ 249) then decide (a0 ≤ 2278650) else false) = inH a0 := by
    unfold inH
    rw [Bool.eq_iff_iff]
    cases h1 : decide (a0 ≥ 249) <;> simp at h1 ⊢ <;> omega
  rw [e]
  rfl

theorem run_newelref05_Kind (a0 : Int) (a1 : Bool) : ∃ F d, run k115 F d 40 Tryz.f40 s_newelref05_Kind (a0, a1, ()) = some (r_newelref05_Kind.enc (kindDay a0 a1)) := by
  refine ⟨200, 6, ?_⟩
  rw [tree_newelref05_Kind, kindR_eq]
  unfold kindDay feastOf
  cases inH a0 <;> rfl

theorem run_newelref05_Rest (a0 : Int) (a1 : Bool) : ∃ F d, run k116 F d 21 Tryz.f21 s_newelref05_Rest (a0, a1, ()) = some (r_newelref05_Rest.enc (restG a0 a1)) := by
  refine ⟨200, 6, ?_⟩
  rw [tree_newelref05_Rest]
  unfold restG kindDay
  cases hi : inH a0 with
  | false =>
    rw [Bool.not_false, Bool.or_true]
    rfl
  | true =>
    have hb := (inH_iff a0).1 hi
    rw [show midW a0 = true from (midW_iff _).2 (by omega)]
    simp only [cond_true, Bool.true_and, Bool.true_or]
    unfold rWeekday
    cases a0 % 7 == 6 <;> rfl

theorem go_rback (v0_0 v0_1 : Int) (v1 : Bool) (v5 v6 : Int) (v7 : Bool) (F d : Nat) : ∀ (k : Nat) (x : Int) (n : Nat), inH x = true → runReach (-1) v1 k x = true → k ≤ n →
    I_rback F (d + 3) n (S_rback v0_0 v0_1 v1 x v6 (restG (x - 1) v1)) = some (.exit 0, (X_rback_0 v0_0 v0_1 v1 (runEnd (-1) v1 k x) v6)) := by
  intro k
  induction k with
  | zero => intro x n hi hr hn; cases hr
  | succ k ih =>
    intro x n hi hr hn
    obtain ⟨n, rfl⟩ : ∃ k, n = k + 1 := ⟨n - 1, by omega⟩
    have hx := (inH_iff x).1 hi
    rw [step_rback, wrI (n := x - 1) (by omega), wrI (n := x - 1 - 1) (by omega)]
    simp only [runReach, Bool.or_eq_true, Bool.not_eq_true'] at hr
    unfold runEnd
    rw [show x + -1 = x - 1 by omega] at hr ⊢
    cases hc : restG (x - 1) v1 with
    | false => rfl
    | true =>
      rw [hc] at hr
      rw [cond_true, cond_true]
      exact ih (x - 1) n ((rest_iff _ _).1 hc).1 (hr.resolve_left (by simp)) (by omega)

theorem main_rback (v0_0 v0_1 : Int) (v1 : Bool) (v5 v6 : Int) (v7 : Bool) (hg : (runOk (-1) v1 v5 && v7 == restG (v5 - 1) v1) = true) : ∃ N d, I_rback N d N (S_rback v0_0 v0_1 v1 v5 v6 v7) = some (altK Prod.mk [] (.exit 0) (X_rback_0 v0_0 v0_1 v1 (runEnd (-1) v1 10 v5) v6)) := by
  simp only [runOk, Bool.and_eq_true, Bool.or_eq_true, beq_iff_eq] at hg
  obtain ⟨⟨_, h2, h3⟩, rfl⟩ := hg
  exact ⟨20, 3, go_rback v0_0 v0_1 v1 v5 v6 (restG (v5 - 1) v1) 20 0 10 v5 20 h2 h3 (by omega)⟩

theorem go_rforth (v0_0 v0_1 : Int) (v1 : Bool) (v5 v6 : Int) (v7 : Bool) (F d : Nat) : ∀ (k : Nat) (x : Int) (n : Nat), inH x = true → runReach 1 v1 k x = true → k ≤ n →
    I_rforth F (d + 3) n (S_rforth v0_0 v0_1 v1 v5 x (restG (x + 1) v1)) = some (.exit 2, (X_rforth_0 v0_0 v0_1 v5 (runEnd 1 v1 k x))) := by
  intro k
  induction k with
  | zero => intro x n hi hr hn; cases hr
  | succ k ih =>
    intro x n hi hr hn
    obtain ⟨n, rfl⟩ : ∃ k, n = k + 1 := ⟨n - 1, by omega⟩
    have hx := (inH_iff x).1 hi
    rw [step_rforth, wrI (n := x + 1) (by omega), wrI (n := x + 1 + 1) (by omega)]
    simp only [runReach, Bool.or_eq_true, Bool.not_eq_true'] at hr
    unfold runEnd
    cases hc : restG (x + 1) v1 with
    | false => rfl
    | true =>
      rw [hc] at hr
      rw [cond_true, cond_true]
      exact ih (x + 1) n ((rest_iff _ _).1 hc).1 (hr.resolve_left (by simp)) (by omega)

theorem main_rforth (v0_0 v0_1 : Int) (v1 : Bool) (v5 v6 : Int) (v7 : Bool) (hg : (runOk 1 v1 v6 && v7 == restG (v6 + 1) v1) = true) : ∃ N d, I_rforth N d N (S_rforth v0_0 v0_1 v1 v5 v6 v7) = some (altK Prod.mk [] (.exit 2) (X_rforth_0 v0_0 v0_1 v5 (runEnd 1 v1 10 v6))) := by
  simp only [runOk, Bool.and_eq_true, Bool.or_eq_true, beq_iff_eq] at hg
  obtain ⟨⟨_, h2, h3⟩, rfl⟩ := hg
  exact ⟨20, 3, go_rforth v0_0 v0_1 v1 v5 v6 (restG (v6 + 1) v1) 20 0 10 v6 20 h2 h3 (by omega)⟩

theorem run_newelref05_Run (a0 : Int) (a1 : Bool) (hg : restG a0 a1 = true) : ∃ F d, run k119 F d 22 Tryz.f22 s_newelref05_Run (a0, a1, ()) = some (r_newelref05_Run.enc (run5 a0 a1)) := by
  refine ⟨200, 6, ?_⟩
  rw [tree_newelref05_Run]
  have ho := run_ok hg
  have hb := (inH_iff a0).1 ((rest_iff _ _).1 hg).1
  rw [wrI (n := a0 - 1) (by omega), wrI (n := a0 + 1) (by omega), ho.1, ho.2, beq_self_eq_true, beq_self_eq_true]
  rfl

theorem run_newelref07_At (a0 : Sun) (a1 : Int) (hg : sunRok a0 a1 = true) : ∃ F d, run k94 F d 43 Tryz.f43 s_newelref07_At (a0, a1, ()) = some (r_newelref07_At.enc (sunR a0 a1)) := by
  refine ⟨200, 6, ?_⟩
  rw [tree_newelref07_At]
  have hg' : sunset_Check a0 = 0 ∧ dayOk a1 = true := by simpa only [sunRok, Bool.and_eq_true, beq_iff_eq] using hg
  obtain ⟨hs0, hd⟩ := hg'
  obtain ⟨⟨m1, m2⟩, ⟨d1, d2⟩, he, hL⟩ := of_date hd
  have hr := sun_range hs0 hd
  unfold rOf rDiv
  have e1 : IntKind.wrap IntKind.i64 ((ofG a1).1.month - 1) = (ofG a1).1.month - 1 := wrI (by omega)
  have e3 : Int.tmod (ofG a1).1.month 12 = (ofG a1).1.month % 12 := Int.tmod_eq_emod_of_nonneg (by omega)
  have e4 : IntKind.wrap IntKind.i64 ((ofG a1).1.day - 1) = (ofG a1).1.day - 1 := wrI (by omega)
  have ha := sun_minutes hs0 (k := ((ofG a1).1.month - 1).toNat) (by omega)
  have hb := sun_minutes hs0 (k := ((ofG a1).1.month % 12).toNat) (by omega)
  have hv := div_between (a := selI (sunL a0) ((ofG a1).1.month - 1).toNat) (b := selI (sunL a0) ((ofG a1).1.month % 12).toNat) (x := (ofG a1).1.day - 1) (d := daysG (ofG a1).1.year (ofG a1).1.month) (by omega) (by omega) (by omega)
  rw [e1, e3, e4, hd]
  have hl : [a0.m0, a0.m1, a0.m2, a0.m3, a0.m4, a0.m5, a0.m6, a0.m7, a0.m8, a0.m9, a0.m10, a0.m11] = sunL a0 := rfl
  rw [hl]
  simp only [Nat.zero_add, Nat.mul_one]
  have r : (r_newelref07_At.enc (sunR a0 a1)) = AV.int .i64 (selI (sunL a0) ((ofG a1).1.month - 1).toNat + (selI (sunL a0) ((ofG a1).1.month % 12).toNat - selI (sunL a0) ((ofG a1).1.month - 1).toNat) * ((ofG a1).1.day - 1) / daysG (ofG a1).1.year (ofG a1).1.month) := rfl
  rw [r]
  have hu : (decide (0 ≤ (ofG a1).1.month - 1) && decide ((ofG a1).1.month - 1 < ((12 : Nat) : Int))) = true := by simp; omega
  have hu2 : (decide (0 ≤ (ofG a1).1.month % 12) && decide ((ofG a1).1.month % 12 < ((12 : Nat) : Int))) = true := by simp; omega
  have hu3 : Nat.ble (((ofG a1).1.month - 1).toNat + 1) 12 = true := Nat.ble_eq_true_of_le (by omega)
  have hu4 : Nat.ble (((ofG a1).1.month % 12).toNat + 1) 12 = true := Nat.ble_eq_true_of_le (by omega)
  rw [hu, hu2, hu3, hu4]
  clear hr r hu hu2 hu3 hu4 hl e1 e3 e4 he
  generalize hm1 : selI (sunL a0) ((ofG a1).1.month - 1).toNat = p at *
  generalize hm2 : selI (sunL a0) ((ofG a1).1.month % 12).toNat = q at *
  generalize hx : (ofG a1).1.day - 1 = x at *
  generalize hy : daysG (ofG a1).1.year (ofG a1).1.month = y at *
  have hx' : 0 ≤ x ∧ x ≤ 31 := by omega
  have hpq : -100000 ≤ (q - p) * x ∧ (q - p) * x ≤ 100000 := by
    have h1 : q - p ≤ 420 := by omega
    have h2 : -420 ≤ q - p := by omega
    constructor
    · have := Int.mul_le_mul_of_nonneg_right h2 hx'.1
      omega
    · have := Int.mul_le_mul_of_nonneg_right h1 hx'.1
      omega
  rw [wrI (n := q - p) (by omega), wrI (n := (q - p) * x) (by omega)]
  rw [show divOk ((q - p) * x) y = true by simp only [divOk, big, byB, Bool.and_eq_true, decide_eq_true_eq]; omega]
  generalize (q - p) * x / y = v at *
  rw [wrI (n := p + v) (by omega)]
  rfl

theorem run_newelref07_Moment (a0 : Zone) (a1 : Sun) (a2 : Int) : ∃ F d, run k95 F d 23 Tryz.f23 s_newelref07_Moment (a0, a1, a2, ()) = some (r_newelref07_Moment.enc (sunMom a0 a1 a2)) := by
  refine ⟨200, 6, ?_⟩
  rw [tree_newelref07_Moment]
  unfold sunMom
  cases hz : zone_Check a0 != 0 with
  | true => rfl
  | false =>
    have hz0 : zone_Check a0 = 0 := by simpa using hz
    obtain ⟨z1, _⟩ := zone_facts hz0
    cases hs : sunset_Check a1 != 0 with
    | true => rfl
    | false =>
      have hs0 : sunset_Check a1 = 0 := by simpa using hs
      have e : (bif decide (a2 < 401) then true else decide (a2 > 3651998)) = !inB a2 401 3651998 := by
        unfold inB
        rw [Bool.eq_iff_iff]
        cases h1 : decide (a2 < 401) <;> simp at h1 ⊢ <;> omega
      rw [e]
      cases hb : inB a2 401 3651998 with
      | false => rfl
      | true =>
        have h1 := inB_iff.1 hb
        have hd : dayOk a2 = true := dayOk_iff.2 (by omega)
        have hr : 900 ≤ sunR a1 a2 ∧ sunR a1 a2 ≤ 1320 := sun_range hs0 hd
        rw [show sunRok a1 a2 = true by simp only [sunRok, hs0, hd, beq_self_eq_true, Bool.and_self]]
        rw [wrI (n := a2 * 1440) (by omega), wrI (n := a2 * 1440 + sunR a1 a2) (by omega), wrI (n := a2 * 1440 + sunR a1 a2 - a0.base) (by omega)]
        rfl

def bitB (x : Nat) : Bool := (bits .and .i64 (x : Int) 1 == 1) == (Int.tmod (x : Int) 2 == 1)
theorem bit_all : allTo bitB 128 = true := by kernel_rfl
theorem bit_one {x : Int} (h0 : 0 ≤ x) (h1 : x ≤ 127) : (Int.tmod x 2 == 1) = (bits .and .i64 x 1 == 1) := by
  have := allTo_at bit_all x.toNat (by omega)
  unfold bitB at this
  rw [show ((x.toNat : Nat) : Int) = x by omega, beq_iff_eq] at this
  exact this.symm
theorem arg_facts {w : Window} (h : config_Window w = 0) (hk : w.kind = 1) : 1 ≤ w.arg ∧ w.arg ≤ 127 := by
  have hb : windowB w = true := by
    unfold config_Window errIf at h
    cases hb : windowB w with
    | true => rfl
    | false => rw [hb] at h; cases h
  unfold windowB at hb
  rw [hk] at hb
  simp only [Bool.and_eq_true, inB_iff, beq_self_eq_true, cond_true] at hb
  exact hb.2.1.2

theorem run_newelref14_begins (a0 : Config) (a1 : Window) (a2 : Int) (hg : beginsOk a0 a1 a2 = true) : ∃ F d, run k120 F d 19 Tryz.f19 s_newelref14_begins (a0, a1, a2, ()) = some (r_newelref14_begins.enc (beginsR a0 a1 a2)) := by
  refine ⟨200, 6, ?_⟩
  rw [tree_newelref14_begins]
  have hg' : openOk () a0 a1 a2 = true ∧ a1.kind < 4 := by simpa only [beginsOk, Bool.and_eq_true, decide_eq_true_eq] using hg
  obtain ⟨h1, h2, h3⟩ := open_ok hg'.1
  have hd := (rec_iff _).1 h3
  obtain ⟨hk, _, _, hs⟩ := window_facts h2
  unfold beginsR opens
  rcases hk with hk | hk | hk | hk
  · have ha := arg_facts h2 hk
    rw [hk, show midW a2 = true from (midW_iff _).2 (by omega)]
    have hw : 0 ≤ rWeekday a2 ∧ rWeekday a2 < 7 := by unfold rWeekday; omega
    have hu : IntKind.wrap IntKind.u64 (rWeekday a2) = rWeekday a2 := by
      have : rWeekday a2 = 0 ∨ rWeekday a2 = 1 ∨ rWeekday a2 = 2 ∨ rWeekday a2 = 3 ∨ rWeekday a2 = 4 ∨ rWeekday a2 = 5 ∨ rWeekday a2 = 6 := by omega
      rcases this with h | h | h | h | h | h | h <;> rw [h] <;> rfl
    rw [hu, decide_eq_true hw.1]
    have hx : 0 ≤ a1.arg.fdiv (2 ^ min (rWeekday a2).toNat 64) ∧ a1.arg.fdiv (2 ^ min (rWeekday a2).toNat 64) ≤ 127 := by
      have hp : (0 : Int) < 2 ^ min (rWeekday a2).toNat 64 := Int.pow_pos (by omega)
      rw [Int.fdiv_eq_ediv_of_nonneg _ (Int.le_of_lt hp)]
      exact ⟨Int.ediv_nonneg (by omega) (Int.le_of_lt hp), Int.le_trans (Int.ediv_le_self _ (by omega)) ha.2⟩
    have hbit := bit_one hx.1 hx.2
    simp only [beq_self_eq_true, cond_true, Bool.and_self]
    rw [hbit]
    rfl
  · rw [hk]; rfl
  · rw [hk, wrI (n := a2 - a1.shift) (by omega)]; rfl
  · omega

theorem run_newelref14_Of (a0 : Config) (a1 : Window) (a2 : Int) (hg : openRok a0 a1 a2 = true) : ∃ F d, run k121 F d 9 Tryz.f9 s_newelref14_Of (a0, a1, a2, ()) = some (r_newelref14_Of.enc (openR a0 a1 a2)) := by
  refine ⟨200, 6, ?_⟩
  rw [tree_newelref14_Of]
  obtain ⟨h1, h2, h3⟩ := open_ok hg
  have hd := (rec_iff _).1 h3
  obtain ⟨b1, b2, b3, b4⟩ := lens_ok a0
  obtain ⟨hz, hs⟩ := check_parts h1
  obtain ⟨z1, _⟩ := zone_facts hz
  obtain ⟨hk, hf4, hf, _⟩ := window_facts h2
  unfold openR
  by_cases hk4 : a1.kind = 4
  · rw [decide_eq_false (by omega : ¬ a1.kind < 4), cond_false, wrI (n := a2 + 1) (by omega)]
    have eo : opens a0 a1 a2 = restOpen () a0 a1 a2 := by
      unfold opens
      rw [hk4]
      rfl
    rw [eo]
    unfold restOpen
    cases hn : restG a2 a0.abroad with
    | true => rw [Bool.not_true, Bool.and_false]; rfl
    | false =>
      cases hr : restG (a2 + 1) a0.abroad with
      | false => rfl
      | true =>
        obtain ⟨l1, l2, _, _⟩ := run_last hr
        obtain ⟨m, m1, m2⟩ := sun_mom (n := a2) hz hs (by omega) (by omega)
        obtain ⟨n, n1, n2⟩ := sun_mom (n := runEnd 1 a0.abroad 10 (a2 + 1)) hz hs (by omega) (by omega)
        have := hf4 hk4
        simp only [cond_true, Bool.not_false, Bool.not_true, Bool.and_self, m1, n1, cond_false]
        rw [wrI (n := a2 * 1440 + m - a0.zone.base - a1.minute) (by omega), wrI (n := runEnd 1 a0.abroad 10 (a2 + 1) * 1440 + n - a0.zone.base + a1.len) (by omega)]
        rfl
  · have hlt : a1.kind < 4 := by omega
    obtain ⟨m1, m2, m3, o1, o2⟩ := timed_open hk4 h1 h2 h3
    have hmo : momOk a2 a1.minute = true := by
      have := (hf hk4).1
      unfold momOk
      rw [h3]
      simp
      omega
    have hms := mom_same hz hmo
    have hm' : (momG a0.zone a2 a1.minute).1 = momR a0.zone a2 a1.minute := by rw [hms]
    rw [hm'] at m2 o1 o2
    rw [decide_eq_true hlt, b1, b2, b3, b4]
    rw [show beginsOk a0 a1 a2 = true by simp only [beginsOk, Bool.and_eq_true, decide_eq_true_eq]; exact ⟨hg, hlt⟩]
    rw [show momRok a0.zone a2 a1.minute = true by simp only [momRok, hz, hmo, beq_self_eq_true, Bool.and_self]]
    rw [wrI (n := momR a0.zone a2 a1.minute + a1.len) (by omega), o1, o2]
    unfold beginsR
    cases (opens a0 a1 a2).2.2 <;> rfl

theorem run_newelref14_Check (a0 : Config) (a1 : Window) (a2 : Int) (hg : spanOk a0 a1 a2 = true) : ∃ F d, run k122 F d 8 Tryz.f8 s_newelref14_Check (a0, a1, a2, ()) = some (r_newelref14_Check.enc (spanErr a0 a1 a2)) := by
  refine ⟨200, 6, ?_⟩
  rw [tree_newelref14_Check]
  obtain ⟨b1, b2, b3, b4⟩ := lens_ok a0
  have hs : smallC a0 = true := hg
  rw [b1, b2, b3, b4, hs, ref_Check_eq]
  have e : day14 a2 = recG a2 := by
    rw [Bool.eq_iff_iff, rec_iff]
    simp only [day14, Bool.and_eq_true, decide_eq_true_eq, ge_iff_le]
  rw [e]
  unfold spanErr orE config_Window errIf
  cases h1 : config_Check a0 == 0 with
  | false =>
    have h1' : (config_Check a0 != 0) = true := by simpa using h1
    rw [h1']
    rfl
  | true =>
    have h1' : (config_Check a0 != 0) = false := by simpa using h1
    rw [h1']
    cases windowB a1 <;> cases recG a2 <;> rfl
end Go.Proofs.YtgfinnhojeghhaaGreatDoor.Px.PxY


namespace Go.Proofs.YtgfinnhojeghhaaGreatDoor.Px.PxY
open Go Go.Proofs
set_option linter.unusedSimpArgs false
set_option linter.unusedVariables false

theorem run_newellaw14_WindowTells (a0 : Config) (a1 : Window) (a2 : Int) : ∃ F d, run k124 F d 3 Tryz.f3 s_newellaw14_WindowTells (a0, a1, a2, ()) = some (AV.bool true) := by
  refine ⟨200, 6, ?_⟩
  rw [tree_newellaw14_WindowTells]
  obtain ⟨b1, b2, b3, b4⟩ := lens_ok a0
  rw [b1, b2, b3, b4]
  cases hf : few10 a0 with
  | false => rfl
  | true =>
    have hs := few_small hf
    rw [hs, show spanOk a0 a1 a2 = true from hs]
    rcases span_cases a0 a1 a2 with ⟨he, e⟩ | ⟨⟨h1, h2, h3⟩, e⟩
    · have he' : (spanErr a0 a1 a2 != 0) = true := by simpa using he
      rw [e, he']
      dsimp only
      rw [beq_self_eq_true]
      rfl
    · have he : spanErr a0 a1 a2 = 0 := by
        unfold spanErr orE errIf
        rw [h1, h2, h3]
        rfl
      rw [e, he, show openRok a0 a1 a2 = true from open_in h1 h2 h3]
      unfold openR
      cases (opens a0 a1 a2).2.2 with
      | false => rfl
      | true =>
        simp only [cond_true, beq_self_eq_true, Bool.and_self, bne_self_eq_false, Bool.not_true, cond_false, Bool.true_and]
end Go.Proofs.YtgfinnhojeghhaaGreatDoor.Px.PxY
