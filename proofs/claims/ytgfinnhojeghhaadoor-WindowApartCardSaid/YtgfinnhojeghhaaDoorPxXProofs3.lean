/- Hebrew years, months and dates. -/
import Derived.Test.YtgfinnhojeghhaaDoorPxXProofs2
set_option linter.unusedVariables false
set_option linter.unusedSimpArgs false
namespace Go.Proofs.YtgfinnhojeghhaaDoor.Px.PxX
open Go Go.Proofs
set_option linter.unusedSimpArgs false
set_option linter.unusedVariables false
set_option maxRecDepth 10000

theorem midW_iff (n : Int) : midW n = true ↔ -100000000000 ≤ n ∧ n ≤ 100000000000 := by
  simp only [midW, mid, Bool.and_eq_true, decide_eq_true_eq]
theorem yearM_iff (h : Int) : yearM h = true ↔ 1 ≤ h ∧ h ≤ 100000 := by
  simp only [yearM, Bool.and_eq_true, decide_eq_true_eq]
theorem months_range {h : Int} (h1 : 1 ≤ h) (h2 : h ≤ 100000) : 0 ≤ monthsM h ∧ monthsM h ≤ 1300000 := by
  unfold monthsM
  omega
theorem parts_range {h : Int} (h1 : 1 ≤ h) (h2 : h ≤ 100000) : 0 ≤ partsM h ∧ partsM h ≤ 1000000000000 := by
  have := months_range h1 h2
  unfold partsM
  omega
theorem newY_range {h : Int} (h1 : 1 ≤ h) (h2 : h ≤ 100000) : -2000000 ≤ newY h ∧ newY h ≤ 100000000 ∧ 0 ≤ delayM h ∧ delayM h ≤ 2 := by
  have hp := parts_range h1 h2
  have hd : 0 ≤ delayM h ∧ delayM h ≤ 2 := by
    unfold delayM offM
    cases putM h <;> cases ((moonM h).1 % 7 + _) % 7 == 0 || _ <;> simp
  unfold newY moonM
  dsimp only
  omega

theorem run_molad_Leap (a0 : Int) (hg : midW a0 = true) : ∃ F d, run k33 F d 71 Tryd.f71 s_molad_Leap (a0, ()) = some (r_molad_Leap.enc (leapM a0)) := by
  refine ⟨200, 6, ?_⟩
  rw [tree_molad_Leap]
  have h' := (midW_iff a0).1 hg
  rw [show divOk a0 19 = true by simp only [divOk, big, byB, Bool.and_eq_true, decide_eq_true_eq]; omega]
  rw [wrI (n := 7 * (a0 % 19)) (by omega), wrI (n := 7 * (a0 % 19) + 1) (by omega), Int.tmod_eq_emod_of_nonneg (by omega)]
  rfl

theorem run_molad_year_months (a0 : Int) (hg : yearM a0 = true) : ∃ F d, run k34 F d 85 Tryd.f85 s_molad_year_months (a0, ()) = some (r_molad_year_months.enc (monthsM a0)) := by
  refine ⟨200, 6, ?_⟩
  rw [tree_molad_year_months]
  have h' := (yearM_iff a0).1 hg
  rw [wrI (n := 235 * a0) (by omega), wrI (n := 235 * a0 - 234) (by omega), Int.tdiv_eq_ediv_of_nonneg (by omega), wrI (by omega)]
  rfl

theorem run_molad_year_moon (a0 : Int) (hg : yearM a0 = true) : ∃ F d, run k35 F d 78 Tryd.f78 s_molad_year_moon (a0, ()) = some (r_molad_year_moon.enc (moonM a0)) := by
  refine ⟨200, 6, ?_⟩
  rw [tree_molad_year_moon]
  have h' := (yearM_iff a0).1 hg
  have hm := months_range h'.1 h'.2
  rw [wrI (n := 765433 * monthsM a0) (by omega), wrI (n := 5604 + 765433 * monthsM a0) (by omega), Int.tdiv_eq_ediv_of_nonneg (by omega), Int.tmod_eq_emod_of_nonneg (by omega), wrI (n := (5604 + 765433 * monthsM a0) / 25920) (by omega), wrI (by omega)]
  rw [hg]
  rfl

theorem seven (w : Int) (h : 0 ≤ w) (h2 : w ≤ 100) : Int.tmod w 7 = w % 7 := Int.tmod_eq_emod_of_nonneg h
theorem off_tree (w : Int) (n : Int) (e : IntKind.wrap IntKind.i64 (n + 1) = n + 1) : (bif (w + n) % 7 == 0 then some (AV.int .i64 (IntKind.wrap IntKind.i64 (n + 1))) else bif (w + n) % 7 == 3 then some (AV.int .i64 (IntKind.wrap IntKind.i64 (n + 1))) else bif (w + n) % 7 == 5 then some (AV.int .i64 (IntKind.wrap IntKind.i64 (n + 1))) else some (AV.int .i64 n)) = some (AV.int .i64 (offM w n)) := by
  unfold offM
  rw [e]
  cases (w + n) % 7 == 0 <;> cases (w + n) % 7 == 3 <;> cases (w + n) % 7 == 5 <;> rfl
theorem not_ge (a b : Int) : (!decide (a ≥ b)) = decide (a < b) := by rw [Bool.eq_iff_iff]; simp
theorem run_molad_year_delay (a0 : Int) (hg : yearM a0 = true) : ∃ F d, run k36 F d 79 Tryd.f79 s_molad_year_delay (a0, ()) = some (r_molad_year_delay.enc (delayM a0)) := by
  refine ⟨200, 6, ?_⟩
  rw [tree_molad_year_delay]
  have h' := (yearM_iff a0).1 hg
  have hp := parts_range h'.1 h'.2
  rw [show midW (-1373427 + partsM a0 / 25920) = true from (midW_iff _).2 (by omega), show midW a0 = true from (midW_iff _).2 (by omega), wrI (n := a0 - 1) (by omega), show midW (a0 - 1) = true from (midW_iff _).2 (by omega), hg]
  simp only [Bool.true_and, Bool.true_or, cond_true]
  have e0 : IntKind.wrap IntKind.i64 (0 + 1) = 1 := rfl
  have hw : 0 ≤ rWeekday (-1373427 + partsM a0 / 25920) ∧ rWeekday (-1373427 + partsM a0 / 25920) < 7 := by unfold rWeekday; omega
  have hd : (r_molad_year_delay.enc (delayM a0)) = AV.int .i64 (offM (rWeekday (-1373427 + partsM a0 / 25920)) (cond (putM a0) 1 0)) := rfl
  rw [hd]
  have hput : putM a0 = (decide (partsM a0 % 25920 ≥ 19440) || ((rWeekday (-1373427 + partsM a0 / 25920) == 2 && (decide (partsM a0 % 25920 ≥ 9924) && !leapM a0)) || (rWeekday (-1373427 + partsM a0 / 25920) == 1 && (decide (partsM a0 % 25920 ≥ 16789) && leapM (a0 - 1))))) := rfl
  rw [hput]
  clear hput hd
  generalize rWeekday (-1373427 + partsM a0 / 25920) = w at *
  generalize partsM a0 % 25920 = p at *
  rw [e0, wrI (n := w + 0) (by omega), wrI (n := w + 1) (by omega), seven _ (by omega) (by omega), seven _ (by omega) (by omega)]
  have t0 := off_tree w 0 rfl
  have t1 := off_tree w 1 rfl
  rw [e0] at t0
  rw [t0, t1]
  rw [show decide (p < 9924) = !decide (p ≥ 9924) by rw [Bool.eq_iff_iff]; simp, show decide (p < 16789) = !decide (p ≥ 16789) by rw [Bool.eq_iff_iff]; simp]
  simp only [bne]
  cases decide (p ≥ 19440) <;> cases w == 2 <;> cases w == 1 <;> cases decide (p ≥ 9924) <;> cases decide (p ≥ 16789) <;> cases leapM a0 <;> cases leapM (a0 - 1) <;> rfl

theorem run_molad_year_first (a0 : Int) (hg : yearM a0 = true) : ∃ F d, run k37 F d 68 Tryd.f68 s_molad_year_first (a0, ()) = some (r_molad_year_first.enc (newY a0)) := by
  refine ⟨200, 6, ?_⟩
  rw [tree_molad_year_first]
  have h' := (yearM_iff a0).1 hg
  have hp := parts_range h'.1 h'.2
  have hn := newY_range h'.1 h'.2
  rw [hg, wrI (n := -1373427 + partsM a0 / 25920 + delayM a0) (by omega)]
  rfl

theorem run_molad_year_length (a0 : Int) (hg : yearM2 a0 = true) : ∃ F d, run k38 F d 69 Tryd.f69 s_molad_year_length (a0, ()) = some (r_molad_year_length.enc (lenM a0)) := by
  refine ⟨200, 6, ?_⟩
  rw [tree_molad_year_length]
  have h' : 1 ≤ a0 ∧ a0 ≤ 99999 := by simpa only [yearM2, Bool.and_eq_true, decide_eq_true_eq] using hg
  rw [wrI (n := a0 + 1) (by omega), show yearM (a0 + 1) = true from (yearM_iff _).2 (by omega), show yearM a0 = true from (yearM_iff _).2 (by omega)]
  have h1 := newY_range (h := a0) (by omega) (by omega)
  have h2 := newY_range (h := a0 + 1) (by omega) (by omega)
  rw [wrI (n := newY (a0 + 1) - newY a0) (by omega)]
  rfl

theorem rec_bif (h : Int) : (bif decide (h < 3762) then true else decide (h > 9999)) = !recM h := by
  unfold recM inB
  rw [Bool.eq_iff_iff]
  cases h1 : decide (h < 3762) <;> simp at h1 ⊢ <;> omega

theorem run_molad_NewYear (a0 : Int) : ∃ F d, run k39 F d 55 Tryd.f55 s_molad_NewYear (a0, ()) = some (r_molad_NewYear.enc (newYearG a0)) := by
  refine ⟨200, 6, ?_⟩
  rw [tree_molad_NewYear, rec_bif]
  unfold newYearG
  cases hr : recM a0 with
  | false => rfl
  | true =>
    have := (recM_iff a0).1 hr
    rw [show yearM a0 = true from (yearM_iff _).2 (by omega)]
    rfl

theorem run_molad_Len (a0 : Int) : ∃ F d, run k40 F d 56 Tryd.f56 s_molad_Len (a0, ()) = some (r_molad_Len.enc (lenG a0)) := by
  refine ⟨200, 6, ?_⟩
  rw [tree_molad_Len, rec_bif]
  unfold lenG
  cases hr : recM a0 with
  | false => rfl
  | true =>
    have := (recM_iff a0).1 hr
    rw [show yearM2 a0 = true by simp only [yearM2, Bool.and_eq_true, decide_eq_true_eq]; omega]
    rfl

theorem run_hebrew_Days (a0 : Int) (a1 : Int) : ∃ F d, run k41 F d 58 Tryd.f58 s_hebrew_Days (a0, a1, ()) = some (r_hebrew_Days.enc (daysH a0 a1)) := by
  refine ⟨200, 6, ?_⟩
  rw [tree_hebrew_Days]
  unfold daysH lenG
  cases hr : recM a0 with
  | false => rfl
  | true =>
    have hb := (recM_iff a0).1 hr
    rw [show midW a0 = true from (midW_iff _).2 (by omega)]
    simp only [cond_true, Bool.true_and, Bool.true_or]
    have e : (bif bif ((0 : Int) != 0) then true else decide (a1 < 1) then true else decide (a1 > 13)) = !(decide (1 ≤ a1) && decide (a1 ≤ 13)) := by
      rw [Bool.eq_iff_iff]
      simp only [bne_self_eq_false, cond_false]
      cases h1 : decide (a1 < 1) <;> simp at h1 ⊢ <;> omega
    rw [e]
    cases hm : (decide (1 ≤ a1) && decide (a1 ≤ 13)) with
    | false => rfl
    | true =>
      simp only [Bool.not_true, cond_false, cond_true, long30]
      cases leapM a0 <;> cases h6 : a1 == 6 <;> cases h2 : a1 == 2 <;> cases h3 : a1 == 3 <;> cases h1 : a1 == 1 <;> cases h5 : a1 == 5 <;> cases h8 : a1 == 8 <;> cases h10 : a1 == 10 <;> cases h12 : a1 == 12 <;> cases (lenM a0).tmod 10 == 5 <;> cases (lenM a0).tmod 10 != 3 <;> rfl

theorem go_yh (v0_0 v1_0 v1_1 v1_2 v2_0 v3 : Int) (F d : Nat) : ∀ (k : Nat) (h : Int) (n : Nat), yearReach v0_0 k h = true → k ≤ n →
    I_yh F (d + 3) n (S_yh v0_0 v1_0 v1_1 v1_2 h v3) = some (.exit 0, (X_yh_0 v0_0 v1_0 v1_1 v1_2 (yearGo v0_0 k h) v3)) := by
  intro k
  induction k with
  | zero => intro h n hr hn; cases hr
  | succ k ih =>
    intro h n hr hn
    obtain ⟨n, rfl⟩ : ∃ k, n = k + 1 := ⟨n - 1, by omega⟩
    simp only [yearReach, Bool.and_eq_true, Bool.or_eq_true] at hr
    obtain ⟨h0, h1⟩ := hr
    have hb := (recM_iff h).1 h0
    rw [step_yh]
    have e1 : newYearG h = (newY h, 0) := by unfold newYearG; rw [h0]; rfl
    have e2 : lenG h = (lenM h, 0) := by unfold lenG; rw [h0]; rfl
    have hn1 := newY_range (h := h + 1) (by omega) (by omega)
    rw [e1, e2]
    dsimp only
    rw [← newY_next, wrI (n := newY (h + 1)) (by omega), wrI (n := h + 1) (by omega)]
    unfold yearGo
    cases hd : decide (v0_0 < newY (h + 1)) with
    | true => rfl
    | false =>
      rw [hd] at h1
      rw [cond_false, cond_false]
      rcases h1 with h1 | h1
      · cases h1
      · exact ih (h + 1) n h1 (by omega)

theorem main_yh (v0_0 v1_0 v1_1 v1_2 v2_0 v3 : Int) (hg : (yearReach v0_0 600 v2_0) = true) : ∃ N d, I_yh N d N (S_yh v0_0 v1_0 v1_1 v1_2 v2_0 v3) = some (altK Prod.mk [] (.exit 0) (X_yh_0 v0_0 v1_0 v1_1 v1_2 (yearGo v0_0 600 v2_0) v3)) := by
  exact ⟨700, 3, go_yh v0_0 v1_0 v1_1 v1_2 v2_0 v3 700 0 600 v2_0 700 hg (by omega)⟩

theorem days_range (h m : Int) : 0 ≤ daysH h m ∧ daysH h m ≤ 30 := by
  unfold daysH
  cases recM h && (decide (1 ≤ m) && decide (m ≤ 13)) <;> cases m == 6 && !leapM h <;> cases long30 h m <;> simp

theorem dat_range (n h : Int) : ∀ (k : Nat) (m f mo da : Int), f ≤ (datH n h k m f mo da).2.2.2 := by
  intro k
  induction k with
  | zero => intro m f mo da; exact Int.le_refl _
  | succ k ih =>
    intro m f mo da
    have hd := days_range h m
    unfold datH
    cases decide (n < f)
    · cases decide (daysH h m > 0)
      · exact Int.le_trans (by omega) (ih (m + 1) (f + daysH h m) mo da)
      · exact Int.le_trans (by omega) (ih (m + 1) (f + daysH h m) m (n - f + 1))
    · exact Int.le_refl _

theorem go_hm (v0_0 v1_0 v1_1 v1_2 v2_0 v3_0 v3_1 v3_2 v4_0 v5_0 v4 : Int) (F d : Nat) (hi : inH v0_0 = true) : ∀ (k : Nat) (m f mo da : Int) (n : Nat), (14 - m).toNat = k → 1 ≤ m → m ≤ 14 → 0 ≤ f → f ≤ 3000000 + 30 * m → k < n →
    I_hm F (d + 3) n (S_hm v0_0 v1_0 v1_1 v1_2 v2_0 v3_0 mo da v2_0 f m) = some (cond (datH v0_0 v2_0 k m f mo da).1 (.ret, (X_hm_0 v0_0 v1_0 v1_1 v1_2 v2_0 v3_0 ((datH v0_0 v2_0 k m f mo da).2.1) ((datH v0_0 v2_0 k m f mo da).2.2.1) v2_0 ((datH v0_0 v2_0 k m f mo da).2.2.2))) (.exit 0, (X_hm_1 v0_0 v1_0 v1_1 v1_2 v2_0 v3_0 ((datH v0_0 v2_0 k m f mo da).2.1) ((datH v0_0 v2_0 k m f mo da).2.2.1) v2_0 ((datH v0_0 v2_0 k m f mo da).2.2.2)))) := by
  have hi' : 249 ≤ v0_0 ∧ v0_0 < 2278651 := by simpa only [inH, Bool.and_eq_true, decide_eq_true_eq] using hi
  intro k
  induction k with
  | zero =>
    intro m f mo da n hk h1 h2 h3 h4 hn
    obtain ⟨n, rfl⟩ : ∃ k, n = k + 1 := ⟨n - 1, by omega⟩
    rw [step_hm, decide_eq_false (by omega : ¬ m ≤ 13)]
    rfl
  | succ k ih =>
    intro m f mo da n hk h1 h2 h3 h4 hn
    obtain ⟨n, rfl⟩ : ∃ k, n = k + 1 := ⟨n - 1, by omega⟩
    have hd := days_range v2_0 m
    rw [step_hm, decide_eq_true (by omega : m ≤ 13), cond_true]
    unfold datH
    rw [wrI (n := f + daysH v2_0 m) (by omega), wrI (n := m + 1) (by omega)]
    cases hc : decide (v0_0 < f) with
    | true => rfl
    | false =>
      rw [wrI (n := v0_0 - f) (by omega), wrI (n := v0_0 - f + 1) (by omega)]
      rw [cond_false]
      cases decide (daysH v2_0 m > 0) with
      | true =>
        rw [cond_true, cond_true]
        exact ih (m + 1) (f + daysH v2_0 m) m (v0_0 - f + 1) n (by omega) (by omega) (by omega) (by omega) (by omega) (by omega)
      | false =>
        rw [cond_false, cond_false]
        exact ih (m + 1) (f + daysH v2_0 m) mo da n (by omega) (by omega) (by omega) (by omega) (by omega) (by omega)

theorem main_hm (v0_0 v1_0 v1_1 v1_2 v2_0 v3_0 v3_1 v3_2 v4_0 v5_0 v4 : Int) (hg : (monOk v0_0 v2_0 v4_0 v4 v5_0) = true) : ∃ N d, I_hm N d N (S_hm v0_0 v1_0 v1_1 v1_2 v2_0 v3_0 v3_1 v3_2 v4_0 v5_0 v4) = some (altK Prod.mk [((datH v0_0 v2_0 (14 - v4).toNat v4 v5_0 v3_1 v3_2).1, .ret, (X_hm_0 v0_0 v1_0 v1_1 v1_2 v2_0 v3_0 (datH v0_0 v2_0 (14 - v4).toNat v4 v5_0 v3_1 v3_2).2.1 (datH v0_0 v2_0 (14 - v4).toNat v4 v5_0 v3_1 v3_2).2.2.1 v4_0 (datH v0_0 v2_0 (14 - v4).toNat v4 v5_0 v3_1 v3_2).2.2.2))] (.exit 0) (X_hm_1 v0_0 v1_0 v1_1 v1_2 v2_0 v3_0 (datH v0_0 v2_0 (14 - v4).toNat v4 v5_0 v3_1 v3_2).2.1 (datH v0_0 v2_0 (14 - v4).toNat v4 v5_0 v3_1 v3_2).2.2.1 v4_0 (datH v0_0 v2_0 (14 - v4).toNat v4 v5_0 v3_1 v3_2).2.2.2)) := by
  simp only [monOk, Bool.and_eq_true, beq_iff_eq, decide_eq_true_eq] at hg
  obtain ⟨rfl, h1, h2, h3, h4, h5⟩ := hg
  refine ⟨20, 3, ?_⟩
  have := go_hm v0_0 v1_0 v1_1 v1_2 v2_0 v3_0 v3_1 v3_2 v2_0 v5_0 v4 20 0 h1 (14 - v4).toNat v4 v5_0 v3_1 v3_2 20 rfl h2 h3 h4 h5 (by omega)
  rw [this]
  simp only [altK]

theorem run_hebrew_Of (a0 : Int) : ∃ F d, run k44 F d 43 Tryd.f43 s_hebrew_Of (a0, ()) = some (r_hebrew_Of.enc (hofG a0)) := by
  refine ⟨200, 6, ?_⟩
  rw [tree_hebrew_Of]
  have w1 : newY 3762 = 249 := newY_first
  have w2 : IntKind.wrap IntKind.i64 (newY 9999 + lenM 9999) = 2278651 := by
    rw [← newY_next, show (9999 : Int) + 1 = 10000 from rfl, newY_last]
    rfl
  rw [w1, w2]
  have hc : (bif decide (a0 < 249) then true else decide (a0 ≥ 2278651)) = !inH a0 := by
    unfold inH
    rw [Bool.eq_iff_iff]
    cases h1 : decide (a0 < 249) <;> simp at h1 ⊢ <;> omega
  rw [hc]
  unfold hofG
  cases hi : inH a0 with
  | false => rfl
  | true =>
    obtain ⟨y0, y1, y2, y3, y4, y5, y6⟩ := hyear_spec hi
    have hb : 249 ≤ a0 ∧ a0 < 2278651 := by simpa only [inH, Bool.and_eq_true, decide_eq_true_eq] using hi
    have hyr := (recM_iff _).1 y0
    have ew : IntKind.wrap IntKind.i64 (3762 + IntKind.wrap IntKind.i64 (Int.tdiv (IntKind.wrap IntKind.i64 (a0 - 249)) 386)) = fromH a0 := by
      rw [wrI (n := a0 - 249) (by omega)]
      have : 0 ≤ Int.tdiv (a0 - 249) 386 ∧ Int.tdiv (a0 - 249) 386 ≤ 10000 := by rw [Int.tdiv_eq_ediv_of_nonneg (by omega)]; omega
      rw [wrI (n := Int.tdiv (a0 - 249) 386) (by omega), wrI (by omega)]
      rfl
    rw [ew]
    have eh : yearGo a0 600 (fromH a0) = hyear a0 := rfl
    have e1 : newYearG (hyear a0) = (newY (hyear a0), 0) := by unfold newYearG; rw [y0]; rfl
    rw [eh, y3, e1]
    have hm := newY_mono (a := 3762) (b := hyear a0) (by omega) hyr.1 (by omega)
    rw [w1] at hm
    rw [show monOk a0 (hyear a0) (hyear a0) 1 (newY (hyear a0)) = true by simp only [monOk, hi, beq_self_eq_true, Bool.true_and, Bool.and_eq_true, decide_eq_true_eq]; omega]
    cases hd : (datH a0 (hyear a0) 13 1 (newY (hyear a0)) 0 0).1 <;> simp only [Bool.not_true, cond_false, cond_true, Bool.and_self, hd] <;> rfl
end Go.Proofs.YtgfinnhojeghhaaDoor.Px.PxX
