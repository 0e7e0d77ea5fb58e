/- Configurations: the laws. -/
import Derived.Test.YtchmdbfcmcoohaaPxCProofs3
set_option linter.unusedVariables false
set_option linter.unusedSimpArgs false
namespace Go.Proofs.Ytchmdbfcmcoohaa.Px.PxC
open Go Go.Proofs
set_option linter.unusedSimpArgs false
set_option linter.unusedVariables false

theorem few_small {c : Config} (h : few10 c = true) : smallC c = true ∧ c.stops.length ≤ 80 ∧ c.windows.length ≤ 20 := by
  simp only [few10, smallC, Bool.and_eq_true, decide_eq_true_eq] at h ⊢
  omega
theorem orE_eq (a b : Int) : orE a b = if a = 0 then b else a := by
  unfold orE
  by_cases h : a = 0
  · simp [h]
  · rw [if_neg h, show (a == 0) = false by simpa using h]; rfl
theorem errIf_or (b : Bool) (e : Int) : errIf b e = 0 ∨ errIf b e = e := by cases b <;> simp [errIf]
theorem check0 {c : Config} (h : config_Check c = 0) : config_size c = 0 ∧ config_stops c = 0 ∧ config_times c = 0 ∧ zone_Check c.zone = 0 ∧ sunset_Check c.sun = 0 ∧ config_windows c = 0 := by
  simp only [config_Check, orE_eq] at h
  split at h <;> rename_i h1
  · split at h <;> rename_i h2
    · split at h <;> rename_i h3
      · split at h <;> rename_i h4
        · split at h <;> rename_i h5
          · exact ⟨h1, h2, h3, h4, h5, h⟩
          · exact absurd h h5
        · exact absurd h h4
      · exact absurd h h3
    · exact absurd h h2
  · exact absurd h h1

theorem zone_range (z : Zone) : zone_Check z = 0 ∨ zone_Check z = 60 ∨ zone_Check z = 61 ∨ zone_Check z = 62 := by
  unfold zone_Check
  cases inB z.base (-720) 840
  · simp
  cases inB z.shift 0 120
  · simp
  cases (bif z.shift == 0 then decide (z.on = turn0) && decide (z.off = turn0) else turnsB z) <;> simp
theorem sun_range (s : Sun) : sunset_Check s = 0 ∨ sunset_Check s = 70 ∨ sunset_Check s = 71 := by
  unfold sunset_Check
  cases (sunL s).all fun n => inB n 900 1320
  · simp
  have := errIf_or (stepsB (sunL s ++ [s.m0])) 71
  simp only [cond_true]
  omega
theorem win_range (c : Config) : config_windows c = 0 ∨ config_windows c = 103 ∨ config_windows c = 104 := by
  unfold config_windows
  have := errIf_or (c.windows.all windowB) 104
  cases decide (c.windows.length > 16)
  · simp only [cond_false]; omega
  · simp

theorem run_newellaw10_ConfigMore (a0 : Config) (a1 : Window) : ∃ F d, run k25 F d 5 Try.f5 s_newellaw10_ConfigMore (a0, a1, ()) = some (AV.bool true) := by
  refine ⟨200, 6, ?_⟩
  rw [tree_newellaw10_ConfigMore]
  cases hf : few10 a0
  · simp only [beqn, ble0, Bool.true_and, Bool.and_true, Bool.and_self, Bool.not_true, Bool.not_false, cond_true, cond_false, Bool.true_or, Bool.or_true]
  · obtain ⟨hs, hl1, hl2⟩ := few_small hf
    have hs' : smallC { floors := a0.floors, cars := a0.cars, park := a0.park, stops := a0.stops, times := a0.times, rest := a0.rest, pater := a0.pater, zone := a0.zone, sun := a0.sun, abroad := a0.abroad, windows := a0.windows ++ [a1] } = true := by
      simp [smallC]; omega
    have hb : Nat.ble a0.windows.length 1048576 = true := by simp; omega
    have hd : decide (a0.windows.length ≤ 1048576) = true := by simp; omega
    simp only [beqn, ble0, hs, hs', hb, hd, Bool.true_and, Bool.and_true, Bool.and_self, Bool.not_true, Bool.not_false, cond_true, cond_false, Bool.true_or, Bool.or_true]
    cases hc : config_Check a0 != 0
    · have hc0 : config_Check a0 = 0 := by simpa using hc
      obtain ⟨c1, c2, c3, c4, c5, c6⟩ := check0 hc0
      have w1 : ¬ a0.windows.length > 16 := by
        intro h; simp [config_windows, h] at c6
      have w2 : a0.windows.all windowB = true := by
        simp only [config_windows, w1, decide_false, cond_false, errIf] at c6
        cases h : a0.windows.all windowB
        · rw [h] at c6; simp at c6
        · rfl
      have hk : config_Check { floors := a0.floors, cars := a0.cars, park := a0.park, stops := a0.stops, times := a0.times, rest := a0.rest, pater := a0.pater, zone := a0.zone, sun := a0.sun, abroad := a0.abroad, windows := a0.windows ++ [a1] } = config_windows { floors := a0.floors, cars := a0.cars, park := a0.park, stops := a0.stops, times := a0.times, rest := a0.rest, pater := a0.pater, zone := a0.zone, sun := a0.sun, abroad := a0.abroad, windows := a0.windows ++ [a1] } := by
        have d1 : config_size { floors := a0.floors, cars := a0.cars, park := a0.park, stops := a0.stops, times := a0.times, rest := a0.rest, pater := a0.pater, zone := a0.zone, sun := a0.sun, abroad := a0.abroad, windows := a0.windows ++ [a1] } = 0 := c1
        have d2 : config_stops { floors := a0.floors, cars := a0.cars, park := a0.park, stops := a0.stops, times := a0.times, rest := a0.rest, pater := a0.pater, zone := a0.zone, sun := a0.sun, abroad := a0.abroad, windows := a0.windows ++ [a1] } = 0 := c2
        have d3 : config_times { floors := a0.floors, cars := a0.cars, park := a0.park, stops := a0.stops, times := a0.times, rest := a0.rest, pater := a0.pater, zone := a0.zone, sun := a0.sun, abroad := a0.abroad, windows := a0.windows ++ [a1] } = 0 := c3
        simp only [config_Check, d1, d2, d3, c4, c5, orE_eq, if_true]
      rw [hk, w2]
      simp only [config_windows, cond_true, cond_false, List.length_append, List.length_singleton, List.all_append, w2, List.all_cons, List.all_nil, Bool.true_and, Bool.and_true, config_Window]
      by_cases h16 : a0.windows.length + 1 > 16
      · have g : decide (16 < ((a0.windows.length : Nat) : Int) + 1) = true := by simp; omega
        simp [h16, g]
      · have g : decide (16 < ((a0.windows.length : Nat) : Int) + 1) = false := by simp; omega
        simp [h16, g]
    · simp only [cond_true, or_true', Bool.or_true]

theorem run_newellaw10_ConfigFirst (a0 : Config) (a1 : Config) : ∃ F d, run k22 F d 7 Try.f7 s_newellaw10_ConfigFirst (a0, a1, ()) = some (AV.bool true) := by
  refine ⟨200, 6, ?_⟩
  rw [tree_newellaw10_ConfigFirst]
  cases hf : few10 a0
  · simp only [beqn, ble0, Bool.true_and, Bool.and_true, Bool.and_self, Bool.not_true, Bool.not_false, cond_true, cond_false, Bool.true_or, Bool.or_true]
  cases hf1 : few10 a1
  · simp only [beqn, ble0, Bool.true_and, Bool.and_true, Bool.and_self, Bool.not_true, Bool.not_false, cond_true, cond_false, Bool.true_or, Bool.or_true]
  · obtain ⟨hs, hl1, hl2⟩ := few_small hf
    obtain ⟨hs1, hm1, hm2⟩ := few_small hf1
    generalize hy : ({ floors := a0.floors, cars := a0.cars, park := a0.park, stops := a0.stops, times := a0.times, rest := a0.rest, pater := a0.pater, zone := a1.zone, sun := a1.sun, abroad := a0.abroad, windows := a0.windows } : Config) = y
    have hsy : smallC y = true := by subst hy; exact hs
    have hsx : smallC { floors := 1, cars := a0.cars, park := a0.park, stops := a0.stops, times := a0.times, rest := a0.rest, pater := a0.pater, zone := a0.zone, sun := a0.sun, abroad := a0.abroad, windows := a0.windows } = true := hs
    simp only [beqn, ble0, hs, hs1, hsy, hsx, Bool.true_and, Bool.and_true, Bool.and_self, Bool.not_true, Bool.not_false, cond_true, cond_false, Bool.true_or, Bool.or_true, Bool.not_not]
    have y1 : config_size y = config_size a0 := by subst hy; rfl
    have y2 : config_stops y = config_stops a0 := by subst hy; rfl
    have y3 : config_times y = config_times a0 := by subst hy; rfl
    have y4 : zone_Check y.zone = zone_Check a1.zone := by subst hy; rfl
    have y5 : sunset_Check y.sun = sunset_Check a1.sun := by subst hy; rfl
    have y6 : config_windows y = config_windows a0 := by subst hy; rfl
    have r1 := errIf_or (sizeB a0) 100
    have r2 := errIf_or (stopsB a0) 101
    have r3 := errIf_or (timesC a0) 102
    have r4 := zone_range a0.zone
    have r5 := sun_range a0.sun
    have r6 := win_range a0
    have e : config_Check y = orE (config_size a0) (orE (config_stops a0) (orE (config_times a0) (orE (zone_Check a1.zone) (orE (sunset_Check a1.sun) (config_windows a0))))) := by rw [config_Check, y1, y2, y3, y4, y5, y6]
    have e0 : config_Check a0 = orE (config_size a0) (orE (config_stops a0) (orE (config_times a0) (orE (zone_Check a0.zone) (orE (sunset_Check a0.sun) (config_windows a0))))) := rfl
    change config_size a0 = 0 ∨ config_size a0 = 100 at r1
    change config_stops a0 = 0 ∨ config_stops a0 = 101 at r2
    change config_times a0 = 0 ∨ config_times a0 = 102 at r3
    have hsame : (bif (bif (bif config_Check a0 == 100 then true else config_Check a0 == 101) then true else config_Check a0 == 102) then config_Check y != config_Check a0 else false) = false := by
      rw [e, e0]
      generalize config_size a0 = s1 at *
      generalize config_stops a0 = s2 at *
      generalize config_times a0 = s3 at *
      rcases r1 with rfl | rfl
      · rcases r2 with rfl | rfl
        · rcases r3 with rfl | rfl
          · simp only [orE_eq, if_true]
            rcases r4 with h | h | h | h <;> rw [h] <;> try rfl
            rcases r5 with h | h | h <;> rw [h] <;> try rfl
            rcases r6 with h | h | h <;> rw [h] <;> rfl
          · simp [orE_eq]
        · simp [orE_eq]
      · simp [orE_eq]
    rw [hsame, cond_false]
    cases hc : config_Check a0 != 0
    · have hc0 : config_Check a0 = 0 := by simpa using hc
      obtain ⟨c1, c2, c3, c4, c5, c6⟩ := check0 hc0
      simp only [Bool.not_false, Bool.not_true, cond_true, cond_false]
      cases hd : config_Check a1 != 0
      · have hd0 : config_Check a1 = 0 := by simpa using hd
        obtain ⟨d1, d2, d3, d4, d5, d6⟩ := check0 hd0
        rw [e, c1, c2, c3, d4, d5, c6]
        rfl
      · rfl
    · rfl

theorem run_newellaw10_ConfigTimes (a0 : Config) (a1 : Int) : ∃ F d, run k23 F d 8 Try.f8 s_newellaw10_ConfigTimes (a0, a1, ()) = some (AV.bool true) := by
  refine ⟨200, 6, ?_⟩
  rw [tree_newellaw10_ConfigTimes]
  cases hf : few10 a0
  · simp only [beqn, ble0, Bool.true_and, Bool.and_true, Bool.and_self, Bool.not_true, Bool.not_false, cond_true, cond_false, Bool.true_or, Bool.or_true]
  · obtain ⟨hs, hl1, hl2⟩ := few_small hf
    simp only [beqn, ble0, hs, Bool.true_and, Bool.and_true, Bool.and_self, Bool.not_true, Bool.not_false, cond_true, cond_false, Bool.true_or, Bool.or_true]
    cases hc : config_Check a0 != 0
    · have hc0 : config_Check a0 = 0 := by simpa using hc
      obtain ⟨c1, c2, c3, c4, c5, c6⟩ := check0 hc0
      generalize hy : ({ floors := a0.floors, cars := a0.cars, park := a0.park, stops := a0.stops, times := { travel := a0.times.travel, level := a0.times.level, open_ := a0.times.open_, dwell := a0.times.dwell, lead := a1, close := a0.times.close, hold := a0.times.hold }, rest := a0.rest, pater := a0.pater, zone := a0.zone, sun := a0.sun, abroad := a0.abroad, windows := a0.windows } : Config) = y
      have hsy : smallC y = true := by subst hy; exact hs
      have y1 : config_size y = config_size a0 := by subst hy; rfl
      have y2 : config_stops y = config_stops a0 := by subst hy; rfl
      have y4 : zone_Check y.zone = zone_Check a0.zone := by subst hy; rfl
      have y5 : sunset_Check y.sun = sunset_Check a0.sun := by subst hy; rfl
      have y6 : config_windows y = config_windows a0 := by subst hy; rfl
      have ht : timesC a0 = true := by
        cases h : timesC a0
        · simp [config_times, h, errIf] at c3
        · rfl
      have hty : timesC y = (decide (1 ≤ a1) && (decide (a1 ≤ a0.times.dwell) && decide (a1 ≤ a0.rest) && decide (a1 ≤ a0.pater))) := by
        subst hy
        simp only [timesC, Bool.and_eq_true] at ht ⊢
        obtain ⟨⟨⟨⟨⟨⟨⟨⟨⟨⟨⟨t1, t2⟩, t3⟩, t4⟩, t5⟩, t6⟩, t7⟩, t8⟩, t9⟩, t10⟩, t11⟩, t12⟩ := ht
        simp only [t1, t2, t3, t4, t5, t6, t7, t8, Bool.true_and, Bool.and_assoc]
      have hky : config_Check y = errIf (timesC y) 102 := by
        simp only [config_Check, y1, y2, y4, y5, y6, c1, c2, c4, c5, c6, orE_eq, if_true, config_times]
        split <;> simp_all
      generalize hl : (bif decide (a0.pater < bif decide (a0.rest < a0.times.dwell) then a0.rest else a0.times.dwell) then a0.pater else bif decide (a0.rest < a0.times.dwell) then a0.rest else a0.times.dwell) = least
      have hmin : ∀ n : Int, n ≤ least ↔ n ≤ a0.times.dwell ∧ n ≤ a0.rest ∧ n ≤ a0.pater := by
        intro n
        subst hl
        simp only [Bool.cond_eq_ite, decide_eq_true_eq]
        (repeat' split) <;> omega
      have hle : decide (a1 ≤ least) = (decide (a1 ≤ a0.times.dwell) && decide (a1 ≤ a0.rest) && decide (a1 ≤ a0.pater)) := by
        rw [Bool.eq_iff_iff]
        simp [hmin a1, and_assoc]
      simp only [timesC, tickB, inB, Bool.and_eq_true, decide_eq_true_eq] at ht
      have m1 := (hmin 1).2 (by omega)
      have m2 := (hmin least).1 (by omega)
      have g1 : decide (least ≥ 1) = true := by simpa using m1
      have g2 : decide (least ≤ 60) = true := by simp; omega
      simp only [hsy, hky, hty, hle, g1, g2, Bool.and_true, Bool.and_self, cond_true, cond_false, dge, bne, Bool.not_true, Bool.or_false, and_false']
      generalize decide (1 ≤ a1) = b1
      generalize (decide (a1 ≤ a0.times.dwell) && decide (a1 ≤ a0.rest) && decide (a1 ≤ a0.pater)) = b2
      cases b1 <;> cases b2 <;> rfl
    · simp only [cond_true, or_true', Bool.or_true]
end Go.Proofs.Ytchmdbfcmcoohaa.Px.PxC
