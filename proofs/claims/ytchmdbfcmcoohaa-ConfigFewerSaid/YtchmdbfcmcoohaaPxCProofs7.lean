/- The law ConfigFewer. -/
import Derived.Test.YtchmdbfcmcoohaaPxCProofs3
set_option linter.unusedVariables false
set_option linter.unusedSimpArgs false
namespace Go.Proofs.Ytchmdbfcmcoohaa.Px.PxC
open Go Go.Proofs
set_option linter.unusedSimpArgs false
set_option linter.unusedVariables false

theorem few_small {c : Config} (h : few10 c = true) : smallC c = true ∧ c.stops.length ≤ 80 ∧ c.windows.length ≤ 20 := by
  simp only [few10, smallC, Bool.and_eq_true, decide_eq_true_eq] at h ⊢
  omega
theorem orE_eq (a b : Int) : orE a b = if a = 0 then b else a := by
  unfold orE
  by_cases h : a = 0
  · simp [h]
  · rw [if_neg h, show (a == 0) = false by simpa using h]; rfl
theorem errIf_or (b : Bool) (e : Int) : errIf b e = 0 ∨ errIf b e = e := by cases b <;> simp [errIf]
theorem check0 {c : Config} (h : config_Check c = 0) : config_size c = 0 ∧ config_stops c = 0 ∧ config_times c = 0 ∧ zone_Check c.zone = 0 ∧ sunset_Check c.sun = 0 ∧ config_windows c = 0 := by
  simp only [config_Check, orE_eq] at h
  split at h <;> rename_i h1
  · split at h <;> rename_i h2
    · split at h <;> rename_i h3
      · split at h <;> rename_i h4
        · split at h <;> rename_i h5
          · exact ⟨h1, h2, h3, h4, h5, h⟩
          · exact absurd h h5
        · exact absurd h h4
      · exact absurd h h3
    · exact absurd h h2
  · exact absurd h h1

theorem win0 {c : Config} (h : config_windows c = 0) : c.windows.length ≤ 16 ∧ c.windows.all windowB = true := by
  unfold config_windows errIf at h
  by_cases h1 : c.windows.length > 16
  · simp [h1] at h
  · simp only [h1, decide_false, cond_false] at h
    cases h2 : c.windows.all windowB
    · rw [h2] at h; simp at h
    · exact ⟨by omega, rfl⟩

theorem other_windows {c : Config} (h : config_Check c = 0) {W : List Window} (hl : W.length ≤ 16) (hw : W.all windowB = true) : config_Check ({ floors := c.floors, cars := c.cars, park := c.park, stops := c.stops, times := c.times, rest := c.rest, pater := c.pater, zone := c.zone, sun := c.sun, abroad := c.abroad, windows := W } : Config) = 0 := by
  obtain ⟨c1, c2, c3, c4, c5, c6⟩ := check0 h
  have d1 : config_size ({ floors := c.floors, cars := c.cars, park := c.park, stops := c.stops, times := c.times, rest := c.rest, pater := c.pater, zone := c.zone, sun := c.sun, abroad := c.abroad, windows := W } : Config) = 0 := c1
  have d2 : config_stops ({ floors := c.floors, cars := c.cars, park := c.park, stops := c.stops, times := c.times, rest := c.rest, pater := c.pater, zone := c.zone, sun := c.sun, abroad := c.abroad, windows := W } : Config) = 0 := c2
  have d3 : config_times ({ floors := c.floors, cars := c.cars, park := c.park, stops := c.stops, times := c.times, rest := c.rest, pater := c.pater, zone := c.zone, sun := c.sun, abroad := c.abroad, windows := W } : Config) = 0 := c3
  have d6 : config_windows ({ floors := c.floors, cars := c.cars, park := c.park, stops := c.stops, times := c.times, rest := c.rest, pater := c.pater, zone := c.zone, sun := c.sun, abroad := c.abroad, windows := W } : Config) = 0 := by
    have : decide (W.length > 16) = false := by simp; omega
    simp only [config_windows, this, hw, cond_false, errIf, cond_true]
  simp only [config_Check, d1, d2, d3, c4, c5, d6, orE_eq, if_true]

theorem one_stop {c : Config} (h : config_Check c = 0) {st : List Int} (W : List Window) (hl : st.length < 2) : config_Check ({ floors := c.floors, cars := c.cars, park := c.park, stops := st, times := c.times, rest := c.rest, pater := c.pater, zone := c.zone, sun := c.sun, abroad := c.abroad, windows := W } : Config) = 101 := by
  obtain ⟨c1, c2, c3, c4, c5, c6⟩ := check0 h
  have d1 : config_size ({ floors := c.floors, cars := c.cars, park := c.park, stops := st, times := c.times, rest := c.rest, pater := c.pater, zone := c.zone, sun := c.sun, abroad := c.abroad, windows := W } : Config) = 0 := c1
  have d2 : config_stops ({ floors := c.floors, cars := c.cars, park := c.park, stops := st, times := c.times, rest := c.rest, pater := c.pater, zone := c.zone, sun := c.sun, abroad := c.abroad, windows := W } : Config) = 101 := by
    have : decide (2 ≤ st.length) = false := by simp; omega
    simp only [config_stops, stopsB, this, Bool.false_and, errIf, cond_false]
  simp only [config_Check, d1, d2, orE_eq, if_true]
  rfl

theorem fewerW_eq {l : List Window} {n : Int} (h0 : 0 ≤ n) (h1 : n < (l.length : Int)) (hl : l.length ≤ 20) : fewerW l n = l.take n.toNat ++ l.drop (n.toNat + 1) := by
  have w : IntKind.wrap IntKind.i64 (n + 1) = n + 1 := IntWalk.i64_in _ (by omega)
  unfold fewerW
  rw [w, subL_take, subL_take, List.drop_zero]
  congr 1
  rw [show 0 + (n + 1).toNat = n.toNat + 1 by omega]
  apply List.take_of_length_le
  simp only [List.length_drop]
  omega

theorem fits_of {a b : Config} (ha : config_Check a = 0) (hb : config_Check b = 0) (h1 : a.floors = b.floors) (h2 : a.cars = b.cars) : config_Fits a b = true := by
  simp only [config_Fits, ha, hb, h1, h2, beq_self_eq_true, Bool.and_self]
theorem fits_no {a b : Config} (hb : config_Check b = 101) : config_Fits a b = false := by
  have : ((101 : Int) == 0) = false := rfl
  simp only [config_Fits, hb, this, Bool.and_false, Bool.false_and]
theorem same_no {a b : Config} (h : a.windows.length ≠ b.windows.length) : config_Same a b = false := by
  have : decide (a.windows = b.windows) = false := by
    simp only [decide_eq_false_iff_not]
    intro e
    exact h (by rw [e])
  simp only [config_Same, this, Bool.and_false]
theorem same_self (a : Config) : config_Same a a = true := by
  simp [config_Same]

theorem run_newellaw10_ConfigFewer (a0 : Config) (a1 : Int) : ∃ F d, run k37 F d 6 Try.f6 s_newellaw10_ConfigFewer (a0, a1, ()) = some (AV.bool true) := by
  refine ⟨200, 6, ?_⟩
  rw [tree_newellaw10_ConfigFewer]
  cases hf : few10 a0
  · simp only [beqn, ble0, Bool.true_and, Bool.and_true, Bool.and_self, Bool.not_true, Bool.not_false, cond_true, cond_false, Bool.true_or, Bool.or_true]
  · obtain ⟨hs, hl1, hl2⟩ := few_small hf
    by_cases hneg : a1 < 0
    · simp only [beqn, ble0, hs, hneg, decide_true, Bool.true_and, Bool.and_true, Bool.and_self, Bool.not_true, Bool.not_false, cond_true, cond_false, Bool.true_or, Bool.or_true]
      cases config_Check a0 != 0 <;> rfl
    · cases hc : config_Check a0 != 0
      · have hc0 : config_Check a0 = 0 := by simpa using hc
        obtain ⟨c1, c2, c3, c4, c5, c6⟩ := check0 hc0
        obtain ⟨v1, v2⟩ := win0 c6
        have hst2 : 2 ≤ a0.stops.length := by
          simp only [config_stops, errIf] at c2
          cases h : stopsB a0
          · rw [h] at c2; simp at c2
          · simp only [stopsB, Bool.and_eq_true, decide_eq_true_eq] at h
            exact h.1
        have hb1 : Nat.beq 1 a0.stops.length = false := by
          cases h : Nat.beq 1 a0.stops.length
          · rfl
          · have := Nat.eq_of_beq_eq_true h; omega
        have hb2 : Nat.ble 1 a0.stops.length = true := by simp; omega
        have hd1 : decide ((1 : Int) ≤ ((a0.stops.length : Nat) : Int)) = true := by simp; omega
        have hS : (takeN 1 a0.stops).length < 2 := by
          rw [takeN_eq, List.length_take]
          omega
        have e0 : ((0 : Int) != 0) = false := rfl
        have e1 : ((101 : Int) == 101) = true := rfl
        by_cases hat : a1 < ((a0.windows.length : Nat) : Int)
        · have hW := fewerW_eq (l := a0.windows) (n := a1) (by omega) hat hl2
          have w : IntKind.wrap IntKind.i64 (a1 + 1) = a1 + 1 := IntWalk.i64_in _ (by omega)
          have hlen : (fewerW a0.windows a1).length = a0.windows.length - 1 := by rw [hW]; simp; omega
          have hall : (fewerW a0.windows a1).all windowB = true := by
            rw [hW, List.all_append, Bool.and_eq_true]
            rw [List.all_eq_true] at v2
            constructor
            · rw [List.all_eq_true]; exact fun x hx => v2 x (List.mem_of_mem_take hx)
            · rw [List.all_eq_true]; exact fun x hx => v2 x (List.mem_of_mem_drop hx)
          have g1 : decide (a1 < ((a0.windows.length : Nat) : Int)) = true := by simpa using hat
          have g2 : decide (0 ≤ a1) = true := by simp; omega
          have g3 : decide (a1 ≤ ((a0.windows.length : Nat) : Int)) = true := by simp; omega
          have g4 : decide (0 ≤ a1 + 1) = true := by simp; omega
          have g5 : decide (a1 + 1 ≤ ((a0.windows.length : Nat) : Int)) = true := by simp; omega
          have g6 : decide (((a0.windows.length : Nat) : Int) ≤ ((a0.windows.length : Nat) : Int)) = true := by simp
          have g7 : Nat.ble (Int.toNat a1 - 0) a0.windows.length = true := by simp; omega
          have g8 : Nat.ble (0 + Int.toNat (a1 + 1) + (Int.toNat ((a0.windows.length : Nat) : Int) - Int.toNat (a1 + 1))) a0.windows.length = true := by simp; omega
          have g9 : Nat.ble (List.length (bif true && Nat.beq (Int.toNat a1 - 0) a0.windows.length then a0.windows else takeN (Int.toNat a1 - 0) a0.windows)) 1048576 = true := by
            have : (bif true && Nat.beq (Int.toNat a1 - 0) a0.windows.length then a0.windows else takeN (Int.toNat a1 - 0) a0.windows).length ≤ a0.windows.length := by
              cases true && Nat.beq (Int.toNat a1 - 0) a0.windows.length
              · rw [cond_false, takeN_eq]; simp; omega
              · exact Nat.le_refl _
            exact Nat.ble_eq_true_of_le (by omega)
          have g10 : Nat.ble (List.length (bif Nat.beq (0 + Int.toNat (a1 + 1)) 0 && Nat.beq (Int.toNat ((a0.windows.length : Nat) : Int) - Int.toNat (a1 + 1)) a0.windows.length then a0.windows else takeN (Int.toNat ((a0.windows.length : Nat) : Int) - Int.toNat (a1 + 1)) (dropN (0 + Int.toNat (a1 + 1)) a0.windows))) 1048576 = true := by
            have : (bif Nat.beq (0 + Int.toNat (a1 + 1)) 0 && Nat.beq (Int.toNat ((a0.windows.length : Nat) : Int) - Int.toNat (a1 + 1)) a0.windows.length then a0.windows else takeN (Int.toNat ((a0.windows.length : Nat) : Int) - Int.toNat (a1 + 1)) (dropN (0 + Int.toNat (a1 + 1)) a0.windows)).length ≤ a0.windows.length := by
              cases Nat.beq (0 + Int.toNat (a1 + 1)) 0 && Nat.beq (Int.toNat ((a0.windows.length : Nat) : Int) - Int.toNat (a1 + 1)) a0.windows.length
              · rw [cond_false, takeN_eq, dropN_eq, List.length_take, List.length_drop]; omega
              · exact Nat.le_refl _
            exact Nat.ble_eq_true_of_le (by omega)
          have g11 : decide (a1 ≥ ((a0.windows.length : Nat) : Int)) = false := by simp; omega
          simp only [w, g1, g2, g3, g4, g5, g6, g7, g8, g9, g10, g11, hneg, decide_false]
          have k1 := other_windows hc0 (W := fewerW a0.windows a1) (by omega) hall
          have k2 := one_stop hc0 (st := takeN 1 a0.stops) (fewerW a0.windows a1) hS
          have k3 := fits_no (a := a0) k2
          have k4 := fits_of hc0 k1 rfl rfl
          have k5 : config_Same a0 { floors := a0.floors, cars := a0.cars, park := a0.park, stops := a0.stops, times := a0.times, rest := a0.rest, pater := a0.pater, zone := a0.zone, sun := a0.sun, abroad := a0.abroad, windows := fewerW a0.windows a1 } = false := same_no (by simp only; omega)
          have s1 : smallC { floors := a0.floors, cars := a0.cars, park := a0.park, stops := a0.stops, times := a0.times, rest := a0.rest, pater := a0.pater, zone := a0.zone, sun := a0.sun, abroad := a0.abroad, windows := fewerW a0.windows a1 } = true := by simp only [smallC, Bool.and_eq_true, decide_eq_true_eq]; omega
          have s2 : smallC { floors := a0.floors, cars := a0.cars, park := a0.park, stops := takeN 1 a0.stops, times := a0.times, rest := a0.rest, pater := a0.pater, zone := a0.zone, sun := a0.sun, abroad := a0.abroad, windows := fewerW a0.windows a1 } = true := by simp only [smallC, Bool.and_eq_true, decide_eq_true_eq]; omega
          simp only [small2, hc0, k1, k2, k3, k4, k5, s1, s2, hs, hb1, hb2, hd1, e0, e1, beqn, ble0, Bool.true_and, Bool.and_true, Bool.and_self, Bool.and_false, Bool.not_true, Bool.not_false, cond_true, cond_false, Bool.true_or, Bool.or_true, Bool.or_false, beq_self_eq_true]
        · have g1 : decide (a1 < ((a0.windows.length : Nat) : Int)) = false := by simpa using hat
          have g11 : decide (a1 ≥ ((a0.windows.length : Nat) : Int)) = true := by simp; omega
          have k2 := one_stop hc0 (st := takeN 1 a0.stops) a0.windows hS
          have k3 := fits_no (a := a0) k2
          have k4 := fits_of hc0 hc0 rfl rfl
          have k5 := same_self a0
          have s2 : smallC { floors := a0.floors, cars := a0.cars, park := a0.park, stops := takeN 1 a0.stops, times := a0.times, rest := a0.rest, pater := a0.pater, zone := a0.zone, sun := a0.sun, abroad := a0.abroad, windows := a0.windows } = true := by simp only [smallC, Bool.and_eq_true, decide_eq_true_eq]; omega
          simp only [g1, g11, hneg, decide_false, small2, hc0, k2, k3, k4, k5, s2, hs, hb1, hb2, hd1, e0, e1, beqn, ble0, Bool.true_and, Bool.and_true, Bool.and_self, Bool.and_false, Bool.not_true, Bool.not_false, cond_true, cond_false, Bool.true_or, Bool.or_true, Bool.or_false, beq_self_eq_true]
      · simp only [beqn, ble0, hs, Bool.true_and, Bool.and_true, Bool.and_self, Bool.not_true, Bool.not_false, cond_true, cond_false, Bool.true_or, Bool.or_true]
end Go.Proofs.Ytchmdbfcmcoohaa.Px.PxC
