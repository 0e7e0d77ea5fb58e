/- Configurations: what is the same. -/
import Derived.Test.YtchmdbfcmcoohaaPxCProofs2
set_option linter.unusedVariables false
set_option linter.unusedSimpArgs false
namespace Go.Proofs.Ytchmdbfcmcoohaa.Px.PxC
open Go Go.Proofs
set_option linter.unusedSimpArgs false
set_option linter.unusedVariables false

theorem times_eq (x y : Times) : (Times.travel x == Times.travel y && (Times.level x == Times.level y && (Times.open_ x == Times.open_ y && (Times.dwell x == Times.dwell y && (Times.lead x == Times.lead y && (Times.close x == Times.close y && (Times.hold x == Times.hold y && true))))))) = decide (x = y) := by
  cases x; cases y; rw [Bool.eq_iff_iff]; simp
theorem zone_eq (x y : Zone) : (Zone.base x == Zone.base y && (Zone.shift x == Zone.shift y && (Turn.month (Zone.on x) == Turn.month (Zone.on y) && (Turn.week (Zone.on x) == Turn.week (Zone.on y) && (Turn.weekday (Zone.on x) == Turn.weekday (Zone.on y) && (Turn.minute (Zone.on x) == Turn.minute (Zone.on y) && (Turn.month (Zone.off x) == Turn.month (Zone.off y) && (Turn.week (Zone.off x) == Turn.week (Zone.off y) && (Turn.weekday (Zone.off x) == Turn.weekday (Zone.off y) && (Turn.minute (Zone.off x) == Turn.minute (Zone.off y) && true)))))))))) = decide (x = y) := by
  obtain ⟨a, b, ⟨c, d, e, f⟩, ⟨g, h, i, j⟩⟩ := x
  obtain ⟨a', b', ⟨c', d', e', f'⟩, ⟨g', h', i', j'⟩⟩ := y
  rw [Bool.eq_iff_iff]; simp [and_assoc]
theorem sun_eq (x y : Sun) : (Sun.m0 x == Sun.m0 y && (Sun.m1 x == Sun.m1 y && (Sun.m2 x == Sun.m2 y && (Sun.m3 x == Sun.m3 y && (Sun.m4 x == Sun.m4 y && (Sun.m5 x == Sun.m5 y && (Sun.m6 x == Sun.m6 y && (Sun.m7 x == Sun.m7 y && (Sun.m8 x == Sun.m8 y && (Sun.m9 x == Sun.m9 y && (Sun.m10 x == Sun.m10 y && (Sun.m11 x == Sun.m11 y && true)))))))))))) = decide (x = y) := by
  cases x; cases y; rw [Bool.eq_iff_iff]; simp
theorem lenInt {α : Type} (a b : List α) : (((a.length : Nat) : Int) != ((b.length : Nat) : Int)) = !(a.length == b.length) := by
  rw [Bool.eq_iff_iff]; simp; try omega

theorem run_config_Same (a0 : Config) (a1 : Config) (hg : small2 a0 a1 = true) : ∃ F d, run k17 F d 16 Try.f16 s_config_Same (a0, a1, ()) = some (r_config_Same.enc (config_Same a0 a1)) := by
  refine ⟨200, 6, ?_⟩
  rw [tree_config_Same]
  simp only [small2, smallC, Bool.and_eq_true, decide_eq_true_eq] at hg
  obtain ⟨⟨h1, h2⟩, h3, h4⟩ := hg
  simp only [beqn, ble0, Bool.true_and, Bool.and_true, Bool.and_self, cond_true, cond_false, Bool.true_or, smallI, smallW, h1, h2, decide_true]
  simp only [← Bool.and_assoc] 
  simp only [r_config_Same, Res.bool, config_Same, and_false', or_true', eqInts, eqWins, times_eq, zone_eq, sun_eq, Bool.and_assoc]
  have e1 := times_eq a0.times a1.times
  have e2 := zone_eq a0.zone a1.zone
  have e3 := sun_eq a0.sun a1.sun
  simp only [Bool.and_true] at e1 e2 e3
  simp only [← e1, ← e2, ← e3, Bool.and_assoc]
theorem run_newelref10_Same (a0 : Config) (a1 : Config) (hg : small2 a0 a1 = true) : ∃ F d, run k36 F d 17 Try.f17 s_newelref10_Same (a0, a1, ()) = some (r_newelref10_Same.enc (config_Same a0 a1)) := by
  refine ⟨200, 6, ?_⟩
  rw [tree_newelref10_Same]
  simp only [small2, smallC, Bool.and_eq_true, decide_eq_true_eq] at hg
  obtain ⟨⟨h1, h2⟩, h3, h4⟩ := hg
  simp only [times_eq, zone_eq, sun_eq]
  simp only [beqn, ble0, Bool.true_and, Bool.and_true, Bool.and_self, cond_true, cond_false, Bool.true_or, h1, h2, decide_true, or_true', lenInt]
  simp only [bne]
  simp only [r_newelref10_Same, Res.bool, config_Same]
  by_cases l1 : a0.stops.length = a1.stops.length
  · by_cases l2 : a0.windows.length = a1.windows.length
    · simp only [l1, l2, beq_self_eq_true, Bool.not_true, Bool.or_false, cond_false, cond_true, eqInts, eqWins]
      cases a0.floors == a1.floors <;> cases a0.cars == a1.cars <;> cases a0.park == a1.park <;> cases decide (a0.times = a1.times) <;> cases a0.rest == a1.rest <;> cases a0.pater == a1.pater <;> cases decide (a0.zone = a1.zone) <;> cases decide (a0.sun = a1.sun) <;> cases a0.abroad == a1.abroad <;> (try rfl) <;> cases decide (a0.stops = a1.stops) <;> cases decide (a0.windows = a1.windows) <;> rfl
    · have : decide (a0.windows = a1.windows) = false := by simpa using fun e => l2 (by rw [e])
      simp only [this, Bool.and_false, l1, beq_self_eq_true, Bool.not_true, Bool.false_or, beq_eq_false_iff_ne.2 l2, Bool.not_false, cond_true, Bool.cond_self]
  · have : decide (a0.stops = a1.stops) = false := by simpa using fun e => l1 (by rw [e])
    simp only [this, Bool.and_false, Bool.false_and, beq_eq_false_iff_ne.2 l1, Bool.not_false, Bool.true_or, cond_true, Bool.cond_self]

theorem go_more (l0 : List (Int)) (l1 : List (Window)) (l4 : List (Int)) (l5 : List (Window)) (v2_0 v2_1 v2_2 v2_4 v2_5 v2_6 v2_7 v2_8 v2_9 v2_10 v2_11 v2_12 v2_13 v2_14 v2_15 v2_16 v2_17 v2_18 v2_19 v2_20 v2_21 v2_22 v2_23 v2_24 v2_25 v2_26 v2_27 v2_28 v2_29 v2_30 v2_31 v2_32 v2_33 v2_34 : Int) (v2_35 : Bool) (v3_0 v3_1 v3_2 v3_3 v3_4 v3_5 v3_6 : Int) (v4 : Bool) (v5 : Int) (F d : Nat) : ∀ (suf pre : List Window) (n : Nat), suf.length < n → (pre ++ suf).length ≤ 1048576 →
    I_more F (d + 3) n (S_more l0 (pre ++ suf) l4 l5 v2_0 v2_1 v2_2 v2_4 v2_5 v2_6 v2_7 v2_8 v2_9 v2_10 v2_11 v2_12 v2_13 v2_14 v2_15 v2_16 v2_17 v2_18 v2_19 v2_20 v2_21 v2_22 v2_23 v2_24 v2_25 v2_26 v2_27 v2_28 v2_29 v2_30 v2_31 v2_32 v2_33 v2_34 v2_35 v3_0 v3_1 v3_2 v3_3 v3_4 v3_5 v3_6 v4 ((pre.length : Nat) : Int)) = cond (suf.all windowB) (some (.exit 0, (X_more_1 l0 (pre ++ suf) l4 l5 v2_0 v2_1 v2_2 v2_4 v2_5 v2_6 v2_7 v2_8 v2_9 v2_10 v2_11 v2_12 v2_13 v2_14 v2_15 v2_16 v2_17 v2_18 v2_19 v2_20 v2_21 v2_22 v2_23 v2_24 v2_25 v2_26 v2_27 v2_28 v2_29 v2_30 v2_31 v2_32 v2_33 v2_34 v2_35 v3_0 v3_1 v3_2 v3_3 v3_4 v3_5 v3_6 v4))) (some (.ret, (X_more_0 l0 (pre ++ suf) l4 l5 v2_0 v2_1 v2_2 v2_4 v2_5 v2_6 v2_7 v2_8 v2_9 v2_10 v2_11 v2_12 v2_13 v2_14 v2_15 v2_16 v2_17 v2_18 v2_19 v2_20 v2_21 v2_22 v2_23 v2_24 v2_25 v2_26 v2_27 v2_28 v2_29 v2_30 v2_31 v2_32 v2_33 v2_34 v2_35 v3_0 v3_1 v3_2 v3_3 v3_4 v3_5 v3_6))) := by
  intro suf
  induction suf with
  | nil =>
    intro pre n hn hl
    obtain ⟨n, rfl⟩ : ∃ k, n = k + 1 := ⟨n - 1, by omega⟩
    rw [step_more, idx_end, cond_false]
    rfl
  | cons x suf ih =>
    intro pre n hn hl
    obtain ⟨n, rfl⟩ : ∃ k, n = k + 1 := ⟨n - 1, by omega⟩
    have ih' := ih (pre ++ [x]) n (by simp at hn; omega) (by simpa using hl)
    rw [step_more]
    simp only [idx_lt, idx_ge, Bool.and_self, cond_true, idx_nat, idx_at, idx_next hl]
    rw [← idx_step] at ih'
    cases hw : windowB x
    · have : (config_Window x != 0) = true := by simp [config_Window, hw, errIf]
      simp [hw, this]
    · have : (config_Window x != 0) = false := by simp [config_Window, hw, errIf]
      rw [this, cond_false, ih']
      simp only [List.all_cons, hw, Bool.true_and]

theorem main_more (l0 : List (Int)) (l1 : List (Window)) (l4 : List (Int)) (l5 : List (Window)) (v2_0 v2_1 v2_2 v2_4 v2_5 v2_6 v2_7 v2_8 v2_9 v2_10 v2_11 v2_12 v2_13 v2_14 v2_15 v2_16 v2_17 v2_18 v2_19 v2_20 v2_21 v2_22 v2_23 v2_24 v2_25 v2_26 v2_27 v2_28 v2_29 v2_30 v2_31 v2_32 v2_33 v2_34 : Int) (v2_35 : Bool) (v3_0 v3_1 v3_2 v3_3 v3_4 v3_5 v3_6 : Int) (v4 : Bool) (v5 : Int) (hg : (decide (l1.length ≤ 1048576) && v5 == 0) = true) : ∃ N d, I_more N d N (S_more l0 l1 l4 l5 v2_0 v2_1 v2_2 v2_4 v2_5 v2_6 v2_7 v2_8 v2_9 v2_10 v2_11 v2_12 v2_13 v2_14 v2_15 v2_16 v2_17 v2_18 v2_19 v2_20 v2_21 v2_22 v2_23 v2_24 v2_25 v2_26 v2_27 v2_28 v2_29 v2_30 v2_31 v2_32 v2_33 v2_34 v2_35 v3_0 v3_1 v3_2 v3_3 v3_4 v3_5 v3_6 v4 v5) = some (altK Prod.mk [(l1.all windowB, .exit 0, (X_more_1 l0 l1 l4 l5 v2_0 v2_1 v2_2 v2_4 v2_5 v2_6 v2_7 v2_8 v2_9 v2_10 v2_11 v2_12 v2_13 v2_14 v2_15 v2_16 v2_17 v2_18 v2_19 v2_20 v2_21 v2_22 v2_23 v2_24 v2_25 v2_26 v2_27 v2_28 v2_29 v2_30 v2_31 v2_32 v2_33 v2_34 v2_35 v3_0 v3_1 v3_2 v3_3 v3_4 v3_5 v3_6 v4))] (.ret) (X_more_0 l0 l1 l4 l5 v2_0 v2_1 v2_2 v2_4 v2_5 v2_6 v2_7 v2_8 v2_9 v2_10 v2_11 v2_12 v2_13 v2_14 v2_15 v2_16 v2_17 v2_18 v2_19 v2_20 v2_21 v2_22 v2_23 v2_24 v2_25 v2_26 v2_27 v2_28 v2_29 v2_30 v2_31 v2_32 v2_33 v2_34 v2_35 v3_0 v3_1 v3_2 v3_3 v3_4 v3_5 v3_6)) := by
  simp only [Bool.and_eq_true, decide_eq_true_eq, beq_iff_eq] at hg
  obtain ⟨h1, rfl⟩ := hg
  have := go_more l0 l1 l4 l5 v2_0 v2_1 v2_2 v2_4 v2_5 v2_6 v2_7 v2_8 v2_9 v2_10 v2_11 v2_12 v2_13 v2_14 v2_15 v2_16 v2_17 v2_18 v2_19 v2_20 v2_21 v2_22 v2_23 v2_24 v2_25 v2_26 v2_27 v2_28 v2_29 v2_30 v2_31 v2_32 v2_33 v2_34 v2_35 v3_0 v3_1 v3_2 v3_3 v3_4 v3_5 v3_6 v4 0 (l1.length + 3) 0 l1 [] (l1.length + 3) (by omega) (by simpa using h1)
  refine ⟨l1.length + 3, 3, ?_⟩
  simp only [List.nil_append, List.length_nil] at this
  rw [show ((0 : Nat) : Int) = 0 from rfl] at this
  rw [this]
  cases h : l1.all windowB <;> simp [altK, h]
end Go.Proofs.Ytchmdbfcmcoohaa.Px.PxC
