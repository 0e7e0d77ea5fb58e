/- The law AutoSteps. -/
import Derived.Test.YtdpdmjjpdebpeaaGreatPxRProofs6
set_option linter.unusedVariables false
set_option linter.unusedSimpArgs false
namespace Go.Proofs.YtdpdmjjpdebpeaaGreat.Px.PxR
open Go Go.Proofs
set_option linter.unusedSimpArgs false
set_option linter.unusedVariables false

theorem go_rgoing (l0 : List (Int)) (l1 : List (Window)) (l7 : List (Int)) (v2_0 v2_1 v2_2 v2_4 v2_5 v2_6 v2_7 v2_8 v2_9 v2_10 v2_11 v2_12 v2_13 v2_14 v2_15 v2_16 v2_17 v2_18 v2_19 v2_20 v2_21 v2_22 v2_23 v2_24 v2_25 v2_26 v2_27 v2_28 v2_29 v2_30 v2_31 v2_32 v2_33 v2_34 : Int) (v2_35 : Bool) (v2_37 v2_38 v2_39 v2_40 v2_41 v2_42 v2_43 v2_44 v2_45 v2_46 v3_0 v3_1 v3_2 v3_3 v3_4 v3_5 v3_6 v3_7 v3_8 v4_0 v4_1 v4_2 v4_3 v4_4 v4_5 v4_6 v4_7 v4_8 v4_9 v5_0 v5_1 v5_2 v5_4 v5_5 v5_6 v5_7 v5_8 v5_9 v5_10 v5_11 v5_12 v5_13 v5_14 v5_15 v5_16 v5_17 v5_18 v5_19 v5_20 v5_21 v5_22 v5_23 v5_24 v5_25 v5_26 v5_27 v5_28 v5_29 v5_30 v5_31 v5_32 v5_33 v5_34 : Int) (v5_35 : Bool) (v6_1 v6_2 v2 v8 : Int) (F d : Nat) (hv : v5_0 ≤ 1048576) : ∀ (k i n : Nat), k < n → i + k = v5_0.toNat → I_rgoing F (d + 3) n (S_rgoing l0 l1 (floorsL ((i : Nat) : Int)) v2_0 v2_1 v2_2 v2_4 v2_5 v2_6 v2_7 v2_8 v2_9 v2_10 v2_11 v2_12 v2_13 v2_14 v2_15 v2_16 v2_17 v2_18 v2_19 v2_20 v2_21 v2_22 v2_23 v2_24 v2_25 v2_26 v2_27 v2_28 v2_29 v2_30 v2_31 v2_32 v2_33 v2_34 v2_35 v2_37 v2_38 v2_39 v2_40 v2_41 v2_42 v2_43 v2_44 v2_45 v2_46 v3_0 v3_1 v3_2 v3_3 v3_4 v3_5 v3_6 v3_7 v3_8 v4_0 v4_1 v4_2 v4_3 v4_4 v4_5 v4_6 v4_7 v4_8 v4_9 v5_0 v5_1 v5_2 v5_4 v5_5 v5_6 v5_7 v5_8 v5_9 v5_10 v5_11 v5_12 v5_13 v5_14 v5_15 v5_16 v5_17 v5_18 v5_19 v5_20 v5_21 v5_22 v5_23 v5_24 v5_25 v5_26 v5_27 v5_28 v5_29 v5_30 v5_31 v5_32 v5_33 v5_34 v5_35 v6_1 v6_2 v2 ((i : Nat) : Int)) = some (.exit 0, (X_rgoing_0 l0 l1 (floorsL v5_0) v2_0 v2_1 v2_2 v2_4 v2_5 v2_6 v2_7 v2_8 v2_9 v2_10 v2_11 v2_12 v2_13 v2_14 v2_15 v2_16 v2_17 v2_18 v2_19 v2_20 v2_21 v2_22 v2_23 v2_24 v2_25 v2_26 v2_27 v2_28 v2_29 v2_30 v2_31 v2_32 v2_33 v2_34 v2_35 v2_37 v2_38 v2_39 v2_40 v2_41 v2_42 v2_43 v2_44 v2_45 v2_46 v3_0 v3_1 v3_2 v3_3 v3_4 v3_5 v3_6 v3_7 v3_8 v4_0 v4_1 v4_2 v4_3 v4_4 v4_5 v4_6 v4_7 v4_8 v4_9 v5_0 v5_1 v5_2 v5_4 v5_5 v5_6 v5_7 v5_8 v5_9 v5_10 v5_11 v5_12 v5_13 v5_14 v5_15 v5_16 v5_17 v5_18 v5_19 v5_20 v5_21 v5_22 v5_23 v5_24 v5_25 v5_26 v5_27 v5_28 v5_29 v5_30 v5_31 v5_32 v5_33 v5_34 v5_35 v6_1 v6_2 v2)) := by
  intro k
  induction k with
  | zero =>
    intro i n hn hi
    obtain ⟨n, rfl⟩ : ∃ k, n = k + 1 := ⟨n - 1, by omega⟩
    have e1 : decide (((i : Nat) : Int) < v5_0) = false := by simp; omega
    rw [step_rgoing, e1, cond_false, floorsL_at (by omega)]
  | succ k ih =>
    intro i n hn hi
    obtain ⟨n, rfl⟩ : ∃ k, n = k + 1 := ⟨n - 1, by omega⟩
    have e1 : decide (((i : Nat) : Int) < v5_0) = true := by simp; omega
    have e2 : Nat.ble (floorsL ((i : Nat) : Int)).length 1048576 = true := by rw [floorsL_length]; simp; omega
    have e3 : IntKind.wrap IntKind.i64 (((i : Nat) : Int) + 1) = ((i + 1 : Nat) : Int) := by rw [IntWalk.i64_in _ (by omega)]; simp
    rw [step_rgoing]
    simp only [e1, e2, e3, beqn, Bool.and_self, Bool.and_true, cond_true, floorsL_next]
    exact ih (i + 1) n (by omega) (by omega)

theorem main_rgoing (l0 : List (Int)) (l1 : List (Window)) (l7 : List (Int)) (v2_0 v2_1 v2_2 v2_4 v2_5 v2_6 v2_7 v2_8 v2_9 v2_10 v2_11 v2_12 v2_13 v2_14 v2_15 v2_16 v2_17 v2_18 v2_19 v2_20 v2_21 v2_22 v2_23 v2_24 v2_25 v2_26 v2_27 v2_28 v2_29 v2_30 v2_31 v2_32 v2_33 v2_34 : Int) (v2_35 : Bool) (v2_37 v2_38 v2_39 v2_40 v2_41 v2_42 v2_43 v2_44 v2_45 v2_46 v3_0 v3_1 v3_2 v3_3 v3_4 v3_5 v3_6 v3_7 v3_8 v4_0 v4_1 v4_2 v4_3 v4_4 v4_5 v4_6 v4_7 v4_8 v4_9 v5_0 v5_1 v5_2 v5_4 v5_5 v5_6 v5_7 v5_8 v5_9 v5_10 v5_11 v5_12 v5_13 v5_14 v5_15 v5_16 v5_17 v5_18 v5_19 v5_20 v5_21 v5_22 v5_23 v5_24 v5_25 v5_26 v5_27 v5_28 v5_29 v5_30 v5_31 v5_32 v5_33 v5_34 : Int) (v5_35 : Bool) (v6_1 v6_2 v2 v8 : Int) (hg : (v8 == 0 && (l7.length == 0 && decide (v5_0 ≤ 1048576))) = true) : ∃ N d, I_rgoing N d N (S_rgoing l0 l1 l7 v2_0 v2_1 v2_2 v2_4 v2_5 v2_6 v2_7 v2_8 v2_9 v2_10 v2_11 v2_12 v2_13 v2_14 v2_15 v2_16 v2_17 v2_18 v2_19 v2_20 v2_21 v2_22 v2_23 v2_24 v2_25 v2_26 v2_27 v2_28 v2_29 v2_30 v2_31 v2_32 v2_33 v2_34 v2_35 v2_37 v2_38 v2_39 v2_40 v2_41 v2_42 v2_43 v2_44 v2_45 v2_46 v3_0 v3_1 v3_2 v3_3 v3_4 v3_5 v3_6 v3_7 v3_8 v4_0 v4_1 v4_2 v4_3 v4_4 v4_5 v4_6 v4_7 v4_8 v4_9 v5_0 v5_1 v5_2 v5_4 v5_5 v5_6 v5_7 v5_8 v5_9 v5_10 v5_11 v5_12 v5_13 v5_14 v5_15 v5_16 v5_17 v5_18 v5_19 v5_20 v5_21 v5_22 v5_23 v5_24 v5_25 v5_26 v5_27 v5_28 v5_29 v5_30 v5_31 v5_32 v5_33 v5_34 v5_35 v6_1 v6_2 v2 v8) = some (altK Prod.mk [] (.exit 0) (X_rgoing_0 l0 l1 (floorsL v5_0) v2_0 v2_1 v2_2 v2_4 v2_5 v2_6 v2_7 v2_8 v2_9 v2_10 v2_11 v2_12 v2_13 v2_14 v2_15 v2_16 v2_17 v2_18 v2_19 v2_20 v2_21 v2_22 v2_23 v2_24 v2_25 v2_26 v2_27 v2_28 v2_29 v2_30 v2_31 v2_32 v2_33 v2_34 v2_35 v2_37 v2_38 v2_39 v2_40 v2_41 v2_42 v2_43 v2_44 v2_45 v2_46 v3_0 v3_1 v3_2 v3_3 v3_4 v3_5 v3_6 v3_7 v3_8 v4_0 v4_1 v4_2 v4_3 v4_4 v4_5 v4_6 v4_7 v4_8 v4_9 v5_0 v5_1 v5_2 v5_4 v5_5 v5_6 v5_7 v5_8 v5_9 v5_10 v5_11 v5_12 v5_13 v5_14 v5_15 v5_16 v5_17 v5_18 v5_19 v5_20 v5_21 v5_22 v5_23 v5_24 v5_25 v5_26 v5_27 v5_28 v5_29 v5_30 v5_31 v5_32 v5_33 v5_34 v5_35 v6_1 v6_2 v2)) := by
  simp only [Bool.and_eq_true, decide_eq_true_eq, beq_iff_eq] at hg
  obtain ⟨rfl, h1, h2⟩ := hg
  have hl : l7 = floorsL (((0 : Nat) : Nat) : Int) := by
    have := List.length_eq_zero_iff.1 h1
    rw [this]; rfl
  subst hl
  exact ⟨v5_0.toNat + 1, 3, go_rgoing l0 l1 [] v2_0 v2_1 v2_2 v2_4 v2_5 v2_6 v2_7 v2_8 v2_9 v2_10 v2_11 v2_12 v2_13 v2_14 v2_15 v2_16 v2_17 v2_18 v2_19 v2_20 v2_21 v2_22 v2_23 v2_24 v2_25 v2_26 v2_27 v2_28 v2_29 v2_30 v2_31 v2_32 v2_33 v2_34 v2_35 v2_37 v2_38 v2_39 v2_40 v2_41 v2_42 v2_43 v2_44 v2_45 v2_46 v3_0 v3_1 v3_2 v3_3 v3_4 v3_5 v3_6 v3_7 v3_8 v4_0 v4_1 v4_2 v4_3 v4_4 v4_5 v4_6 v4_7 v4_8 v4_9 v5_0 v5_1 v5_2 v5_4 v5_5 v5_6 v5_7 v5_8 v5_9 v5_10 v5_11 v5_12 v5_13 v5_14 v5_15 v5_16 v5_17 v5_18 v5_19 v5_20 v5_21 v5_22 v5_23 v5_24 v5_25 v5_26 v5_27 v5_28 v5_29 v5_30 v5_31 v5_32 v5_33 v5_34 v5_35 v6_1 v6_2 v2 0 (v5_0.toNat + 1) 0 h2 v5_0.toNat 0 (v5_0.toNat + 1) (by omega) (by omega)⟩


theorem run_newelref23_Check (a0 : Auto) (hg : smallA a0 = true) : ∃ F d, run k90 F d 9 Tryz.f9 s_newelref23_Check (a0, ()) = some (r_newelref23_Check.enc (errAuto a0)) := by
  refine ⟨200, 6, ?_⟩
  rw [tree_newelref23_Check]
  simp only [smallA, Bool.and_eq_true, decide_eq_true_eq] at hg
  simp only [beqn, ble0, Bool.true_and, Bool.and_true, Bool.and_self, cond_true, cond_false, hg.1, bne_not, ref_Check_eq]
  simp only [r_newelref23_Check, Res.int, errAuto, errHome]
  cases h1 : (config_Check a0.config == 0)
  · simp only [Bool.not_false, cond_true, cond_false, h1]
  · cases decide (a0.mode < 1)
    · cases decide (a0.mode > 5)
      · cases decide (a0.nth < 0)
        · cases decide (a0.nth ≥ a0.config.cars)
          · cases decide (a0.age < 0) <;> cases carB a0.config.floors a0.car <;> rfl
          · rfl
        · rfl
      · rfl
    · rfl

theorem gear_fold (c : Config) (m : Int) : ({ floors := c.floors, times := c.times, dwell := bif m == 1 then c.rest else bif m == 2 then c.pater else c.times.dwell, most := bif deafM m then 0 else c.times.hold } : Gear) = gearO c m := rfl

theorem auto_facts {a : Auto} (hg : autoOk a = true) : errAuto a = 0 ∧ smallC a.config = true ∧ a.age ≤ 9223372036854775807 ∧ 0 ≤ a.age ∧ confOk a.config = true ∧ homeOk a.config a.mode a.nth = true ∧ IntKind.wrap IntKind.i64 (a.age - settleO a.config) = a.age - settleO a.config ∧ decide (a.age - settleO a.config < 0) = decide (a.age < settleO a.config) := by
  simp only [autoOk, smallA, Bool.and_eq_true, beq_iff_eq, decide_eq_true_eq] at hg
  obtain ⟨h1, h2, h3⟩ := hg
  obtain ⟨e1, e2, e3⟩ := errAuto_zero h1
  obtain ⟨k1, _⟩ := errHome_zero e1
  have hset := settle_wrap k1
  have hs2 : settleO a.config = a.config.floors * a.config.times.travel + 480 := rfl
  refine ⟨h1, h2, h3, e2, by simp [confOk, k1, h2], by simp [homeOk, e1, h2], IntWalk.i64_in _ (by omega), ?_⟩
  rw [Bool.eq_iff_iff]
  simp only [decide_eq_true_eq]
  omega

theorem going_some {a : Auto} (hp : plannedM a.mode = true) (h : decide (a.age < settleO a.config) = false) : goingG a = (goingO a, true) := by
  unfold goingG
  rw [hp, h]
  rfl

theorem going_none {a : Auto} (h : plannedM a.mode = false ∨ decide (a.age < settleO a.config) = true) : goingG a = (going0, false) := by
  unfold goingG
  rcases h with h | h <;> rw [h]
  · rfl
  · cases plannedM a.mode <;> rfl

theorem run_newelref23_Going (a0 : Auto) (hg : autoOk a0 = true) : ∃ F d, run k94 F d 28 Tryz.f28 s_newelref23_Going (a0, ()) = some (r_newelref23_Going.enc (goingG a0)) := by
  refine ⟨200, 6, ?_⟩
  rw [tree_newelref23_Going]
  obtain ⟨he, hsc, ha1, ha0, hco, hho, hw, hd⟩ := auto_facts hg
  simp only [gear_fold, beqn, ble0, Bool.true_and, Bool.and_true, Bool.and_self, cond_true, cond_false, hco, hw, hd]
  cases hp : plannedM a0.mode with
  | false => rw [going_none (.inl hp)]; rfl
  | true =>
    cases hs : decide (a0.age < settleO a0.config) with
    | true => rw [going_none (.inr hs)]; rfl
    | false =>
      rw [going_some hp hs]
      obtain ⟨hG, hB, h2, h64, hr, hL, hlen, hdf⟩ := round_facts he hp
      obtain ⟨q1, q2⟩ := phase_in he hp (by simpa using hs)
      have hfl : decide (a0.config.floors ≤ 1048576) = true := by
        obtain ⟨e1, _, _⟩ := errAuto_zero he
        obtain ⟨k1, _⟩ := errHome_zero e1
        have := (conf_facts k1).1
        simp; omega
      have key : ∀ p, planO a0.config a0.mode a0.nth = p → planOk (gearO a0.config a0.mode) p = true ∧ (lenP (gearO a0.config a0.mode) p == 0) = false ∧ atOk (gearO a0.config a0.mode) p ((a0.age - settleO a0.config).tmod (lenP (gearO a0.config a0.mode) p)) = true ∧ goingO a0 = goingAt (gearO a0.config a0.mode) p ((a0.age - settleO a0.config).tmod (lenP (gearO a0.config a0.mode) p)) := by
        intro p e
        subst e
        have hpo : planOk (gearO a0.config a0.mode) (planO a0.config a0.mode a0.nth) = true := by
          simp only [planOk, smallP, Bool.and_eq_true, decide_eq_true_eq]
          exact ⟨hB, by omega⟩
        refine ⟨hpo, beq_false_of_ne (by omega), ?_, rfl⟩
        unfold atOk
        rw [hpo]
        simp only [Bool.true_and, Bool.and_eq_true, decide_eq_true_eq]
        exact ⟨q1, q2⟩
      simp only [Bool.not_true, cond_true, cond_false]
      cases m1 : (a0.mode == 1) with
      | true =>
        obtain ⟨k1, k2, k3, k4⟩ := key { stops := a0.config.stops, cars := a0.config.cars, car := a0.nth } (by simp [planO, m1])
        simp only [bne_not, k1, k2, k3, k4, Bool.not_false, cond_true]
        rfl
      | false =>
        cases m2 : (a0.mode == 2) with
        | false => unfold plannedM at hp; rw [m1, m2] at hp; cases hp
        | true =>
          obtain ⟨k1, k2, k3, k4⟩ := key { stops := floorsL a0.config.floors, cars := a0.config.cars, car := a0.nth } (by simp [planO, m1, m2])
          simp only [bne_not, m2, hfl, k1, k2, k3, k4, Bool.not_true, Bool.not_false, cond_true, cond_false]
          rfl

theorem run_newelref23_InStep (a0 : Auto) (hg : autoOk a0 = true) : ∃ F d, run k95 F d 11 Tryz.f11 s_newelref23_InStep (a0, ()) = some (r_newelref23_InStep.enc (inStepO a0)) := by
  refine ⟨200, 6, ?_⟩
  rw [tree_newelref23_InStep]
  obtain ⟨he, hsc, ha1, ha0, hco, hho, hw, hd⟩ := auto_facts hg
  simp only [beqn, ble0, Bool.true_and, Bool.and_true, Bool.and_self, cond_true, cond_false, hco, hg]
  simp only [r_newelref23_InStep, Res.bool]
  cases hs : decide (a0.age < settleO a0.config) with
  | true =>
    have : inStepO a0 = false := by
      rw [Bool.eq_false_iff]
      intro h
      have := (inStep_iff.1 h).1
      simp at hs
      omega
    rw [this]
    rfl
  | false =>
    have hs' : settleO a0.config ≤ a0.age := by simpa using hs
    have hin : inStepO a0 = decide (a0.car = stepCar a0.config a0.mode a0.nth a0.age) := by
      rw [Bool.eq_iff_iff, inStep_iff]
      simp [hs']
    rw [hin]
    cases hp : plannedM a0.mode with
    | false =>
      rw [going_none (.inl hp), stepCar_home hp, ← car_idle]
      simp only [cond_false, Bool.and_true]
    | true =>
      obtain ⟨hG, hB, h2, h64, hr, hL, hlen, hdf⟩ := round_facts he hp
      rw [going_some hp hs, stepCar_round h2, ← car_same]
      simp only [cond_true, cond_false, Bool.and_true]
      rfl

theorem run_newelref23_Told (a0 : Auto) (a1 : Bool) (hg : autoOkK a0 a1 = true) : ∃ F d, run k96 F d 26 Tryz.f26 s_newelref23_Told (a0, a1, ()) = some (r_newelref23_Told.enc (toldO a0 a1)) := by
  refine ⟨200, 6, ?_⟩
  rw [tree_newelref23_Told]
  obtain ⟨he, hsc, ha1, ha0, hco, hho, hw, hd⟩ := auto_facts hg
  have hgo : autoOk a0 = true := hg
  simp only [beqn, ble0, Bool.true_and, Bool.and_true, Bool.and_self, cond_true, cond_false, hho, hgo]
  simp only [r_newelref23_Told, Res.int]
  cases hi : inStepO a0 with
  | false =>
    have h5 : (tickM a0 (movesA a0)).2 = false := hi
    have ht : toldO a0 a1 = cond (decide (a0.car.floor < homeO a0.config a0.mode a0.nth)) 1 (cond (decide (a0.car.floor > homeO a0.config a0.mode a0.nth)) 2 0) := by
      unfold toldO toldM
      rw [h5]
      rfl
    rw [ht]
    simp only [cond_false]
    cases decide (a0.car.floor < homeO a0.config a0.mode a0.nth) <;> cases decide (a0.car.floor > homeO a0.config a0.mode a0.nth) <;> rfl
  | true =>
    have hs := (inStep_iff.1 hi).1
    have hs' : decide (a0.age < settleO a0.config) = false := by simp; omega
    cases hp : plannedM a0.mode with
    | true =>
      rw [going_some hp hs', told_round he hp hi]
      rfl
    | false =>
      rw [going_none (.inl hp)]
      have h3 : decide ((movesA a0).plan.stops.length > 0) = false := by
        have : (movesA a0).plan.stops.length = 0 := by
          show (planO a0.config a0.mode a0.nth).stops.length = 0
          rw [plan_none hp]; rfl
        rw [this]; rfl
      have h5 : (tickM a0 (movesA a0)).2 = true := hi
      have ht : toldO a0 a1 = cond (a1 && a0.mode == 4) 3 0 := by
        unfold toldO toldM
        rw [h5, h3]
        rfl
      rw [ht]
      cases a1 <;> cases (a0.mode == 4) <;> rfl

theorem run_newelref23_Step (a0 : Auto) (a1 : Touch) (hg : autoOkT a0 a1 = true) : ∃ F d, run k97 F d 10 Tryz.f10 s_newelref23_Step (a0, a1, ()) = some (r_newelref23_Step.enc (stepG a0 a1)) := by
  refine ⟨200, 6, ?_⟩
  rw [tree_newelref23_Step]
  have hgo : autoOk a0 = true := hg
  obtain ⟨he, hsc, ha1, ha0, hco, hho, hw, hd⟩ := auto_facts hgo
  obtain ⟨e1, e2, e3⟩ := errAuto_zero he
  obtain ⟨k1, _⟩ := errHome_zero e1
  have hgk : autoOkK a0 a1.key = true := hgo
  have hso : stepOk (gearO a0.config a0.mode) a0.car ⟨toldO a0 a1.key, a1.held, a1.fault⟩ = true := by
    simp only [stepOk, carOk, Bool.and_eq_true]
    exact ⟨⟨gear_may k1 _, e3⟩, told_range⟩
  simp only [gear_fold, beqn, ble0, Bool.true_and, Bool.and_true, Bool.and_self, cond_true, cond_false, hgk, hso]
  rfl

theorem run_newellaw23_AutoSteps (a0 : Auto) (a1 : Touch) (hg : s_newellaw23_AutoSteps.wf (a0, a1, ())) : ∃ F d, run k98 F d 3 Tryz.f3 s_newellaw23_AutoSteps (a0, a1, ()) = some (AV.bool true) := by
  refine ⟨200, 6, ?_⟩
  rw [tree_newellaw23_AutoSteps]
  have ha : a0.age ≤ 9223372036854775807 := age_wf hg.1
  simp only [beqn, ble0, Bool.true_and, Bool.and_true, Bool.and_self, cond_true, cond_false]
  cases hf : few10 a0.config with
  | false => rfl
  | true =>
    have hs : smallA a0 = true := by simp [smallA, (few_small hf).1, ha]
    have hst : ∀ t, smallAT a0 t = true := fun _ => hs
    simp only [hs, hst, bne_not, Bool.not_true, cond_true, cond_false]
    cases he : (errAuto a0 == 0) with
    | false =>
      have e2 : auto_Step a0 a1 = (car0, out0, errAuto a0) := by unfold auto_Step; rw [he]; rfl
      rw [inStep_bad he, e2]
      simp only [Bool.not_false, cond_true, beq_self_eq_true]
      rfl
    | true =>
      have he' : errAuto a0 = 0 := by simpa using he
      have hgo : autoOk a0 = true := by simp [autoOk, he', hs]
      have hgt : ∀ t, autoOkT a0 t = true := fun _ => hgo
      have e2 : auto_Step a0 a1 = ((stepG a0 a1).c, (stepG a0 a1).o, 0) := (step_ok he').2
      rw [inStep_good he, e2]
      simp only [hgo, hgt, BEq.rfl, beq_self_eq_true, Bool.not_true, Bool.not_false, Bool.true_or, Bool.and_self, cond_true, cond_false]

end Go.Proofs.YtdpdmjjpdebpeaaGreat.Px.PxR
