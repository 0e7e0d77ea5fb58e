/- What the functions of auto do. -/
import Derived.Test.YtdpdmjjpdebpeaaGreatPxRProofs
import Derived.Test.YtdpdmjjpdebpeaaGreatPxSpecAuto
set_option linter.unusedVariables false
set_option linter.unusedSimpArgs false
namespace Go.Proofs.YtdpdmjjpdebpeaaGreat.Px.PxR
open Go Go.Proofs
set_option linter.unusedSimpArgs false
set_option linter.unusedVariables false

theorem bne_not {α : Type} [BEq α] (a b : α) : (a != b) = !(a == b) := rfl

theorem smallC_iff {c : Config} : smallC c = true ↔ c.stops.length ≤ 1048576 ∧ c.windows.length ≤ 1048576 := by simp [smallC]

theorem run_auto_Gear (a0 : Config) (a1 : Int) (hg : smallCM a0 a1 = true) : ∃ F d, run k73 F d 15 Tryz.f15 s_auto_Gear (a0, a1, ()) = some (r_auto_Gear.enc (auto_Gear a0 a1)) := by
  refine ⟨200, 6, ?_⟩
  rw [tree_auto_Gear]
  have hg' : smallC a0 = true := hg
  simp only [beqn, ble0, Bool.true_and, Bool.and_true, Bool.and_self, Bool.or_false, cond_true, cond_false, hg', bne_not]
  simp only [r_auto_Gear, Res.tup2, Res.int, Res.agg, auto_Gear, errGear]
  cases h1 : (config_Check a0 == 0)
  · simp only [Bool.not_false, cond_true, cond_false, h1]
    rfl
  · simp only [Bool.not_true, cond_true, cond_false]
    cases decide (a1 < 0)
    · cases decide (a1 > 5)
      · simp only [gearO, deafM]
        cases (a1 == 1) <;> cases (a1 == 2) <;> cases (a1 == 3) <;> rfl
      · rfl
    · rfl

theorem floorsL_nat (i : Nat) : floorsL ((i : Nat) : Int) = (List.range i).map fun (i : Nat) => (i : Int) := by simp [floorsL]
theorem floorsL_next (i : Nat) : floorsL ((i : Nat) : Int) ++ [((i : Nat) : Int)] = floorsL (((i + 1 : Nat) : Nat) : Int) := by
  rw [floorsL_nat, floorsL_nat, List.range_succ, List.map_append]
  rfl
theorem floorsL_at {n : Int} {i : Nat} (h : i = n.toNat) : floorsL ((i : Nat) : Int) = floorsL n := by
  subst h
  unfold floorsL
  rw [Int.toNat_natCast]

theorem go_aplan (l0 : List (Int)) (l1 : List (Window)) (l5 : List (Int)) (v2_0 v2_1 v2_2 v2_4 v2_5 v2_6 v2_7 v2_8 v2_9 v2_10 v2_11 v2_12 v2_13 v2_14 v2_15 v2_16 v2_17 v2_18 v2_19 v2_20 v2_21 v2_22 v2_23 v2_24 v2_25 v2_26 v2_27 v2_28 v2_29 v2_30 v2_31 v2_32 v2_33 v2_34 : Int) (v2_35 : Bool) (v3_1 v3_2 v4_1 v4_2 v26 v27 : Int) (F d : Nat) (hv : v26 ≤ 1048576) : ∀ (k i n : Nat), k < n → i + k = v26.toNat → I_aplan F (d + 3) n (S_aplan l0 l1 (floorsL ((i : Nat) : Int)) v2_0 v2_1 v2_2 v2_4 v2_5 v2_6 v2_7 v2_8 v2_9 v2_10 v2_11 v2_12 v2_13 v2_14 v2_15 v2_16 v2_17 v2_18 v2_19 v2_20 v2_21 v2_22 v2_23 v2_24 v2_25 v2_26 v2_27 v2_28 v2_29 v2_30 v2_31 v2_32 v2_33 v2_34 v2_35 v3_1 v3_2 v4_1 v4_2 v26 ((i : Nat) : Int)) = some (.exit 1, (X_aplan_0 l0 l1 (floorsL v26) v2_0 v2_1 v2_2 v2_4 v2_5 v2_6 v2_7 v2_8 v2_9 v2_10 v2_11 v2_12 v2_13 v2_14 v2_15 v2_16 v2_17 v2_18 v2_19 v2_20 v2_21 v2_22 v2_23 v2_24 v2_25 v2_26 v2_27 v2_28 v2_29 v2_30 v2_31 v2_32 v2_33 v2_34 v2_35 v3_1 v3_2 v4_1 v4_2)) := by
  intro k
  induction k with
  | zero =>
    intro i n hn hi
    obtain ⟨n, rfl⟩ : ∃ k, n = k + 1 := ⟨n - 1, by omega⟩
    have e1 : decide (((i : Nat) : Int) < v26) = false := by simp; omega
    rw [step_aplan, e1, cond_false, floorsL_at (by omega)]
  | succ k ih =>
    intro i n hn hi
    obtain ⟨n, rfl⟩ : ∃ k, n = k + 1 := ⟨n - 1, by omega⟩
    have e1 : decide (((i : Nat) : Int) < v26) = true := by simp; omega
    have e2 : Nat.ble (floorsL ((i : Nat) : Int)).length 1048576 = true := by rw [floorsL_length]; simp; omega
    have e3 : IntKind.wrap IntKind.i64 (((i : Nat) : Int) + 1) = ((i + 1 : Nat) : Int) := by rw [IntWalk.i64_in _ (by omega)]; simp
    rw [step_aplan]
    simp only [e1, e2, e3, beqn, Bool.and_self, Bool.and_true, cond_true, floorsL_next]
    exact ih (i + 1) n (by omega) (by omega)

theorem main_aplan (l0 : List (Int)) (l1 : List (Window)) (l5 : List (Int)) (v2_0 v2_1 v2_2 v2_4 v2_5 v2_6 v2_7 v2_8 v2_9 v2_10 v2_11 v2_12 v2_13 v2_14 v2_15 v2_16 v2_17 v2_18 v2_19 v2_20 v2_21 v2_22 v2_23 v2_24 v2_25 v2_26 v2_27 v2_28 v2_29 v2_30 v2_31 v2_32 v2_33 v2_34 : Int) (v2_35 : Bool) (v3_1 v3_2 v4_1 v4_2 v26 v27 : Int) (hg : (v27 == 0 && (l5.length == 0 && decide (v26 ≤ 1048576))) = true) : ∃ N d, I_aplan N d N (S_aplan l0 l1 l5 v2_0 v2_1 v2_2 v2_4 v2_5 v2_6 v2_7 v2_8 v2_9 v2_10 v2_11 v2_12 v2_13 v2_14 v2_15 v2_16 v2_17 v2_18 v2_19 v2_20 v2_21 v2_22 v2_23 v2_24 v2_25 v2_26 v2_27 v2_28 v2_29 v2_30 v2_31 v2_32 v2_33 v2_34 v2_35 v3_1 v3_2 v4_1 v4_2 v26 v27) = some (altK Prod.mk [] (.exit 1) (X_aplan_0 l0 l1 (floorsL v26) v2_0 v2_1 v2_2 v2_4 v2_5 v2_6 v2_7 v2_8 v2_9 v2_10 v2_11 v2_12 v2_13 v2_14 v2_15 v2_16 v2_17 v2_18 v2_19 v2_20 v2_21 v2_22 v2_23 v2_24 v2_25 v2_26 v2_27 v2_28 v2_29 v2_30 v2_31 v2_32 v2_33 v2_34 v2_35 v3_1 v3_2 v4_1 v4_2)) := by
  simp only [Bool.and_eq_true, decide_eq_true_eq, beq_iff_eq] at hg
  obtain ⟨rfl, h1, h2⟩ := hg
  have hl : l5 = floorsL (((0 : Nat) : Nat) : Int) := by
    have := List.length_eq_zero_iff.1 h1
    rw [this]; rfl
  subst hl
  exact ⟨v26.toNat + 1, 3, go_aplan l0 l1 [] v2_0 v2_1 v2_2 v2_4 v2_5 v2_6 v2_7 v2_8 v2_9 v2_10 v2_11 v2_12 v2_13 v2_14 v2_15 v2_16 v2_17 v2_18 v2_19 v2_20 v2_21 v2_22 v2_23 v2_24 v2_25 v2_26 v2_27 v2_28 v2_29 v2_30 v2_31 v2_32 v2_33 v2_34 v2_35 v3_1 v3_2 v4_1 v4_2 v26 0 (v26.toNat + 1) 0 h2 v26.toNat 0 (v26.toNat + 1) (by omega) (by omega)⟩

theorem go_rhome (l0 : List (Int)) (l1 : List (Window)) (l5 : List (Int)) (v2_0 v2_1 v2_2 v2_4 v2_5 v2_6 v2_7 v2_8 v2_9 v2_10 v2_11 v2_12 v2_13 v2_14 v2_15 v2_16 v2_17 v2_18 v2_19 v2_20 v2_21 v2_22 v2_23 v2_24 v2_25 v2_26 v2_27 v2_28 v2_29 v2_30 v2_31 v2_32 v2_33 v2_34 : Int) (v2_35 : Bool) (v3_0 v3_1 v3_2 v3_4 v3_5 v3_6 v3_7 v3_8 v3_9 v3_10 v3_11 v3_12 v3_13 v3_14 v3_15 v3_16 v3_17 v3_18 v3_19 v3_20 v3_21 v3_22 v3_23 v3_24 v3_25 v3_26 v3_27 v3_28 v3_29 v3_30 v3_31 v3_32 v3_33 v3_34 : Int) (v3_35 : Bool) (v4_1 v4_2 v2 v8 : Int) (F d : Nat) (hv : v3_0 ≤ 1048576) : ∀ (k i n : Nat), k < n → i + k = v3_0.toNat → I_rhome F (d + 3) n (S_rhome l0 l1 (floorsL ((i : Nat) : Int)) v2_0 v2_1 v2_2 v2_4 v2_5 v2_6 v2_7 v2_8 v2_9 v2_10 v2_11 v2_12 v2_13 v2_14 v2_15 v2_16 v2_17 v2_18 v2_19 v2_20 v2_21 v2_22 v2_23 v2_24 v2_25 v2_26 v2_27 v2_28 v2_29 v2_30 v2_31 v2_32 v2_33 v2_34 v2_35 v3_0 v3_1 v3_2 v3_4 v3_5 v3_6 v3_7 v3_8 v3_9 v3_10 v3_11 v3_12 v3_13 v3_14 v3_15 v3_16 v3_17 v3_18 v3_19 v3_20 v3_21 v3_22 v3_23 v3_24 v3_25 v3_26 v3_27 v3_28 v3_29 v3_30 v3_31 v3_32 v3_33 v3_34 v3_35 v4_1 v4_2 v2 ((i : Nat) : Int)) = some (.exit 0, (X_rhome_0 l0 l1 (floorsL v3_0) v2_0 v2_1 v2_2 v2_4 v2_5 v2_6 v2_7 v2_8 v2_9 v2_10 v2_11 v2_12 v2_13 v2_14 v2_15 v2_16 v2_17 v2_18 v2_19 v2_20 v2_21 v2_22 v2_23 v2_24 v2_25 v2_26 v2_27 v2_28 v2_29 v2_30 v2_31 v2_32 v2_33 v2_34 v2_35 v3_0 v3_1 v3_2 v3_4 v3_5 v3_6 v3_7 v3_8 v3_9 v3_10 v3_11 v3_12 v3_13 v3_14 v3_15 v3_16 v3_17 v3_18 v3_19 v3_20 v3_21 v3_22 v3_23 v3_24 v3_25 v3_26 v3_27 v3_28 v3_29 v3_30 v3_31 v3_32 v3_33 v3_34 v3_35 v4_1 v4_2 v2)) := by
  intro k
  induction k with
  | zero =>
    intro i n hn hi
    obtain ⟨n, rfl⟩ : ∃ k, n = k + 1 := ⟨n - 1, by omega⟩
    have e1 : decide (((i : Nat) : Int) < v3_0) = false := by simp; omega
    rw [step_rhome, e1, cond_false, floorsL_at (by omega)]
  | succ k ih =>
    intro i n hn hi
    obtain ⟨n, rfl⟩ : ∃ k, n = k + 1 := ⟨n - 1, by omega⟩
    have e1 : decide (((i : Nat) : Int) < v3_0) = true := by simp; omega
    have e2 : Nat.ble (floorsL ((i : Nat) : Int)).length 1048576 = true := by rw [floorsL_length]; simp; omega
    have e3 : IntKind.wrap IntKind.i64 (((i : Nat) : Int) + 1) = ((i + 1 : Nat) : Int) := by rw [IntWalk.i64_in _ (by omega)]; simp
    rw [step_rhome]
    simp only [e1, e2, e3, beqn, Bool.and_self, Bool.and_true, cond_true, floorsL_next]
    exact ih (i + 1) n (by omega) (by omega)

theorem main_rhome (l0 : List (Int)) (l1 : List (Window)) (l5 : List (Int)) (v2_0 v2_1 v2_2 v2_4 v2_5 v2_6 v2_7 v2_8 v2_9 v2_10 v2_11 v2_12 v2_13 v2_14 v2_15 v2_16 v2_17 v2_18 v2_19 v2_20 v2_21 v2_22 v2_23 v2_24 v2_25 v2_26 v2_27 v2_28 v2_29 v2_30 v2_31 v2_32 v2_33 v2_34 : Int) (v2_35 : Bool) (v3_0 v3_1 v3_2 v3_4 v3_5 v3_6 v3_7 v3_8 v3_9 v3_10 v3_11 v3_12 v3_13 v3_14 v3_15 v3_16 v3_17 v3_18 v3_19 v3_20 v3_21 v3_22 v3_23 v3_24 v3_25 v3_26 v3_27 v3_28 v3_29 v3_30 v3_31 v3_32 v3_33 v3_34 : Int) (v3_35 : Bool) (v4_1 v4_2 v2 v8 : Int) (hg : (v8 == 0 && (l5.length == 0 && decide (v3_0 ≤ 1048576))) = true) : ∃ N d, I_rhome N d N (S_rhome l0 l1 l5 v2_0 v2_1 v2_2 v2_4 v2_5 v2_6 v2_7 v2_8 v2_9 v2_10 v2_11 v2_12 v2_13 v2_14 v2_15 v2_16 v2_17 v2_18 v2_19 v2_20 v2_21 v2_22 v2_23 v2_24 v2_25 v2_26 v2_27 v2_28 v2_29 v2_30 v2_31 v2_32 v2_33 v2_34 v2_35 v3_0 v3_1 v3_2 v3_4 v3_5 v3_6 v3_7 v3_8 v3_9 v3_10 v3_11 v3_12 v3_13 v3_14 v3_15 v3_16 v3_17 v3_18 v3_19 v3_20 v3_21 v3_22 v3_23 v3_24 v3_25 v3_26 v3_27 v3_28 v3_29 v3_30 v3_31 v3_32 v3_33 v3_34 v3_35 v4_1 v4_2 v2 v8) = some (altK Prod.mk [] (.exit 0) (X_rhome_0 l0 l1 (floorsL v3_0) v2_0 v2_1 v2_2 v2_4 v2_5 v2_6 v2_7 v2_8 v2_9 v2_10 v2_11 v2_12 v2_13 v2_14 v2_15 v2_16 v2_17 v2_18 v2_19 v2_20 v2_21 v2_22 v2_23 v2_24 v2_25 v2_26 v2_27 v2_28 v2_29 v2_30 v2_31 v2_32 v2_33 v2_34 v2_35 v3_0 v3_1 v3_2 v3_4 v3_5 v3_6 v3_7 v3_8 v3_9 v3_10 v3_11 v3_12 v3_13 v3_14 v3_15 v3_16 v3_17 v3_18 v3_19 v3_20 v3_21 v3_22 v3_23 v3_24 v3_25 v3_26 v3_27 v3_28 v3_29 v3_30 v3_31 v3_32 v3_33 v3_34 v3_35 v4_1 v4_2 v2)) := by
  simp only [Bool.and_eq_true, decide_eq_true_eq, beq_iff_eq] at hg
  obtain ⟨rfl, h1, h2⟩ := hg
  have hl : l5 = floorsL (((0 : Nat) : Nat) : Int) := by
    have := List.length_eq_zero_iff.1 h1
    rw [this]; rfl
  subst hl
  exact ⟨v3_0.toNat + 1, 3, go_rhome l0 l1 [] v2_0 v2_1 v2_2 v2_4 v2_5 v2_6 v2_7 v2_8 v2_9 v2_10 v2_11 v2_12 v2_13 v2_14 v2_15 v2_16 v2_17 v2_18 v2_19 v2_20 v2_21 v2_22 v2_23 v2_24 v2_25 v2_26 v2_27 v2_28 v2_29 v2_30 v2_31 v2_32 v2_33 v2_34 v2_35 v3_0 v3_1 v3_2 v3_4 v3_5 v3_6 v3_7 v3_8 v3_9 v3_10 v3_11 v3_12 v3_13 v3_14 v3_15 v3_16 v3_17 v3_18 v3_19 v3_20 v3_21 v3_22 v3_23 v3_24 v3_25 v3_26 v3_27 v3_28 v3_29 v3_30 v3_31 v3_32 v3_33 v3_34 v3_35 v4_1 v4_2 v2 0 (v3_0.toNat + 1) 0 h2 v3_0.toNat 0 (v3_0.toNat + 1) (by omega) (by omega)⟩

theorem run_auto_plan (a0 : Config) (a1 : Int) (a2 : Int) (hg : planSm a0 a1 a2 = true) : ∃ F d, runO k75 F d 34 Tryz.f34 s_auto_plan r_auto_plan (a0, a1, a2, ()) = some (planO a0 a1 a2) := by
  refine ⟨200, 6, ?_⟩
  rw [tree_auto_plan]
  simp only [planSm, Bool.and_eq_true, decide_eq_true_eq] at hg
  obtain ⟨h1, h2⟩ := hg
  rw [smallC_iff] at h1
  have e1 : Nat.ble a0.stops.length 1048576 = true := by simpa using h1.1
  have e2 : decide (a0.floors ≤ 1048576) = true := by simpa using h2
  simp only [e1, e2, beqn, ble0, List.nil_append, Bool.true_and, Bool.and_true, Bool.and_self, cond_true]
  unfold planO
  cases (a1 == 1) <;> cases (a1 == 2) <;> rfl

theorem run_auto_settle (a0 : Config) (hg : confOk a0 = true) : ∃ F d, run k76 F d 30 Tryz.f30 s_auto_settle (a0, ()) = some (r_auto_settle.enc (settleO a0)) := by
  refine ⟨200, 6, ?_⟩
  rw [tree_auto_settle]
  simp only [confOk, Bool.and_eq_true, beq_iff_eq] at hg
  have hs := settle_wrap hg.1
  rw [IntWalk.i64_in (a0.floors * a0.times.travel) (by omega), IntWalk.i64_in (a0.floors * a0.times.travel + 180) (by omega), IntWalk.i64_in (a0.floors * a0.times.travel + 180 + 300) (by omega)]
  simp only [r_auto_settle, Res.int, settleO]
  congr 2
  omega

theorem homeOk_facts {c : Config} {mode nth : Int} (hg : homeOk c mode nth = true) : errHome c mode nth = 0 ∧ smallC c = true ∧ config_Check c = 0 ∧ errGear c mode = 0 ∧ (1 ≤ mode ∧ mode ≤ 5) ∧ (0 ≤ nth ∧ nth < c.cars) ∧ planSm c mode nth = true := by
  simp only [homeOk, Bool.and_eq_true, beq_iff_eq] at hg
  obtain ⟨h1, h2⟩ := hg
  obtain ⟨h3, h4, h5⟩ := errHome_zero h1
  have := conf_facts h3
  refine ⟨h1, h2, h3, errGear_zero h1, h4, h5, ?_⟩
  simp only [planSm, Bool.and_eq_true, decide_eq_true_eq]
  exact ⟨h2, by omega⟩

theorem first_home {c : Config} {mode nth : Int} (hg : homeOk c mode nth = true) : (plannedM mode = true → decide (((List.length (planO c mode nth).stops : Nat) : Int) > 0) = true ∧ smallGP (gearO c mode) (planO c mode nth) = true ∧ planB (gearO c mode) (planO c mode nth) = true) ∧
    (plannedM mode = false → decide (((List.length (planO c mode nth).stops : Nat) : Int) > 0) = false) := by
  obtain ⟨h1, h2, h3, h4, h5, h6, h7⟩ := homeOk_facts hg
  refine ⟨fun hp => ?_, fun hp => ?_⟩
  · obtain ⟨p1, p2, p3, p4, p5⟩ := plan_may h3 hp h6.1 h6.2
    exact ⟨by simp; omega, by simp [smallGP, smallP]; omega, p1⟩
  · rw [plan_none hp]; rfl

theorem run_auto_of (a0 : Config) (a1 : Int) (a2 : Int) (hg : homeOk a0 a1 a2 = true) : ∃ F d, runO k77 F d 18 Tryz.f18 s_auto_of r_auto_of (a0, a1, a2, ()) = some (movesO a0 a1 a2) := by
  refine ⟨200, 6, ?_⟩
  rw [tree_auto_of]
  obtain ⟨h1, h2, h3, h4, h5, h6, h7⟩ := homeOk_facts hg
  have hcm : smallCM a0 a1 = true := h2
  obtain ⟨f1, f2⟩ := first_home hg
  have hE : auto_Gear a0 a1 = (gearO a0 a1, 0) := by unfold auto_Gear; rw [h4]; rfl
  simp only [beqn, ble0, Bool.true_and, Bool.and_true, Bool.and_self, cond_true, cond_false, h2, h7, hcm, hE]
  unfold movesO homeO
  cases hp : plannedM a1 with
  | false =>
    rw [f2 hp]
    rfl
  | true =>
    obtain ⟨g1, g2, g3⟩ := f1 hp
    rw [g1, g2, g3]
    simp only [cond_true, cycle_First, g3]

theorem run_auto_Home (a0 : Config) (a1 : Int) (a2 : Int) (hg : smallCMN a0 a1 a2 = true) : ∃ F d, runO k78 F d 14 Tryz.f14 s_auto_Home r_auto_Home (a0, a1, a2, ()) = some (auto_Home a0 a1 a2) := by
  refine ⟨200, 6, ?_⟩
  rw [tree_auto_Home]
  have hs : smallC a0 = true := hg
  simp only [beqn, ble0, Bool.true_and, Bool.and_true, Bool.and_self, cond_true, cond_false, hs, bne_not]
  unfold auto_Home
  cases he : (errHome a0 a1 a2 == 0) with
  | true =>
    have he' : errHome a0 a1 a2 = 0 := by simpa using he
    have hho : homeOk a0 a1 a2 = true := by simp [homeOk, he', hs]
    obtain ⟨h1, h2, h3, h4, h5, h6, h7⟩ := homeOk_facts hho
    have e1 : (config_Check a0 == 0) = true := by rw [h3]; rfl
    have e2 : decide (a1 < 1) = false := by simp; omega
    have e3 : decide (a1 > 5) = false := by simp; omega
    have e4 : decide (a2 < 0) = false := by simp; omega
    have e5 : decide (a2 ≥ a0.cars) = false := by simp; omega
    simp only [e1, e2, e3, e4, e5, hho, Bool.not_true, cond_false, cond_true, h1]
  | false =>
    have : errHome a0 a1 a2 = _ := rfl
    unfold errHome at he ⊢
    cases h1 : (config_Check a0 == 0)
    · rfl
    · rw [h1] at he
      simp only [cond_true, Bool.not_true, cond_false] at he ⊢
      cases h2 : decide (a1 < 1)
      · cases h3 : decide (a1 > 5)
        · simp only [h2, h3, Bool.or_self, cond_false] at he ⊢
          cases h4 : decide (a2 < 0)
          · cases h5 : decide (a2 ≥ a0.cars)
            · rw [h4, h5] at he; cases he
            · rfl
          · rfl
        · rfl
      · rfl

theorem run_auto_Settle (a0 : Config) (hg : smallC a0 = true) : ∃ F d, run k79 F d 13 Tryz.f13 s_auto_Settle (a0, ()) = some (r_auto_Settle.enc (auto_Settle a0)) := by
  refine ⟨200, 6, ?_⟩
  rw [tree_auto_Settle]
  simp only [beqn, ble0, Bool.true_and, Bool.and_true, Bool.and_self, cond_true, cond_false, hg, bne_not, confOk]
  simp only [r_auto_Settle, Res.tup2, Res.int, auto_Settle]
  cases h1 : (config_Check a0 == 0)
  · rfl
  · have : config_Check a0 = 0 := by simpa using h1
    simp only [Bool.not_true, cond_false, cond_true, this]

theorem home_err (c : Config) (mode nth : Int) : (auto_Home c mode nth).2.2 = errHome c mode nth := by
  unfold auto_Home
  cases h : (errHome c mode nth == 0)
  · rfl
  · have : errHome c mode nth = 0 := by simpa using h
    rw [this]
    rfl

theorem run_auto_check (a0 : Auto) (hg : smallA a0 = true) : ∃ F d, run k80 F d 16 Tryz.f16 s_auto_check (a0, ()) = some (r_auto_check.enc (errAuto a0)) := by
  refine ⟨200, 6, ?_⟩
  rw [tree_auto_check]
  simp only [smallA, Bool.and_eq_true, decide_eq_true_eq] at hg
  have hg' : smallCMN a0.config a0.mode a0.nth = true := hg.1
  simp only [beqn, ble0, Bool.true_and, Bool.and_true, Bool.and_self, cond_true, cond_false, hg', bne_not, home_err]
  simp only [r_auto_check, Res.int, errAuto, car_Check, errOf]
  cases h1 : (errHome a0.config a0.mode a0.nth == 0)
  · rfl
  · cases decide (a0.age < 0) <;> cases carB a0.config.floors a0.car <;> rfl

theorem car_idle (c : Car) (n : Int) : (c.floor == n && (c.dir == 0 && (c.phase == 0 && (c.left == 0 && (c.door.phase == 0 && (c.door.left == 0 && (c.door.held == 0 && true))))))) = decide (c = idleC n) := by
  rw [Bool.eq_iff_iff]
  obtain ⟨f, dr, p, l, ⟨dp, dl, dh⟩⟩ := c
  simp [idleC, door0]

theorem car_same (c d : Car) : (c.floor == d.floor && (c.dir == d.dir && (c.phase == d.phase && (c.left == d.left && (c.door.phase == d.door.phase && (c.door.left == d.door.left && (c.door.held == d.door.held && true))))))) = decide (c = d) := by
  rw [Bool.eq_iff_iff]
  obtain ⟨f, dr, p, l, ⟨dp, dl, dh⟩⟩ := c
  obtain ⟨f', dr', p', l', ⟨dp', dl', dh'⟩⟩ := d
  simp

theorem len_pos {g : Gear} {p : Plan} (h : planB g p = true) : 0 < lenP g p := by
  have hg := (planB_iff.1 h)
  obtain ⟨h2, _, _, _, _, hr, hG⟩ := hg
  obtain ⟨s1, s2, s3, s4⟩ := stopG_pos hG
  have hmono : ∀ (i : Nat), i < p.stops.length → firstS p ≤ p.stops.getD i 0 := by
    intro i
    induction i with
    | zero => intro _; exact Int.le_refl _
    | succ i ih =>
      intro hi
      have := (chkR_rise hr).1 i hi
      have := ih (by omega)
      omega
  have h1 := hmono (p.stops.length - 1) (by omega)
  unfold lenP lastS
  have a1 : 0 < (2 * (p.stops.length : Int) - 2) * stopG g := Int.mul_pos (by omega) (by omega)
  have a2 : 0 ≤ 2 * (p.stops.getD (p.stops.length - 1) 0 - firstS p) * g.times.travel := Int.mul_nonneg (by omega) (by omega)
  omega

theorem run_auto_tick (a0 : Auto) (a1 : Moves) (hg : tickOk a0 a1 = true) : ∃ F d, run k81 F d 17 Tryz.f17 s_auto_tick (a0, a1, ()) = some (r_auto_tick.enc (tickM a0 a1)) := by
  refine ⟨200, 6, ?_⟩
  rw [tree_auto_tick]
  simp only [tickOk, smallA, Bool.and_eq_true, Bool.or_eq_true, decide_eq_true_eq, beq_iff_eq] at hg
  obtain ⟨⟨g1, g2⟩, g3, g4, g5⟩ := hg
  have hc : confOk a0.config = true := by simp [confOk, g3, g1]
  have hs := settle_wrap g3
  have hw : IntKind.wrap IntKind.i64 (a0.age - settleO a0.config) = a0.age - settleO a0.config := IntWalk.i64_in _ (by unfold settleO; omega)
  simp only [beqn, ble0, Bool.true_and, Bool.and_true, Bool.and_self, cond_true, cond_false, hc, hw]
  simp only [r_auto_tick, Res.tup2, Res.int, Res.bool, tickM]
  have e1 : decide (a0.age - settleO a0.config < 0) = decide (a0.age < settleO a0.config) := by rw [Bool.eq_iff_iff]; simp; omega
  rw [e1]
  cases decide (a0.age < settleO a0.config) with
  | true => rfl
  | false =>
    simp only [cond_false]
    have e2 : (((a1.plan.stops.length : Nat) : Int) == 0) = (a1.plan.stops.length == 0) := by rw [Bool.eq_iff_iff]; simp
    rw [e2]
    cases h0 : (a1.plan.stops.length == 0) with
    | true =>
      simp only [cond_true]
      rw [← car_idle]
      simp only [Bool.and_true]
    | false =>
      have g5' := g5.resolve_left (fun e => by rw [e] at h0; cases h0)
      simp only [planOk, Bool.and_eq_true] at g5'
      have h1 : smallGP a1.gear a1.plan = true := g5'.2
      have h2 : ∀ n, smallGP3 a1.gear a1.plan n = true := fun n => g5'.2
      have h3 := len_pos g5'.1
      have h4 : (lenP a1.gear a1.plan != 0) = true := by simp; omega
      simp only [h1, h2, g5'.1, cond_true, cond_false, h4]
      rw [← car_same]
      simp only [Bool.and_true]

theorem run_auto_told (a0 : Auto) (a1 : Moves) (a2 : Bool) (hg : toldMOk a0 a1 a2 = true) : ∃ F d, run k82 F d 21 Tryz.f21 s_auto_told (a0, a1, a2, ()) = some (r_auto_told.enc (toldM a0 a1 a2)) := by
  refine ⟨200, 6, ?_⟩
  rw [tree_auto_told]
  have hg' : tickOk a0 a1 = true := hg
  simp only [beqn, ble0, Bool.true_and, Bool.and_true, Bool.and_self, cond_true, cond_false, hg']
  simp only [tickOk, Bool.and_eq_true, Bool.or_eq_true, decide_eq_true_eq, beq_iff_eq] at hg'
  obtain ⟨_, _, _, g5⟩ := hg'
  simp only [r_auto_told, Res.int, toldM]
  have e2 : decide (((a1.plan.stops.length : Nat) : Int) > 0) = decide (a1.plan.stops.length > 0) := by rw [Bool.eq_iff_iff]; simp
  rw [e2]
  cases h1 : (tickM a0 a1).2 with
  | false =>
    cases a2 <;> cases (a0.mode == 4) <;> cases decide (a0.car.floor < a1.home) <;> cases decide (a0.car.floor > a1.home) <;> rfl
  | true =>
    cases h2 : decide (a1.plan.stops.length > 0) with
    | true =>
      have h3 : 0 < a1.plan.stops.length := by simpa using h2
      have g5' := g5.resolve_left (fun e => by rw [e] at h3; omega)
      simp only [planOk, Bool.and_eq_true] at g5'
      have h4 : smallGP3 a1.gear a1.plan (tickM a0 a1).1 = true := g5'.2
      simp only [h4, cond_true, Bool.and_self]
    | false => cases a2 <;> cases (a0.mode == 4) <;> rfl

theorem tick_of {a : Auto} (he : errAuto a = 0) (hs : smallA a = true) : homeOk a.config a.mode a.nth = true ∧ tickOk a (movesA a) = true := by
  obtain ⟨h1, h2, h3⟩ := errAuto_zero he
  have hs' := hs
  simp only [smallA, Bool.and_eq_true, decide_eq_true_eq] at hs'
  have hho : homeOk a.config a.mode a.nth = true := by simp [homeOk, h1, hs'.1]
  obtain ⟨f1, f2⟩ := first_home hho
  obtain ⟨k1, k2, k3, k4, k5, k6, k7⟩ := homeOk_facts hho
  refine ⟨hho, ?_⟩
  simp only [tickOk, Bool.and_eq_true, Bool.or_eq_true, decide_eq_true_eq, beq_iff_eq]
  refine ⟨hs, k3, h2, ?_⟩
  cases hp : plannedM a.mode with
  | false =>
    left
    show (planO a.config a.mode a.nth).stops.length = 0
    rw [plan_none hp]; rfl
  | true =>
    obtain ⟨_, g2, g3⟩ := f1 hp
    right
    simp only [planOk, Bool.and_eq_true]
    exact ⟨g3, g2⟩

theorem run_auto_InStep (a0 : Auto) (hg : smallA a0 = true) : ∃ F d, run k83 F d 6 Tryz.f6 s_auto_InStep (a0, ()) = some (r_auto_InStep.enc (auto_InStep a0)) := by
  refine ⟨200, 6, ?_⟩
  rw [tree_auto_InStep]
  have hs := hg
  simp only [smallA, Bool.and_eq_true, decide_eq_true_eq] at hs
  simp only [beqn, ble0, Bool.true_and, Bool.and_true, Bool.and_self, cond_true, cond_false, hg, bne_not]
  simp only [r_auto_InStep, Res.tup2, Res.int, Res.bool, auto_InStep]
  cases he : (errAuto a0 == 0) with
  | false => rfl
  | true =>
    have he' : errAuto a0 = 0 := by simpa using he
    obtain ⟨hho, hto⟩ := tick_of he' hg
    have hto' : tickOk a0 { plan := planO a0.config a0.mode a0.nth, gear := gearO a0.config a0.mode, home := homeO a0.config a0.mode a0.nth } = true := hto
    unfold gearO at hto'
    simp only [hho, hto', Bool.not_true, cond_true, cond_false, he']
    rfl

theorem told_range {a : Auto} {m : Moves} {key : Bool} : wthin (toldM a m key) 0 3 = true := by
  unfold toldM
  cases (tickM a m).2 && decide (m.plan.stops.length > 0)
  · cases (tickM a m).2 && (key && a.mode == 4)
    · cases (tickM a m).2
      · cases decide (a.car.floor < m.home)
        · cases decide (a.car.floor > m.home) <;> rfl
        · rfl
      · rfl
    · rfl
  · simp only [cond_true, cycle_Cmd]
    cases ((cycle_within m.gear m.plan (tickM a m).1).2.2 == 0)
    · rfl
    · simp only [cond_true, cmdPart]
      cases decide ((cycle_within m.gear m.plan (tickM a m).1).2.1 > 0)
      · cases decide ((cycle_within m.gear m.plan (tickM a m).1).1.dir > 0)
        · cases decide ((cycle_within m.gear m.plan (tickM a m).1).1.dir < 0) <;> rfl
        · rfl
      · rfl

theorem run_auto_Step (a0 : Auto) (a1 : Touch) (hg : smallAT a0 a1 = true) : ∃ F d, run k84 F d 8 Tryz.f8 s_auto_Step (a0, a1, ()) = some (r_auto_Step.enc (auto_Step a0 a1)) := by
  refine ⟨200, 6, ?_⟩
  rw [tree_auto_Step]
  have hs : smallA a0 = true := hg
  have hs' := hs
  simp only [smallA, Bool.and_eq_true, decide_eq_true_eq] at hs'
  simp only [beqn, ble0, Bool.true_and, Bool.and_true, Bool.and_self, cond_true, cond_false, hs, bne_not]
  simp only [r_auto_Step, Res.tup3, Res.int, Res.agg, auto_Step]
  cases he : (errAuto a0 == 0) with
  | false => rfl
  | true =>
    have he' : errAuto a0 = 0 := by simpa using he
    obtain ⟨hho, hto⟩ := tick_of he' hs
    have hto' : toldMOk a0 { plan := planO a0.config a0.mode a0.nth, gear := gearO a0.config a0.mode, home := homeO a0.config a0.mode a0.nth } a1.key = true := hto
    unfold gearO at hto'
    simp only [hho, hto', Bool.not_true, cond_true, cond_false, he']
    rfl

theorem run_newellaw23_own (a0 : Auto) (hg : smallA a0 = true) : ∃ F d, runO k85 F d 7 Tryz.f7 s_newellaw23_own r_newellaw23_own (a0, ()) = some (own23 a0) := by
  refine ⟨200, 6, ?_⟩
  rw [tree_newellaw23_own]
  simp only [smallA, Bool.and_eq_true, decide_eq_true_eq] at hg
  have h1 := smallC_iff.1 hg.1
  have e1 : Nat.ble a0.config.stops.length 1048576 = true := by simpa using h1.1
  have e2 : Nat.ble a0.config.windows.length 1048576 = true := by simpa using h1.2
  simp only [beqn, ble0, List.nil_append, Bool.true_and, Bool.and_true, Bool.and_self, cond_true, cond_false, hg.1, e1, e2]
  rfl

theorem run_newelref23_Gear (a0 : Config) (a1 : Int) : ∃ F d, run k88 F d 25 Tryz.f25 s_newelref23_Gear (a0, a1, ()) = some (r_newelref23_Gear.enc (gearO a0 a1)) := by
  refine ⟨200, 6, ?_⟩
  rw [tree_newelref23_Gear]
  simp only [r_newelref23_Gear, Res.agg, gearO, deafM]
  by_cases m1 : a1 = 1
  · subst m1; rfl
  · by_cases m2 : a1 = 2
    · subst m2; rfl
    · by_cases m3 : a1 = 3
      · subst m3; rfl
      · have b1 : (a1 == 1) = false := by simpa using m1
        have b2 : (a1 == 2) = false := by simpa using m2
        have b3 : (a1 == 3) = false := by simpa using m3
        have b4 : (bif decide (a1 ≥ 1) then decide (a1 ≤ 3) else false) = false := by
          rw [Bool.eq_false_iff]
          intro h
          simp only [and_false', Bool.and_eq_true, decide_eq_true_eq] at h
          omega
        simp only [b1, b2, b3, b4, cond_false]
        rfl

theorem run_newelref23_Settle (a0 : Config) (hg : confOk a0 = true) : ∃ F d, run k89 F d 27 Tryz.f27 s_newelref23_Settle (a0, ()) = some (r_newelref23_Settle.enc (settleO a0)) := by
  refine ⟨200, 6, ?_⟩
  rw [tree_newelref23_Settle]
  simp only [confOk, Bool.and_eq_true, beq_iff_eq] at hg
  have hs := settle_wrap hg.1
  rw [IntWalk.i64_in (a0.floors * a0.times.travel) (by omega), IntWalk.i64_in (a0.floors * a0.times.travel + 480) (by omega)]
  rfl

theorem home_stop {c : Config} {mode nth : Int} (hg : homeOk c mode nth = true) (hp : plannedM mode = true) {p : Plan} (e : planO c mode nth = p) : placeROk p = true ∧ stopROk p (placeR p) = true ∧ stopR p (placeR p) = homeO c mode nth := by
  obtain ⟨h1, h2, h3, h4, h5, h6, h7⟩ := homeOk_facts hg
  obtain ⟨p1, p2, p3, p4, p5⟩ := plan_may h3 hp h6.1 h6.2
  obtain ⟨k1, k2, k3, k4, k5, k6⟩ := conf_facts h3
  obtain ⟨f1, _⟩ := first_home hg
  obtain ⟨_, _, hB⟩ := f1 hp
  have hho : homeO c mode nth = cond (planB (gearO c mode) (planO c mode nth)) ((rowP (planO c mode nth)).getD (placeP (planO c mode nth) (planO c mode nth).car).toNat 0) 0 := by
    unfold homeO
    rw [hp]
    rfl
  rw [e] at p1 p2 p3 p4 p5 hB hho
  rw [hB] at hho
  obtain ⟨b2, b3, b4, b5, b6, _, _⟩ := planB_iff.1 hB
  obtain ⟨q1, q2⟩ := placeP_range b2 b3 b5 b6
  have hsz : sizeP p = true := by simp [sizeP]; omega
  refine ⟨?_, ?_, ?_⟩
  · simp only [placeROk, hsz, Bool.true_and, Bool.and_eq_true, decide_eq_true_eq]
    omega
  · simp only [stopROk, hsz, placeR, Bool.true_and, Bool.and_eq_true, decide_eq_true_eq]
    unfold rowP at q2
    rw [rowL_length b2] at q2
    exact ⟨decide_eq_true q1, decide_eq_true (by omega)⟩
  · rw [hho]
    unfold stopR placeR legAt
    rw [Nat.mod_eq_of_lt (by omega)]
    rfl

theorem run_newelref23_Home (a0 : Config) (a1 : Int) (a2 : Int) (hg : homeOk a0 a1 a2 = true) : ∃ F d, run k92 F d 49 Tryz.f49 s_newelref23_Home (a0, a1, a2, ()) = some (r_newelref23_Home.enc (homeO a0 a1 a2)) := by
  refine ⟨200, 6, ?_⟩
  rw [tree_newelref23_Home]
  obtain ⟨h1, h2, h3, h4, h5, h6, h7⟩ := homeOk_facts hg
  obtain ⟨k1, k2, k3, k4, k5, k6⟩ := conf_facts h3
  have hfl : decide (a0.floors ≤ 1048576) = true := by simp; omega
  simp only [beqn, ble0, Bool.true_and, Bool.and_true, Bool.and_self, cond_true, cond_false, hfl, bne_not]
  simp only [r_newelref23_Home, Res.int]
  cases hp : plannedM a1 with
  | false => simp only [homeO, hp, cond_false, Bool.not_false, cond_true]
  | true =>
    simp only [Bool.not_true, cond_false]
    cases m1 : (a1 == 1) with
    | true =>
      obtain ⟨g1, g2, g3⟩ := home_stop hg hp (p := { stops := a0.stops, cars := a0.cars, car := a2 }) (by simp [planO, m1])
      simp only [g1, g2, cond_true, g3]
    | false =>
      cases m2 : (a1 == 2) with
      | false => unfold plannedM at hp; rw [m1, m2] at hp; cases hp
      | true =>
        obtain ⟨g1, g2, g3⟩ := home_stop hg hp (p := { stops := floorsL a0.floors, cars := a0.cars, car := a2 }) (by simp [planO, m1, m2])
        simp only [g1, g2, cond_true, cond_false, Bool.not_true, g3]
end Go.Proofs.YtdpdmjjpdebpeaaGreat.Px.PxR
