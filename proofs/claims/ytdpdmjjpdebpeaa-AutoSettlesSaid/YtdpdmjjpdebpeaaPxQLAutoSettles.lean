/- The law AutoSettles. -/
import Derived.Test.YtdpdmjjpdebpeaaPxQProofs5
import Derived.Test.YtdpdmjjpdebpeaaPxSpecAuto
set_option linter.unusedVariables false
set_option linter.unusedSimpArgs false
namespace Go.Proofs.Ytdpdmjjpdebpeaa.Px.PxQ
open Go Go.Proofs
set_option linter.unusedSimpArgs false
set_option linter.unusedVariables false

theorem told_away {a : Auto} {k : Bool} (h : inStepO a = false) : toldO a k = toward a.car.floor (homeO a.config a.mode a.nth) := by
  have h5 : (tickM a (movesA a)).2 = false := h
  unfold toldO toldM
  rw [h5]
  rfl

theorem home_in {a : Auto} (he : errAuto a = 0) : 0 ≤ homeO a.config a.mode a.nth ∧ homeO a.config a.mode a.nth ≤ (gearO a.config a.mode).floors - 1 := by
  cases hp : plannedM a.mode with
  | true =>
    have := carB_iff.1 (home_carB he hp)
    exact this.2.1
  | false =>
    obtain ⟨h1, h2, h3⟩ := errAuto_zero he
    obtain ⟨k1, _⟩ := errHome_zero h1
    unfold homeO
    rw [hp]
    exact (conf_facts k1).2.2.1

/-- **A tick of a car that is not in step yet.** -/
theorem away_step {a : Auto} {k h : Bool} (he : errAuto a = 0) (ha : a.age < settleO a.config) (hl : h = false ∨ a.mode ≤ 3) :
    auto_InStep a = (false, 0) ∧ (auto_Step a ⟨k, h, false⟩).2.2 = 0 ∧ carB a.config.floors (auto_Step a ⟨k, h, false⟩).1 = true ∧
    (0 < carM (gearO a.config a.mode) (homeO a.config a.mode a.nth) a.car → carM (gearO a.config a.mode) (homeO a.config a.mode a.nth) (auto_Step a ⟨k, h, false⟩).1 = carM (gearO a.config a.mode) (homeO a.config a.mode a.nth) a.car - 1) ∧
    (carM (gearO a.config a.mode) (homeO a.config a.mode a.nth) a.car = 0 → (auto_Step a ⟨k, h, false⟩).1 = a.car) := by
  have hin : inStepO a = false := by
    rw [Bool.eq_false_iff]
    intro h
    have := (inStep_iff.1 h).1
    omega
  obtain ⟨h1, h2, h3⟩ := errAuto_zero he
  obtain ⟨k1, hmode, _⟩ := errHome_zero h1
  obtain ⟨s1, s2⟩ := step_ok (t := ⟨k, h, false⟩) he
  have hG := gear_may k1 a.mode
  have hd : h = false ∨ (gearO a.config a.mode).most ≤ 0 := by
    rcases hl with h | h
    · exact .inl h
    · refine .inr ?_
      have hdf : deafM a.mode = true := by
        have : a.mode = 1 ∨ a.mode = 2 ∨ a.mode = 3 := by omega
        unfold deafM
        rcases this with h | h | h <;> rw [h] <;> rfl
      show cond (deafM a.mode) 0 a.config.times.hold ≤ 0
      rw [hdf]; exact Int.le_refl _
  obtain ⟨m1, m2, m3⟩ := carM_step (c := a.car) (hl := h) hG h3 (home_in he) hd
  have ht : toldO a k = toward a.car.floor (homeO a.config a.mode a.nth) := told_away hin
  have hso : stepOk (gearO a.config a.mode) a.car ⟨toldO a k, h, false⟩ = true := by
    simp only [stepOk, carOk, Bool.and_eq_true]
    exact ⟨⟨hG, h3⟩, told_range⟩
  have hf := (stepC_facts hso).1
  rw [s2]
  simp only [ht] at hf ⊢
  refine ⟨by rw [inStep_good (by rw [he]; rfl), hin], trivial, hf, m3, fun h => (m2 h).2⟩

theorem settles_age {c : Config} {md nt i : Int} {cr cr' : Car} (he : errAuto ⟨c, md, nt, i, cr⟩ = 0) (hc : carB c.floors cr' = true) : errAuto ⟨c, md, nt, i + 1, cr'⟩ = 0 := stays_err (a := ⟨c, md, nt, i, cr⟩) he hc

theorem go_settles (l0 : List (Int)) (l1 : List (Window)) (l2 : List (Bool)) (l4 : List (Int)) (l5 : List (Window)) (l6 : List (Int)) (l7 : List (Window)) (v3_0 : Int) (v3_1 : Int) (v3_2 : Int) (v3_4 : Int) (v3_5 : Int) (v3_6 : Int) (v3_7 : Int) (v3_8 : Int) (v3_9 : Int) (v3_10 : Int) (v3_11 : Int) (v3_12 : Int) (v3_13 : Int) (v3_14 : Int) (v3_15 : Int) (v3_16 : Int) (v3_17 : Int) (v3_18 : Int) (v3_19 : Int) (v3_20 : Int) (v3_21 : Int) (v3_22 : Int) (v3_23 : Int) (v3_24 : Int) (v3_25 : Int) (v3_26 : Int) (v3_27 : Int) (v3_28 : Int) (v3_29 : Int) (v3_30 : Int) (v3_31 : Int) (v3_32 : Int) (v3_33 : Int) (v3_34 : Int) (v3_35 : Bool) (v3_37 : Int) (v3_38 : Int) (v3_39 : Int) (v3_40 : Int) (v3_41 : Int) (v3_42 : Int) (v3_43 : Int) (v3_44 : Int) (v3_45 : Int) (v3_46 : Int) (v5 : Int) (v9 : Int) (F d : Nat) (hv : v5 = settleO (⟨v3_0, v3_1, v3_2, l0, ⟨v3_4, v3_5, v3_6, v3_7, v3_8, v3_9, v3_10⟩, v3_11, v3_12, ⟨v3_13, v3_14, ⟨v3_15, v3_16, v3_17, v3_18⟩, ⟨v3_19, v3_20, v3_21, v3_22⟩⟩, ⟨v3_23, v3_24, v3_25, v3_26, v3_27, v3_28, v3_29, v3_30, v3_31, v3_32, v3_33, v3_34⟩, v3_35, l1⟩ : Config)) (hsc : smallC (⟨v3_0, v3_1, v3_2, l0, ⟨v3_4, v3_5, v3_6, v3_7, v3_8, v3_9, v3_10⟩, v3_11, v3_12, ⟨v3_13, v3_14, ⟨v3_15, v3_16, v3_17, v3_18⟩, ⟨v3_19, v3_20, v3_21, v3_22⟩⟩, ⟨v3_23, v3_24, v3_25, v3_26, v3_27, v3_28, v3_29, v3_30, v3_31, v3_32, v3_33, v3_34⟩, v3_35, l1⟩ : Config) = true) (hset : settleO (⟨v3_0, v3_1, v3_2, l0, ⟨v3_4, v3_5, v3_6, v3_7, v3_8, v3_9, v3_10⟩, v3_11, v3_12, ⟨v3_13, v3_14, ⟨v3_15, v3_16, v3_17, v3_18⟩, ⟨v3_19, v3_20, v3_21, v3_22⟩⟩, ⟨v3_23, v3_24, v3_25, v3_26, v3_27, v3_28, v3_29, v3_30, v3_31, v3_32, v3_33, v3_34⟩, v3_35, l1⟩ : Config) ≤ 100000) : ∀ (k : Nat) (i c0 c1 c2 c3 c4 c5 c6 : Int) (n : Nat), k < n → i + k = settleO (⟨v3_0, v3_1, v3_2, l0, ⟨v3_4, v3_5, v3_6, v3_7, v3_8, v3_9, v3_10⟩, v3_11, v3_12, ⟨v3_13, v3_14, ⟨v3_15, v3_16, v3_17, v3_18⟩, ⟨v3_19, v3_20, v3_21, v3_22⟩⟩, ⟨v3_23, v3_24, v3_25, v3_26, v3_27, v3_28, v3_29, v3_30, v3_31, v3_32, v3_33, v3_34⟩, v3_35, l1⟩ : Config) → 0 ≤ i → errAuto (⟨(⟨v3_0, v3_1, v3_2, l0, ⟨v3_4, v3_5, v3_6, v3_7, v3_8, v3_9, v3_10⟩, v3_11, v3_12, ⟨v3_13, v3_14, ⟨v3_15, v3_16, v3_17, v3_18⟩, ⟨v3_19, v3_20, v3_21, v3_22⟩⟩, ⟨v3_23, v3_24, v3_25, v3_26, v3_27, v3_28, v3_29, v3_30, v3_31, v3_32, v3_33, v3_34⟩, v3_35, l1⟩ : Config), v3_37, v3_38, i, (⟨c0, c1, c2, c3, ⟨c4, c5, c6⟩⟩ : Car)⟩ : Auto) = 0 → carM (gearO (⟨v3_0, v3_1, v3_2, l0, ⟨v3_4, v3_5, v3_6, v3_7, v3_8, v3_9, v3_10⟩, v3_11, v3_12, ⟨v3_13, v3_14, ⟨v3_15, v3_16, v3_17, v3_18⟩, ⟨v3_19, v3_20, v3_21, v3_22⟩⟩, ⟨v3_23, v3_24, v3_25, v3_26, v3_27, v3_28, v3_29, v3_30, v3_31, v3_32, v3_33, v3_34⟩, v3_35, l1⟩ : Config) v3_37) (homeO (⟨v3_0, v3_1, v3_2, l0, ⟨v3_4, v3_5, v3_6, v3_7, v3_8, v3_9, v3_10⟩, v3_11, v3_12, ⟨v3_13, v3_14, ⟨v3_15, v3_16, v3_17, v3_18⟩, ⟨v3_19, v3_20, v3_21, v3_22⟩⟩, ⟨v3_23, v3_24, v3_25, v3_26, v3_27, v3_28, v3_29, v3_30, v3_31, v3_32, v3_33, v3_34⟩, v3_35, l1⟩ : Config) v3_37 v3_38) (⟨c0, c1, c2, c3, ⟨c4, c5, c6⟩⟩ : Car) ≤ k →
    I_settles F (d + 3) n (S_settles l0 l1 l2 l4 l5 l6 l7 v3_0 v3_1 v3_2 v3_4 v3_5 v3_6 v3_7 v3_8 v3_9 v3_10 v3_11 v3_12 v3_13 v3_14 v3_15 v3_16 v3_17 v3_18 v3_19 v3_20 v3_21 v3_22 v3_23 v3_24 v3_25 v3_26 v3_27 v3_28 v3_29 v3_30 v3_31 v3_32 v3_33 v3_34 v3_35 v3_37 v3_38 i c0 c1 c2 c3 c4 c5 c6 v5 i) = some (.exit 0, (X_settles_1 l0 l1 l2 l4 l5 l6 l7 v3_0 v3_1 v3_2 v3_4 v3_5 v3_6 v3_7 v3_8 v3_9 v3_10 v3_11 v3_12 v3_13 v3_14 v3_15 v3_16 v3_17 v3_18 v3_19 v3_20 v3_21 v3_22 v3_23 v3_24 v3_25 v3_26 v3_27 v3_28 v3_29 v3_30 v3_31 v3_32 v3_33 v3_34 v3_35 v3_37 v3_38 (settleO (⟨v3_0, v3_1, v3_2, l0, ⟨v3_4, v3_5, v3_6, v3_7, v3_8, v3_9, v3_10⟩, v3_11, v3_12, ⟨v3_13, v3_14, ⟨v3_15, v3_16, v3_17, v3_18⟩, ⟨v3_19, v3_20, v3_21, v3_22⟩⟩, ⟨v3_23, v3_24, v3_25, v3_26, v3_27, v3_28, v3_29, v3_30, v3_31, v3_32, v3_33, v3_34⟩, v3_35, l1⟩ : Config)) (homeO (⟨v3_0, v3_1, v3_2, l0, ⟨v3_4, v3_5, v3_6, v3_7, v3_8, v3_9, v3_10⟩, v3_11, v3_12, ⟨v3_13, v3_14, ⟨v3_15, v3_16, v3_17, v3_18⟩, ⟨v3_19, v3_20, v3_21, v3_22⟩⟩, ⟨v3_23, v3_24, v3_25, v3_26, v3_27, v3_28, v3_29, v3_30, v3_31, v3_32, v3_33, v3_34⟩, v3_35, l1⟩ : Config) v3_37 v3_38) 0 0 0 0 0 0)) := by
  intro k
  induction k with
  | zero =>
    intro i c0 c1 c2 c3 c4 c5 c6 n hn hi h0 he hm
    obtain ⟨n, rfl⟩ : ∃ k, n = k + 1 := ⟨n - 1, by omega⟩
    have e1 : decide (i < v5) = false := by simp; omega
    have hB := (errAuto_zero he).2.2
    obtain ⟨k1, _⟩ := errHome_zero (errAuto_zero he).1
    obtain ⟨m1, m2, m3⟩ := carM_step (hl := false) (gear_may k1 v3_37) hB (home_in he) (.inl rfl)
    have hc := (m2 (by have : carM (gearO (⟨v3_0, v3_1, v3_2, l0, ⟨v3_4, v3_5, v3_6, v3_7, v3_8, v3_9, v3_10⟩, v3_11, v3_12, ⟨v3_13, v3_14, ⟨v3_15, v3_16, v3_17, v3_18⟩, ⟨v3_19, v3_20, v3_21, v3_22⟩⟩, ⟨v3_23, v3_24, v3_25, v3_26, v3_27, v3_28, v3_29, v3_30, v3_31, v3_32, v3_33, v3_34⟩, v3_35, l1⟩ : Config) v3_37) (homeO (⟨v3_0, v3_1, v3_2, l0, ⟨v3_4, v3_5, v3_6, v3_7, v3_8, v3_9, v3_10⟩, v3_11, v3_12, ⟨v3_13, v3_14, ⟨v3_15, v3_16, v3_17, v3_18⟩, ⟨v3_19, v3_20, v3_21, v3_22⟩⟩, ⟨v3_23, v3_24, v3_25, v3_26, v3_27, v3_28, v3_29, v3_30, v3_31, v3_32, v3_33, v3_34⟩, v3_35, l1⟩ : Config) v3_37 v3_38) (⟨c0, c1, c2, c3, ⟨c4, c5, c6⟩⟩ : Car) ≤ 0 := by simpa using hm
                       exact Int.le_antisymm this m1)).1
    have hi' : i = settleO (⟨v3_0, v3_1, v3_2, l0, ⟨v3_4, v3_5, v3_6, v3_7, v3_8, v3_9, v3_10⟩, v3_11, v3_12, ⟨v3_13, v3_14, ⟨v3_15, v3_16, v3_17, v3_18⟩, ⟨v3_19, v3_20, v3_21, v3_22⟩⟩, ⟨v3_23, v3_24, v3_25, v3_26, v3_27, v3_28, v3_29, v3_30, v3_31, v3_32, v3_33, v3_34⟩, v3_35, l1⟩ : Config) := by omega
    simp only [idleC, door0, Car.mk.injEq, Door.mk.injEq] at hc
    obtain ⟨q0, q1, q2, q3, q4, q5, q6⟩ := hc
    rw [step_settles, e1, cond_false, hi', q0, q1, q2, q3, q4, q5, q6]
  | succ k ih =>
    intro i c0 c1 c2 c3 c4 c5 c6 n hn hi h0 he hm
    obtain ⟨n, rfl⟩ : ∃ k, n = k + 1 := ⟨n - 1, by omega⟩
    have e1 : decide (i < v5) = true := by simp; omega
    have hage : i ≤ 9223372036854775807 := by omega
    have hsm : smallA (⟨(⟨v3_0, v3_1, v3_2, l0, ⟨v3_4, v3_5, v3_6, v3_7, v3_8, v3_9, v3_10⟩, v3_11, v3_12, ⟨v3_13, v3_14, ⟨v3_15, v3_16, v3_17, v3_18⟩, ⟨v3_19, v3_20, v3_21, v3_22⟩⟩, ⟨v3_23, v3_24, v3_25, v3_26, v3_27, v3_28, v3_29, v3_30, v3_31, v3_32, v3_33, v3_34⟩, v3_35, l1⟩ : Config), v3_37, v3_38, i, (⟨c0, c1, c2, c3, ⟨c4, c5, c6⟩⟩ : Car)⟩ : Auto) = true := by
      simp only [smallA, Bool.and_eq_true, decide_eq_true_eq]
      exact ⟨hsc, hage⟩
    have hst : ∀ t, smallAT (⟨(⟨v3_0, v3_1, v3_2, l0, ⟨v3_4, v3_5, v3_6, v3_7, v3_8, v3_9, v3_10⟩, v3_11, v3_12, ⟨v3_13, v3_14, ⟨v3_15, v3_16, v3_17, v3_18⟩, ⟨v3_19, v3_20, v3_21, v3_22⟩⟩, ⟨v3_23, v3_24, v3_25, v3_26, v3_27, v3_28, v3_29, v3_30, v3_31, v3_32, v3_33, v3_34⟩, v3_35, l1⟩ : Config), v3_37, v3_38, i, (⟨c0, c1, c2, c3, ⟨c4, c5, c6⟩⟩ : Car)⟩ : Auto) t = true := fun _ => hsm
    have hb : ∀ x : Bool, (bif decide (i < ((l2.length : Nat) : Int)) then x else false) = (decide (i < ((l2.length : Nat) : Int)) && x) := fun x => by cases decide (i < ((l2.length : Nat) : Int)) <;> rfl
    have hl0 : decide (0 ≤ i) = true := by simpa using h0
    have hl1 : (decide (0 ≤ i) && decide (i < ((l2.length : Nat) : Int)) || !decide (i < ((l2.length : Nat) : Int))) = true := by rw [hl0]; cases decide (i < ((l2.length : Nat) : Int)) <;> rfl
    have hl2 : (decide (0 + Int.toNat i < l2.length) || !decide (i < ((l2.length : Nat) : Int))) = true := by
      rw [Bool.or_eq_true]
      by_cases h : i < ((l2.length : Nat) : Int)
      · left; simp; omega
      · right; simp; omega
    have hw : IntKind.wrap IntKind.i64 (i + 1) = i + 1 := IntWalk.i64_in _ (by omega)
    rw [step_settles]
    generalize hkey : (bif decide (i < ((l2.length : Nat) : Int)) then List.getD l2 (0 + Int.toNat i) false else false) = key
    have hheld : (bif key then decide (v3_37 < 4) else false) = false ∨ v3_37 ≤ 3 := by
      by_cases h : v3_37 ≤ 3
      · exact .inr h
      · have h4 : decide (v3_37 < 4) = false := by simp; omega
        rw [h4]; cases key <;> exact .inl rfl
    generalize hhl : (bif key then decide (v3_37 < 4) else false) = held at *
    obtain ⟨a1, a2, a3, a4, a5⟩ := away_step (a := (⟨(⟨v3_0, v3_1, v3_2, l0, ⟨v3_4, v3_5, v3_6, v3_7, v3_8, v3_9, v3_10⟩, v3_11, v3_12, ⟨v3_13, v3_14, ⟨v3_15, v3_16, v3_17, v3_18⟩, ⟨v3_19, v3_20, v3_21, v3_22⟩⟩, ⟨v3_23, v3_24, v3_25, v3_26, v3_27, v3_28, v3_29, v3_30, v3_31, v3_32, v3_33, v3_34⟩, v3_35, l1⟩ : Config), v3_37, v3_38, i, (⟨c0, c1, c2, c3, ⟨c4, c5, c6⟩⟩ : Car)⟩ : Auto)) (k := key) (h := held) he (show i < settleO (⟨v3_0, v3_1, v3_2, l0, ⟨v3_4, v3_5, v3_6, v3_7, v3_8, v3_9, v3_10⟩, v3_11, v3_12, ⟨v3_13, v3_14, ⟨v3_15, v3_16, v3_17, v3_18⟩, ⟨v3_19, v3_20, v3_21, v3_22⟩⟩, ⟨v3_23, v3_24, v3_25, v3_26, v3_27, v3_28, v3_29, v3_30, v3_31, v3_32, v3_33, v3_34⟩, v3_35, l1⟩ : Config) by omega) hheld
    simp only [beqn, ble0, e1, hl1, hl2, hsm, hst, a1, a2, hw, bne_not, beq_self_eq_true, Bool.true_and, Bool.and_true, Bool.and_self, Bool.not_true, cond_true, cond_false]
    refine ih (i + 1) _ _ _ _ _ _ _ n (by omega) (by omega) (by omega) (settles_age he a3) ?_
    have hB := (errAuto_zero he).2.2
    obtain ⟨k1, _⟩ := errHome_zero (errAuto_zero he).1
    obtain ⟨m1, m2, m3⟩ := carM_step (hl := false) (gear_may k1 v3_37) hB (home_in he) (.inl rfl)
    show carM (gearO (⟨v3_0, v3_1, v3_2, l0, ⟨v3_4, v3_5, v3_6, v3_7, v3_8, v3_9, v3_10⟩, v3_11, v3_12, ⟨v3_13, v3_14, ⟨v3_15, v3_16, v3_17, v3_18⟩, ⟨v3_19, v3_20, v3_21, v3_22⟩⟩, ⟨v3_23, v3_24, v3_25, v3_26, v3_27, v3_28, v3_29, v3_30, v3_31, v3_32, v3_33, v3_34⟩, v3_35, l1⟩ : Config) v3_37) (homeO (⟨v3_0, v3_1, v3_2, l0, ⟨v3_4, v3_5, v3_6, v3_7, v3_8, v3_9, v3_10⟩, v3_11, v3_12, ⟨v3_13, v3_14, ⟨v3_15, v3_16, v3_17, v3_18⟩, ⟨v3_19, v3_20, v3_21, v3_22⟩⟩, ⟨v3_23, v3_24, v3_25, v3_26, v3_27, v3_28, v3_29, v3_30, v3_31, v3_32, v3_33, v3_34⟩, v3_35, l1⟩ : Config) v3_37 v3_38) (auto_Step (⟨(⟨v3_0, v3_1, v3_2, l0, ⟨v3_4, v3_5, v3_6, v3_7, v3_8, v3_9, v3_10⟩, v3_11, v3_12, ⟨v3_13, v3_14, ⟨v3_15, v3_16, v3_17, v3_18⟩, ⟨v3_19, v3_20, v3_21, v3_22⟩⟩, ⟨v3_23, v3_24, v3_25, v3_26, v3_27, v3_28, v3_29, v3_30, v3_31, v3_32, v3_33, v3_34⟩, v3_35, l1⟩ : Config), v3_37, v3_38, i, (⟨c0, c1, c2, c3, ⟨c4, c5, c6⟩⟩ : Car)⟩ : Auto) ⟨key, held, false⟩).1 ≤ _
    by_cases hpos : 0 < carM (gearO (⟨v3_0, v3_1, v3_2, l0, ⟨v3_4, v3_5, v3_6, v3_7, v3_8, v3_9, v3_10⟩, v3_11, v3_12, ⟨v3_13, v3_14, ⟨v3_15, v3_16, v3_17, v3_18⟩, ⟨v3_19, v3_20, v3_21, v3_22⟩⟩, ⟨v3_23, v3_24, v3_25, v3_26, v3_27, v3_28, v3_29, v3_30, v3_31, v3_32, v3_33, v3_34⟩, v3_35, l1⟩ : Config) v3_37) (homeO (⟨v3_0, v3_1, v3_2, l0, ⟨v3_4, v3_5, v3_6, v3_7, v3_8, v3_9, v3_10⟩, v3_11, v3_12, ⟨v3_13, v3_14, ⟨v3_15, v3_16, v3_17, v3_18⟩, ⟨v3_19, v3_20, v3_21, v3_22⟩⟩, ⟨v3_23, v3_24, v3_25, v3_26, v3_27, v3_28, v3_29, v3_30, v3_31, v3_32, v3_33, v3_34⟩, v3_35, l1⟩ : Config) v3_37 v3_38) (⟨c0, c1, c2, c3, ⟨c4, c5, c6⟩⟩ : Car)
    · rw [a4 hpos]
      have : carM (gearO (⟨v3_0, v3_1, v3_2, l0, ⟨v3_4, v3_5, v3_6, v3_7, v3_8, v3_9, v3_10⟩, v3_11, v3_12, ⟨v3_13, v3_14, ⟨v3_15, v3_16, v3_17, v3_18⟩, ⟨v3_19, v3_20, v3_21, v3_22⟩⟩, ⟨v3_23, v3_24, v3_25, v3_26, v3_27, v3_28, v3_29, v3_30, v3_31, v3_32, v3_33, v3_34⟩, v3_35, l1⟩ : Config) v3_37) (homeO (⟨v3_0, v3_1, v3_2, l0, ⟨v3_4, v3_5, v3_6, v3_7, v3_8, v3_9, v3_10⟩, v3_11, v3_12, ⟨v3_13, v3_14, ⟨v3_15, v3_16, v3_17, v3_18⟩, ⟨v3_19, v3_20, v3_21, v3_22⟩⟩, ⟨v3_23, v3_24, v3_25, v3_26, v3_27, v3_28, v3_29, v3_30, v3_31, v3_32, v3_33, v3_34⟩, v3_35, l1⟩ : Config) v3_37 v3_38) (⟨c0, c1, c2, c3, ⟨c4, c5, c6⟩⟩ : Car) ≤ ((k + 1 : Nat) : Int) := hm
      show carM (gearO (⟨v3_0, v3_1, v3_2, l0, ⟨v3_4, v3_5, v3_6, v3_7, v3_8, v3_9, v3_10⟩, v3_11, v3_12, ⟨v3_13, v3_14, ⟨v3_15, v3_16, v3_17, v3_18⟩, ⟨v3_19, v3_20, v3_21, v3_22⟩⟩, ⟨v3_23, v3_24, v3_25, v3_26, v3_27, v3_28, v3_29, v3_30, v3_31, v3_32, v3_33, v3_34⟩, v3_35, l1⟩ : Config) v3_37) (homeO (⟨v3_0, v3_1, v3_2, l0, ⟨v3_4, v3_5, v3_6, v3_7, v3_8, v3_9, v3_10⟩, v3_11, v3_12, ⟨v3_13, v3_14, ⟨v3_15, v3_16, v3_17, v3_18⟩, ⟨v3_19, v3_20, v3_21, v3_22⟩⟩, ⟨v3_23, v3_24, v3_25, v3_26, v3_27, v3_28, v3_29, v3_30, v3_31, v3_32, v3_33, v3_34⟩, v3_35, l1⟩ : Config) v3_37 v3_38) (⟨c0, c1, c2, c3, ⟨c4, c5, c6⟩⟩ : Car) - 1 ≤ _
      omega
    · have hz : carM (gearO (⟨v3_0, v3_1, v3_2, l0, ⟨v3_4, v3_5, v3_6, v3_7, v3_8, v3_9, v3_10⟩, v3_11, v3_12, ⟨v3_13, v3_14, ⟨v3_15, v3_16, v3_17, v3_18⟩, ⟨v3_19, v3_20, v3_21, v3_22⟩⟩, ⟨v3_23, v3_24, v3_25, v3_26, v3_27, v3_28, v3_29, v3_30, v3_31, v3_32, v3_33, v3_34⟩, v3_35, l1⟩ : Config) v3_37) (homeO (⟨v3_0, v3_1, v3_2, l0, ⟨v3_4, v3_5, v3_6, v3_7, v3_8, v3_9, v3_10⟩, v3_11, v3_12, ⟨v3_13, v3_14, ⟨v3_15, v3_16, v3_17, v3_18⟩, ⟨v3_19, v3_20, v3_21, v3_22⟩⟩, ⟨v3_23, v3_24, v3_25, v3_26, v3_27, v3_28, v3_29, v3_30, v3_31, v3_32, v3_33, v3_34⟩, v3_35, l1⟩ : Config) v3_37 v3_38) (⟨c0, c1, c2, c3, ⟨c4, c5, c6⟩⟩ : Car) = 0 := Int.le_antisymm (by omega) m1
      rw [a5 hz]
      show carM (gearO (⟨v3_0, v3_1, v3_2, l0, ⟨v3_4, v3_5, v3_6, v3_7, v3_8, v3_9, v3_10⟩, v3_11, v3_12, ⟨v3_13, v3_14, ⟨v3_15, v3_16, v3_17, v3_18⟩, ⟨v3_19, v3_20, v3_21, v3_22⟩⟩, ⟨v3_23, v3_24, v3_25, v3_26, v3_27, v3_28, v3_29, v3_30, v3_31, v3_32, v3_33, v3_34⟩, v3_35, l1⟩ : Config) v3_37) (homeO (⟨v3_0, v3_1, v3_2, l0, ⟨v3_4, v3_5, v3_6, v3_7, v3_8, v3_9, v3_10⟩, v3_11, v3_12, ⟨v3_13, v3_14, ⟨v3_15, v3_16, v3_17, v3_18⟩, ⟨v3_19, v3_20, v3_21, v3_22⟩⟩, ⟨v3_23, v3_24, v3_25, v3_26, v3_27, v3_28, v3_29, v3_30, v3_31, v3_32, v3_33, v3_34⟩, v3_35, l1⟩ : Config) v3_37 v3_38) (⟨c0, c1, c2, c3, ⟨c4, c5, c6⟩⟩ : Car) ≤ _
      omega

theorem main_settles (l0 : List (Int)) (l1 : List (Window)) (l2 : List (Bool)) (l4 : List (Int)) (l5 : List (Window)) (l6 : List (Int)) (l7 : List (Window)) (v3_0 : Int) (v3_1 : Int) (v3_2 : Int) (v3_4 : Int) (v3_5 : Int) (v3_6 : Int) (v3_7 : Int) (v3_8 : Int) (v3_9 : Int) (v3_10 : Int) (v3_11 : Int) (v3_12 : Int) (v3_13 : Int) (v3_14 : Int) (v3_15 : Int) (v3_16 : Int) (v3_17 : Int) (v3_18 : Int) (v3_19 : Int) (v3_20 : Int) (v3_21 : Int) (v3_22 : Int) (v3_23 : Int) (v3_24 : Int) (v3_25 : Int) (v3_26 : Int) (v3_27 : Int) (v3_28 : Int) (v3_29 : Int) (v3_30 : Int) (v3_31 : Int) (v3_32 : Int) (v3_33 : Int) (v3_34 : Int) (v3_35 : Bool) (v3_37 : Int) (v3_38 : Int) (v3_39 : Int) (v3_40 : Int) (v3_41 : Int) (v3_42 : Int) (v3_43 : Int) (v3_44 : Int) (v3_45 : Int) (v3_46 : Int) (v5 : Int) (v9 : Int) (hg : (smallA (⟨(⟨v3_0, v3_1, v3_2, l0, ⟨v3_4, v3_5, v3_6, v3_7, v3_8, v3_9, v3_10⟩, v3_11, v3_12, ⟨v3_13, v3_14, ⟨v3_15, v3_16, v3_17, v3_18⟩, ⟨v3_19, v3_20, v3_21, v3_22⟩⟩, ⟨v3_23, v3_24, v3_25, v3_26, v3_27, v3_28, v3_29, v3_30, v3_31, v3_32, v3_33, v3_34⟩, v3_35, l1⟩ : Config), v3_37, v3_38, v3_39, ⟨v3_40, v3_41, v3_42, v3_43, ⟨v3_44, v3_45, v3_46⟩⟩⟩ : Auto) && (errAuto (⟨(⟨v3_0, v3_1, v3_2, l0, ⟨v3_4, v3_5, v3_6, v3_7, v3_8, v3_9, v3_10⟩, v3_11, v3_12, ⟨v3_13, v3_14, ⟨v3_15, v3_16, v3_17, v3_18⟩, ⟨v3_19, v3_20, v3_21, v3_22⟩⟩, ⟨v3_23, v3_24, v3_25, v3_26, v3_27, v3_28, v3_29, v3_30, v3_31, v3_32, v3_33, v3_34⟩, v3_35, l1⟩ : Config), v3_37, v3_38, v3_39, ⟨v3_40, v3_41, v3_42, v3_43, ⟨v3_44, v3_45, v3_46⟩⟩⟩ : Auto) == 0 && (v9 == 0 && (v3_39 == 0 && v5 == settleO (⟨v3_0, v3_1, v3_2, l0, ⟨v3_4, v3_5, v3_6, v3_7, v3_8, v3_9, v3_10⟩, v3_11, v3_12, ⟨v3_13, v3_14, ⟨v3_15, v3_16, v3_17, v3_18⟩, ⟨v3_19, v3_20, v3_21, v3_22⟩⟩, ⟨v3_23, v3_24, v3_25, v3_26, v3_27, v3_28, v3_29, v3_30, v3_31, v3_32, v3_33, v3_34⟩, v3_35, l1⟩ : Config))))) = true) : ∃ N d, I_settles N d N (S_settles l0 l1 l2 l4 l5 l6 l7 v3_0 v3_1 v3_2 v3_4 v3_5 v3_6 v3_7 v3_8 v3_9 v3_10 v3_11 v3_12 v3_13 v3_14 v3_15 v3_16 v3_17 v3_18 v3_19 v3_20 v3_21 v3_22 v3_23 v3_24 v3_25 v3_26 v3_27 v3_28 v3_29 v3_30 v3_31 v3_32 v3_33 v3_34 v3_35 v3_37 v3_38 v3_39 v3_40 v3_41 v3_42 v3_43 v3_44 v3_45 v3_46 v5 v9) = some (altK Prod.mk [] (.exit 0) (X_settles_1 l0 l1 l2 l4 l5 l6 l7 v3_0 v3_1 v3_2 v3_4 v3_5 v3_6 v3_7 v3_8 v3_9 v3_10 v3_11 v3_12 v3_13 v3_14 v3_15 v3_16 v3_17 v3_18 v3_19 v3_20 v3_21 v3_22 v3_23 v3_24 v3_25 v3_26 v3_27 v3_28 v3_29 v3_30 v3_31 v3_32 v3_33 v3_34 v3_35 v3_37 v3_38 v5 (homeO (⟨v3_0, v3_1, v3_2, l0, ⟨v3_4, v3_5, v3_6, v3_7, v3_8, v3_9, v3_10⟩, v3_11, v3_12, ⟨v3_13, v3_14, ⟨v3_15, v3_16, v3_17, v3_18⟩, ⟨v3_19, v3_20, v3_21, v3_22⟩⟩, ⟨v3_23, v3_24, v3_25, v3_26, v3_27, v3_28, v3_29, v3_30, v3_31, v3_32, v3_33, v3_34⟩, v3_35, l1⟩ : Config) v3_37 v3_38) 0 0 0 0 0 0)) := by
  simp only [Bool.and_eq_true, decide_eq_true_eq, beq_iff_eq] at hg
  obtain ⟨h1, he, rfl, rfl, rfl⟩ := hg
  have hsm := h1
  simp only [smallA, Bool.and_eq_true, decide_eq_true_eq] at hsm
  obtain ⟨k1, _⟩ := errHome_zero (errAuto_zero he).1
  have hset := settle_wrap k1
  have hs2 : settleO (⟨v3_0, v3_1, v3_2, l0, ⟨v3_4, v3_5, v3_6, v3_7, v3_8, v3_9, v3_10⟩, v3_11, v3_12, ⟨v3_13, v3_14, ⟨v3_15, v3_16, v3_17, v3_18⟩, ⟨v3_19, v3_20, v3_21, v3_22⟩⟩, ⟨v3_23, v3_24, v3_25, v3_26, v3_27, v3_28, v3_29, v3_30, v3_31, v3_32, v3_33, v3_34⟩, v3_35, l1⟩ : Config) = v3_0 * v3_4 + 480 := rfl
  have hset' : settleO (⟨v3_0, v3_1, v3_2, l0, ⟨v3_4, v3_5, v3_6, v3_7, v3_8, v3_9, v3_10⟩, v3_11, v3_12, ⟨v3_13, v3_14, ⟨v3_15, v3_16, v3_17, v3_18⟩, ⟨v3_19, v3_20, v3_21, v3_22⟩⟩, ⟨v3_23, v3_24, v3_25, v3_26, v3_27, v3_28, v3_29, v3_30, v3_31, v3_32, v3_33, v3_34⟩, v3_35, l1⟩ : Config) ≤ 100000 := by rw [hs2]; have : v3_0 * v3_4 ≤ 3840 := hset.2; omega
  have hset0 : 0 ≤ settleO (⟨v3_0, v3_1, v3_2, l0, ⟨v3_4, v3_5, v3_6, v3_7, v3_8, v3_9, v3_10⟩, v3_11, v3_12, ⟨v3_13, v3_14, ⟨v3_15, v3_16, v3_17, v3_18⟩, ⟨v3_19, v3_20, v3_21, v3_22⟩⟩, ⟨v3_23, v3_24, v3_25, v3_26, v3_27, v3_28, v3_29, v3_30, v3_31, v3_32, v3_33, v3_34⟩, v3_35, l1⟩ : Config) := by rw [hs2]; have : 0 ≤ v3_0 * v3_4 := hset.1; omega
  have hle := carM_le (gear_may k1 v3_37) (errAuto_zero he).2.2 (home_in he)
  refine ⟨(settleO (⟨v3_0, v3_1, v3_2, l0, ⟨v3_4, v3_5, v3_6, v3_7, v3_8, v3_9, v3_10⟩, v3_11, v3_12, ⟨v3_13, v3_14, ⟨v3_15, v3_16, v3_17, v3_18⟩, ⟨v3_19, v3_20, v3_21, v3_22⟩⟩, ⟨v3_23, v3_24, v3_25, v3_26, v3_27, v3_28, v3_29, v3_30, v3_31, v3_32, v3_33, v3_34⟩, v3_35, l1⟩ : Config)).toNat + 1, 3, ?_⟩
  have := go_settles l0 l1 l2 l4 l5 l6 l7 v3_0 v3_1 v3_2 v3_4 v3_5 v3_6 v3_7 v3_8 v3_9 v3_10 v3_11 v3_12 v3_13 v3_14 v3_15 v3_16 v3_17 v3_18 v3_19 v3_20 v3_21 v3_22 v3_23 v3_24 v3_25 v3_26 v3_27 v3_28 v3_29 v3_30 v3_31 v3_32 v3_33 v3_34 v3_35 v3_37 v3_38 0 v3_40 v3_41 v3_42 v3_43 v3_44 v3_45 v3_46 (settleO (⟨v3_0, v3_1, v3_2, l0, ⟨v3_4, v3_5, v3_6, v3_7, v3_8, v3_9, v3_10⟩, v3_11, v3_12, ⟨v3_13, v3_14, ⟨v3_15, v3_16, v3_17, v3_18⟩, ⟨v3_19, v3_20, v3_21, v3_22⟩⟩, ⟨v3_23, v3_24, v3_25, v3_26, v3_27, v3_28, v3_29, v3_30, v3_31, v3_32, v3_33, v3_34⟩, v3_35, l1⟩ : Config)) 0 ((settleO (⟨v3_0, v3_1, v3_2, l0, ⟨v3_4, v3_5, v3_6, v3_7, v3_8, v3_9, v3_10⟩, v3_11, v3_12, ⟨v3_13, v3_14, ⟨v3_15, v3_16, v3_17, v3_18⟩, ⟨v3_19, v3_20, v3_21, v3_22⟩⟩, ⟨v3_23, v3_24, v3_25, v3_26, v3_27, v3_28, v3_29, v3_30, v3_31, v3_32, v3_33, v3_34⟩, v3_35, l1⟩ : Config)).toNat + 1) 0 rfl hsm.1 hset' (settleO (⟨v3_0, v3_1, v3_2, l0, ⟨v3_4, v3_5, v3_6, v3_7, v3_8, v3_9, v3_10⟩, v3_11, v3_12, ⟨v3_13, v3_14, ⟨v3_15, v3_16, v3_17, v3_18⟩, ⟨v3_19, v3_20, v3_21, v3_22⟩⟩, ⟨v3_23, v3_24, v3_25, v3_26, v3_27, v3_28, v3_29, v3_30, v3_31, v3_32, v3_33, v3_34⟩, v3_35, l1⟩ : Config)).toNat 0 v3_40 v3_41 v3_42 v3_43 v3_44 v3_45 v3_46 ((settleO (⟨v3_0, v3_1, v3_2, l0, ⟨v3_4, v3_5, v3_6, v3_7, v3_8, v3_9, v3_10⟩, v3_11, v3_12, ⟨v3_13, v3_14, ⟨v3_15, v3_16, v3_17, v3_18⟩, ⟨v3_19, v3_20, v3_21, v3_22⟩⟩, ⟨v3_23, v3_24, v3_25, v3_26, v3_27, v3_28, v3_29, v3_30, v3_31, v3_32, v3_33, v3_34⟩, v3_35, l1⟩ : Config)).toNat + 1) (by omega) (by omega) (Int.le_refl _) he (by
    rw [Int.toNat_of_nonneg hset0]
    exact hle)
  simpa only [altK] using this

/-- **When it has settled it is in step.** -/
theorem settled {c : Config} {md nt i : Int} {cr : Car} (he : errAuto ⟨c, md, nt, i, cr⟩ = 0) : auto_InStep ⟨c, md, nt, settleO c, idleC (homeO c md nt)⟩ = (true, 0) := by
  obtain ⟨h1, h2, h3⟩ := errAuto_zero he
  obtain ⟨k1, hmode, hn⟩ := errHome_zero h1
  have hset := settle_wrap k1
  have hs2 : settleO c = c.floors * c.times.travel + 480 := rfl
  have hset0 : 0 ≤ settleO c := by rw [hs2]; have : 0 ≤ c.floors * c.times.travel := hset.1; omega
  have hB : carB c.floors (idleC (homeO c md nt)) = true := by
    rw [carB_iff]
    exact ⟨(conf_facts k1).1, home_in he, doorB_iff.2 (.inl ⟨rfl, rfl, rfl⟩), .inl ⟨rfl, rfl, rfl, rfl⟩⟩
  have he2 : errAuto ⟨c, md, nt, settleO c, idleC (homeO c md nt)⟩ = 0 := by
    have e1 : (errHome c md nt == 0) = true := by rw [show errHome c md nt = 0 from h1]; rfl
    have e2 : decide (settleO c < 0) = false := by simp; omega
    unfold errAuto
    simp only [e1, e2, hB]
    rfl
  rw [inStep_good (by rw [he2]; rfl)]
  have : inStepO ⟨c, md, nt, settleO c, idleC (homeO c md nt)⟩ = true := by
    rw [inStep_iff]
    refine ⟨Int.le_refl _, ?_⟩
    show idleC (homeO c md nt) = stepCar c md nt (settleO c)
    cases hp : plannedM md with
    | false =>
      rw [stepCar_home hp]
      unfold homeO
      rw [hp]
      rfl
    | true =>
      obtain ⟨hG, hB2, hl2, h64, hr, hL, hlen, hdf⟩ := round_facts he2 hp
      rw [stepCar_round hl2, Int.sub_self, Int.zero_tmod]
      obtain ⟨b2, b3, b4, b5, b6, _, _⟩ := planB_iff.1 hB2
      obtain ⟨q1, q2⟩ := placeP_range b2 b3 b5 b6
      rcases begin_at hG hB2 b2 with hbeg | hneg
      · have hgo : (beginR (planO c md nt)).c = (cycle_At (gearO c md) (planO c md nt) 0).1 := by rw [hbeg]; rfl
        rw [← hgo]
        unfold homeO
        rw [hp]
        have hB2' : planB (gearO c md) (planO c md nt) = true := hB2
        simp only [cond_true, cycle_First, hB2']
        unfold beginR idleC legAt door0
        rw [Nat.mod_eq_of_lt (by have : placeP (planO c md nt) (planO c md nt).car < ((rowP (planO c md nt)).length : Int) := q2
                                 have : 0 ≤ placeP (planO c md nt) (planO c md nt).car := q1
                                 omega)]
      · have : 0 ≤ placeP (planO c md nt) (planO c md nt).car := q1
        exact absurd hneg (by omega)
  rw [this]

theorem run_newellaw23_AutoSettles (a0 : Auto) (a1 : List Bool) (hg : s_newellaw23_AutoSettles.wf (a0, a1, ())) : ∃ F d, run k82 F d 6 Try.f6 s_newellaw23_AutoSettles (a0, a1, ()) = some (AV.bool true) := by
  refine ⟨200, 6, ?_⟩
  rw [tree_newellaw23_AutoSettles]
  simp only [beqn, ble0, Bool.true_and, Bool.and_true, Bool.and_self, cond_true, cond_false]
  generalize hg0 : (bif bif bif !few10 a0.config then true else decide (((a1.length : Nat) : Int) > 60) then true else decide (a0.config.floors > 10) then true else decide (a0.config.times.travel > 6)) = g0
  cases g0 with
  | true => rfl
  | false =>
    have hf : few10 a0.config = true := by
      cases h : few10 a0.config
      · rw [h] at hg0
        simp at hg0
      · rfl
    have hsc : smallC a0.config = true := (few_small hf).1
    have hs0 : ∀ cr, smallA { config := a0.config, mode := a0.mode, nth := a0.nth, age := 0, car := cr } = true := fun cr => by simp [smallA, hsc]
    have hcn : smallCMN a0.config a0.mode a0.nth = true := hsc
    simp only [hsc, hs0, hcn, cond_true, cond_false]
    cases hc : (config_Check a0.config == 0) with
    | false =>
      have hne : config_Check a0.config ≠ 0 := by simpa using hc
      have e2 : auto_Settle a0.config = (0, config_Check a0.config) := by unfold auto_Settle; rw [hc]; rfl
      rw [e2]
      simp only [bne_not, hc, Bool.not_false, cond_true]
    | true =>
      have hck : config_Check a0.config = 0 := by simpa using hc
      have e2 : auto_Settle a0.config = (settleO a0.config, 0) := by unfold auto_Settle; rw [hc]; rfl
      rw [e2]
      cases he : (errAuto { config := a0.config, mode := a0.mode, nth := a0.nth, age := 0, car := a0.car } == 0) with
      | false => rw [inStep_bad he]; simp only [bne_not, he, beq_self_eq_true, Bool.not_true, Bool.not_false, cond_true, cond_false]
      | true =>
        have he' : errAuto { config := a0.config, mode := a0.mode, nth := a0.nth, age := 0, car := a0.car } = 0 := by simpa using he
        obtain ⟨h1, h2, h3⟩ := errAuto_zero he'
        have hset := settle_wrap hck
        have hs2 : settleO a0.config = a0.config.floors * a0.config.times.travel + 480 := rfl
        have hsm : ∀ cr, smallA { config := a0.config, mode := a0.mode, nth := a0.nth, age := settleO a0.config, car := cr } = true := fun cr => by
          simp only [smallA, Bool.and_eq_true, decide_eq_true_eq]
          exact ⟨hsc, by omega⟩
        have hH : auto_Home a0.config a0.mode a0.nth = (homeO a0.config a0.mode a0.nth, planO a0.config a0.mode a0.nth, 0) := by
          have h1' : errHome a0.config a0.mode a0.nth = 0 := h1
          unfold auto_Home; rw [h1']; rfl
        have hin : auto_InStep { config := a0.config, mode := a0.mode, nth := a0.nth, age := settleO a0.config, car := { floor := homeO a0.config a0.mode a0.nth, dir := 0, phase := 0, left := 0, door := { phase := 0, left := 0, held := 0 } } } = (true, 0) := settled he'
        rw [inStep_good he]
        simp only [hsm, hH, hin, bne_not, beq_self_eq_true, Bool.not_true, Bool.and_self, Bool.and_true, cond_true, cond_false]

end Go.Proofs.Ytdpdmjjpdebpeaa.Px.PxQ
