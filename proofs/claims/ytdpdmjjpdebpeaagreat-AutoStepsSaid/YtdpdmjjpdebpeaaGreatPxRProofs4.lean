/- A car in step stays so. -/
import Derived.Test.YtdpdmjjpdebpeaaGreatPxRProofs3
set_option linter.unusedVariables false
set_option linter.unusedSimpArgs false
namespace Go.Proofs.YtdpdmjjpdebpeaaGreat.Px.PxR
open Go Go.Proofs
set_option linter.unusedSimpArgs false
set_option linter.unusedVariables false

theorem tmod_succ {n x : Int} (h0 : 0 ≤ x) (hn : 0 < n) : Int.tmod (x + 1) n = if Int.tmod x n + 1 < n then Int.tmod x n + 1 else 0 := by
  rw [Int.tmod_eq_emod_of_nonneg (by omega), Int.tmod_eq_emod_of_nonneg h0]
  have h1 := Int.emod_nonneg x (show n ≠ 0 by omega)
  have h2 := Int.emod_lt_of_pos x hn
  rw [← Int.emod_add_emod]
  split
  · rename_i h
    exact Int.emod_eq_of_lt (by omega) h
  · rename_i h
    rw [show x % n + 1 = n by omega, Int.emod_self]

/-- What is known of a car that goes round. -/
theorem round_facts {a : Auto} (he : errAuto a = 0) (hp : plannedM a.mode = true) : gearB (gearO a.config a.mode) = true ∧ planB (gearO a.config a.mode) (planO a.config a.mode a.nth) = true ∧ 2 ≤ (planO a.config a.mode a.nth).stops.length ∧ (planO a.config a.mode a.nth).stops.length ≤ 64 ∧
    chkR (gearO a.config a.mode).floors none (planO a.config a.mode a.nth).stops = true ∧ (∀ i, 0 ≤ legAt (rowP (planO a.config a.mode a.nth)) i ∧ legAt (rowP (planO a.config a.mode a.nth)) i ≤ (gearO a.config a.mode).floors - 1) ∧ 0 < lenP (gearO a.config a.mode) (planO a.config a.mode a.nth) ∧ deafM a.mode = true := by
  obtain ⟨h1, h2, h3⟩ := errAuto_zero he
  obtain ⟨k1, k2, k3, k4⟩ := errHome_zero h1
  obtain ⟨p1, p2, p3, p4, p5⟩ := plan_may k1 hp k3 k4
  have hr := (planB_iff.1 p1).2.2.2.2.2.1
  refine ⟨gear_may k1 _, p1, p3, p2, hr, legAt_floors p3 hr, len_pos p1, ?_⟩
  unfold plannedM at hp
  unfold deafM
  cases h : (a.mode == 1) <;> simp_all

theorem phase_in {a : Auto} (he : errAuto a = 0) (hp : plannedM a.mode = true) (hs : settleO a.config ≤ a.age) : 0 ≤ phaseO a ∧ phaseO a < lenP (gearO a.config a.mode) (planO a.config a.mode a.nth) := by
  obtain ⟨_, _, _, _, _, _, h, _⟩ := round_facts he hp
  exact ⟨Int.tmod_nonneg _ (by omega), Int.tmod_lt_of_pos _ h⟩

theorem stepCar_round {c : Config} {mode nth age : Int} (h : 2 ≤ (planO c mode nth).stops.length) : stepCar c mode nth age = (cycle_At (gearO c mode) (planO c mode nth) ((age - settleO c).tmod (lenP (gearO c mode) (planO c mode nth)))).1 := by
  unfold stepCar
  have : ((planO c mode nth).stops.length == 0) = false := beq_false_of_ne (by omega)
  rw [this]
  rfl

theorem stepCar_home {c : Config} {mode nth age : Int} (h : plannedM mode = false) : stepCar c mode nth age = idleC c.park := by
  unfold stepCar homeO
  rw [plan_none h, h]
  rfl

theorem told_round {a : Auto} {k : Bool} (he : errAuto a = 0) (hp : plannedM a.mode = true) (hi : inStepO a = true) : toldO a k = (cycle_Cmd (gearO a.config a.mode) (planO a.config a.mode a.nth) (phaseO a)).1 := by
  obtain ⟨_, _, h2, _⟩ := round_facts he hp
  obtain ⟨hs, _⟩ := inStep_iff.1 hi
  have h1 : decide (a.age < settleO a.config) = false := by simp; omega
  have h0 : ((planO a.config a.mode a.nth).stops.length == 0) = false := beq_false_of_ne (by omega)
  have h3 : decide ((movesA a).plan.stops.length > 0) = true := by
    simp only [decide_eq_true_eq]
    show (planO a.config a.mode a.nth).stops.length > 0
    omega
  have h4 : (tickM a (movesA a)).1 = phaseO a := by
    unfold tickM
    rw [h1, cond_false]
    show (cond ((planO a.config a.mode a.nth).stops.length == 0) _ _ : Int × Bool).1 = _
    rw [h0]
    rfl
  have h5 : (tickM a (movesA a)).2 = true := hi
  unfold toldO toldM
  rw [h5, h3, h4]
  rfl

theorem told_idle {a : Auto} {k : Bool} (hm : a.mode ≠ 4) (hp : plannedM a.mode = false) (hi : inStepO a = true) : toldO a k = 0 := by
  have h3 : decide ((movesA a).plan.stops.length > 0) = false := by
    have : (movesA a).plan.stops.length = 0 := by
      show (planO a.config a.mode a.nth).stops.length = 0
      rw [plan_none hp]; rfl
    rw [this]; rfl
  have h5 : (tickM a (movesA a)).2 = true := hi
  have e : (a.mode == 4) = false := by simpa using hm
  unfold toldO toldM
  rw [h5, h3, e]
  simp only [Bool.and_false, cond_false, cond_true]

/-- **A car in step stays so.** -/
theorem stays {a : Auto} {k h : Bool} (he : errAuto a = 0) (hm4 : a.mode ≠ 4) (hi : inStepO a = true) :
    (auto_Step a ⟨k, h, false⟩).1 = stepCar a.config a.mode a.nth (a.age + 1) ∧ carB a.config.floors (stepCar a.config a.mode a.nth (a.age + 1)) = true ∧ (a.mode = 3 → (auto_Step a ⟨k, h, false⟩).2.1 = ⟨0, 0, a.config.park, false⟩) ∧
    (plannedM a.mode = true → (cycle_At (gearO a.config a.mode) (planO a.config a.mode a.nth) (phaseO a)).2 = 0 ∧ (cycle_At (gearO a.config a.mode) (planO a.config a.mode a.nth) ((a.age - settleO a.config + 1).tmod (lenP (gearO a.config a.mode) (planO a.config a.mode a.nth)))).2 = 0 ∧
      ((auto_Step a ⟨k, h, false⟩).2.1.motor = 0 ∨ (auto_Step a ⟨k, h, false⟩).2.1.door = 0)) := by
  obtain ⟨hs, hcar⟩ := inStep_iff.1 hi
  obtain ⟨_, hst⟩ := step_ok (t := ⟨k, h, false⟩) he
  rw [hst]
  cases hp : plannedM a.mode with
  | true =>
    obtain ⟨hG, hB, h2, h64, hr, hL, hlen, hdf⟩ := round_facts he hp
    obtain ⟨q1, q2⟩ := phase_in he hp hs
    obtain ⟨r1, r2, r3, hgo⟩ := goes_phase hG hB h2 hr hL q1 q2
    have hnx : (a.age - settleO a.config + 1).tmod (lenP (gearO a.config a.mode) (planO a.config a.mode a.nth)) = if phaseO a + 1 < lenP (gearO a.config a.mode) (planO a.config a.mode a.nth) then phaseO a + 1 else 0 := tmod_succ (by omega) hlen
    have hca : a.car = (cycle_At (gearO a.config a.mode) (planO a.config a.mode a.nth) (phaseO a)).1 := by
      rw [hcar, stepCar_round h2]
      rfl
    have hnc : stepCar a.config a.mode a.nth (a.age + 1) = (cycle_At (gearO a.config a.mode) (planO a.config a.mode a.nth) (if phaseO a + 1 < lenP (gearO a.config a.mode) (planO a.config a.mode a.nth) then phaseO a + 1 else 0)).1 := by
      rw [stepCar_round h2, show a.age + 1 - settleO a.config = a.age - settleO a.config + 1 by omega, hnx]
    have hq' : 0 ≤ (if phaseO a + 1 < lenP (gearO a.config a.mode) (planO a.config a.mode a.nth) then phaseO a + 1 else 0) ∧ (if phaseO a + 1 < lenP (gearO a.config a.mode) (planO a.config a.mode a.nth) then phaseO a + 1 else 0) < lenP (gearO a.config a.mode) (planO a.config a.mode a.nth) := by
      split <;> omega
    obtain ⟨_, _, _, hgo'⟩ := goes_phase hG hB h2 hr hL hq'.1 hq'.2
    have htold : toldO a k = (cycle_Cmd (gearO a.config a.mode) (planO a.config a.mode a.nth) (phaseO a)).1 := told_round he hp hi
    have hmost : (gearO a.config a.mode).most = 0 := by
      show cond (deafM a.mode) 0 a.config.times.hold = 0
      rw [hdf]; rfl
    rw [hnc, hnx]
    obtain ⟨ok, next, safe, idle, held⟩ := hgo
    have hok' := hgo'.ok
    simp only [stepOk, carOk, Bool.and_eq_true] at hok'
    have e : stepC (gearO a.config a.mode) a.car ⟨toldO a k, h, false⟩ = stepC (gearO a.config a.mode) (cycle_At (gearO a.config a.mode) (planO a.config a.mode a.nth) (phaseO a)).1 ⟨(cycle_Cmd (gearO a.config a.mode) (planO a.config a.mode a.nth) (phaseO a)).1, false, false⟩ := by
      rw [htold, hca]
      exact stepC_held (.inr (by rw [hmost, held]; decide))
    refine ⟨?_, hok'.1.2, fun h3 => ?_, fun _ => ⟨r1, r3, ?_⟩⟩
    · simp only [e, next]
    · rw [h3] at hp; cases hp
    · simp only [e]
      exact safe
  | false =>
    have hca : a.car = idleC a.config.park := by rw [hcar, stepCar_home hp]
    have htold : toldO a k = 0 := told_idle hm4 hp hi
    obtain ⟨h1, h2, h3⟩ := errAuto_zero he
    rw [stepCar_home hp]
    simp only [htold, hca]
    refine ⟨rfl, by rw [← hca]; exact h3, fun _ => rfl, fun h => by cases h⟩

theorem stays_err {a : Auto} {c : Car} (he : errAuto a = 0) (hc : carB a.config.floors c = true) : errAuto { config := a.config, mode := a.mode, nth := a.nth, age := a.age + 1, car := c } = 0 := by
  obtain ⟨h1, h2, h3⟩ := errAuto_zero he
  have e1 : (errHome a.config a.mode a.nth == 0) = true := by rw [h1]; rfl
  have e2 : decide (a.age + 1 < 0) = false := by simp; omega
  unfold errAuto
  simp only [e1, e2, hc]
  rfl

theorem stays_in {a : Auto} (hs : settleO a.config ≤ a.age) : inStepO { config := a.config, mode := a.mode, nth := a.nth, age := a.age + 1, car := stepCar a.config a.mode a.nth (a.age + 1) } = true := by
  rw [inStep_iff]
  exact ⟨by show settleO a.config ≤ a.age + 1; omega, rfl⟩

end Go.Proofs.YtdpdmjjpdebpeaaGreat.Px.PxR
