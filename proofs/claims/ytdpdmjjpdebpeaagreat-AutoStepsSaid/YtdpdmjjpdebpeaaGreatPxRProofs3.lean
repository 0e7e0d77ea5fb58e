/- The laws of a car that goes by itself. -/
import Derived.Test.YtdpdmjjpdebpeaaGreatPxRProofs2
set_option linter.unusedVariables false
set_option linter.unusedSimpArgs false
namespace Go.Proofs.YtdpdmjjpdebpeaaGreat.Px.PxR
open Go Go.Proofs
set_option linter.unusedSimpArgs false
set_option linter.unusedVariables false

theorem age_wf {a : Auto} (h : dAuto.wf a) : a.age ≤ 9223372036854775807 := by
  have h1 : (([AV.int .i64 a.age] : List AV).all cellWf) = true := h.2.2.2.1
  simp only [List.all_cons, List.all_nil, Bool.and_true, cellWf] at h1
  simp only [Lit.wf, Bool.and_eq_true, decide_eq_true_eq] at h1
  have e : IntKind.i64.max = 9223372036854775807 := by decide
  omega

theorem held_nonneg {g : Gear} {c : Car} (h : carOk g c = true) : 0 ≤ c.door.held := by
  simp only [carOk, Bool.and_eq_true, carB_iff] at h
  have hd := doorB_iff.1 h.2.2.2.1
  rcases hd with h | h | h <;> omega

theorem car_deaf {g : Gear} {c : Car} {cmd : Int} {h h' f : Bool} (hg : g.most ≤ 0) : car_Step g c ⟨cmd, h, f⟩ = car_Step g c ⟨cmd, h', f⟩ := by
  have e : stepOk g c ⟨cmd, h, f⟩ = stepOk g c ⟨cmd, h', f⟩ := rfl
  have e2 : stepOk g c ⟨cmd, h', f⟩ = true → stepC g c ⟨cmd, h, f⟩ = stepC g c ⟨cmd, h', f⟩ := by
    intro hs
    simp only [stepOk, Bool.and_eq_true] at hs
    have := held_nonneg hs.1
    cases f
    · rw [stepC_held (held := h) (.inr (by omega)), stepC_held (held := h') (.inr (by omega))]
    · rfl
  unfold car_Step
  rw [e]
  cases hs : stepOk g c ⟨cmd, h', f⟩
  · rfl
  · rw [e2 hs]

theorem told_key {a : Auto} {k k' : Bool} (h : a.mode ≠ 4) : toldO a k = toldO a k' := by
  have e : (a.mode == 4) = false := by simpa using h
  unfold toldO toldM
  simp only [e, Bool.and_false]

theorem step_deaf {a : Auto} {k h k' h' f : Bool} (hm : errAuto a = 0 → a.mode ≤ 3) : auto_Step a ⟨k, h, f⟩ = auto_Step a ⟨k', h', f⟩ := by
  unfold auto_Step
  cases he : (errAuto a == 0)
  · rfl
  · have he' : errAuto a = 0 := by simpa using he
    have h3 := hm he'
    obtain ⟨h1, _⟩ := errAuto_zero he'
    obtain ⟨_, h2, _⟩ := errHome_zero h1
    have hd : deafM a.mode = true := by
      have : a.mode = 1 ∨ a.mode = 2 ∨ a.mode = 3 := by omega
      unfold deafM
      rcases this with h | h | h <;> rw [h] <;> rfl
    have hmost : (gearO a.config a.mode).most ≤ 0 := by
      show cond (deafM a.mode) 0 a.config.times.hold ≤ 0
      rw [hd]; exact Int.le_refl _
    have e : stepA a ⟨k, h, f⟩ = stepA a ⟨k', h', f⟩ := by
      unfold stepA
      rw [told_key (k := k) (k' := k') (by omega)]
      exact car_deaf hmost
    rw [e]


/-- The car that one in step is. -/
def stepCar (c : Config) (mode nth age : Int) : Car := cond ((planO c mode nth).stops.length == 0) (idleC (homeO c mode nth)) (cycle_At (gearO c mode) (planO c mode nth) ((age - settleO c).tmod (lenP (gearO c mode) (planO c mode nth)))).1

theorem inStep_iff {a : Auto} : inStepO a = true ↔ settleO a.config ≤ a.age ∧ a.car = stepCar a.config a.mode a.nth a.age := by
  unfold inStepO tickM stepCar
  cases h : decide (a.age < settleO a.config)
  · have h' : settleO a.config ≤ a.age := by simpa using h
    show (cond ((planO a.config a.mode a.nth).stops.length == 0) _ _ : Int × Bool).2 = true ↔ _
    cases h0 : ((planO a.config a.mode a.nth).stops.length == 0)
    · simp only [cond_false, decide_eq_true_eq, h', true_and]
      exact Iff.rfl
    · simp only [cond_true, decide_eq_true_eq, h', true_and]
      exact Iff.rfl
  · have h' : ¬ settleO a.config ≤ a.age := by simpa using h
    simp [h']

theorem step_ok {a : Auto} {t : Touch} (he : errAuto a = 0) : (auto_Step a t).2.2 = 0 ∧ auto_Step a t = ((stepC (gearO a.config a.mode) a.car ⟨toldO a t.key, t.held, t.fault⟩).c, (stepC (gearO a.config a.mode) a.car ⟨toldO a t.key, t.held, t.fault⟩).o, 0) := by
  obtain ⟨h1, h2, h3⟩ := errAuto_zero he
  obtain ⟨k1, _⟩ := errHome_zero h1
  have hc : carOk (gearO a.config a.mode) a.car = true := by
    simp only [carOk, Bool.and_eq_true]
    exact ⟨gear_may k1 _, h3⟩
  have hso : stepOk (gearO a.config a.mode) a.car ⟨toldO a t.key, t.held, t.fault⟩ = true := by
    simp only [stepOk, Bool.and_eq_true]
    exact ⟨hc, told_range⟩
  have hw : wthin (toldO a t.key) 0 3 = true := told_range
  have e : auto_Step a t = ((stepC (gearO a.config a.mode) a.car ⟨toldO a t.key, t.held, t.fault⟩).c, (stepC (gearO a.config a.mode) a.car ⟨toldO a t.key, t.held, t.fault⟩).o, 0) := by
    unfold auto_Step stepA car_Step
    rw [he, hso, hc, hw]
    rfl
  exact ⟨by rw [e], e⟩

theorem few_twins {q : Twins} (hw : dTwins.wf q) (hf : few10 q.a.config = true) : smallA q.a = true := by
  have := age_wf hw.1
  simp [smallA, (few_small hf).1, this]


theorem inStep_bad {a : Auto} (h : (errAuto a == 0) = false) : auto_InStep a = (false, errAuto a) := by
  unfold auto_InStep
  rw [h]
  rfl

theorem inStep_good {a : Auto} (h : (errAuto a == 0) = true) : auto_InStep a = (inStepO a, 0) := by
  unfold auto_InStep
  rw [h]
  rfl
end Go.Proofs.YtdpdmjjpdebpeaaGreat.Px.PxR
