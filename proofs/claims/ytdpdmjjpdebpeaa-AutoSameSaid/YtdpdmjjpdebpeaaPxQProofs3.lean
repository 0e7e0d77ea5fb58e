/- The laws of a car that goes by itself. -/
import Derived.Test.YtdpdmjjpdebpeaaPxQProofs2
set_option linter.unusedVariables false
set_option linter.unusedSimpArgs false
namespace Go.Proofs.Ytdpdmjjpdebpeaa.Px.PxQ
open Go Go.Proofs
set_option linter.unusedSimpArgs false
set_option linter.unusedVariables false

theorem stC_eq (a : Auto) (k h f : Bool) : (bif errAuto a == 0 then bif stepOk (gearO a.config a.mode) a.car ⟨toldO a k, h, f⟩ then (stepC (gearO a.config a.mode) a.car ⟨toldO a k, h, f⟩).c else car0 else car0) = (auto_Step a ⟨k, h, f⟩).1 := by simp only [auto_Step, auto_InStep, stepA, car_Step, stepC, cond_false]
theorem stO_eq (a : Auto) (k h f : Bool) : (bif errAuto a == 0 then bif stepOk (gearO a.config a.mode) a.car ⟨toldO a k, h, f⟩ then (stepC (gearO a.config a.mode) a.car ⟨toldO a k, h, f⟩).o else out0 else out0) = (auto_Step a ⟨k, h, f⟩).2.1 := by simp only [auto_Step, auto_InStep, stepA, car_Step, stepC, cond_false]
theorem stC0_eq (a : Auto) (k h : Bool) : (bif errAuto a == 0 then bif stepOk (gearO a.config a.mode) a.car ⟨toldO a k, h, false⟩ then tickC (gearO a.config a.mode) (begunC (gearO a.config a.mode) a.car (toldO a k)) h else car0 else car0) = (auto_Step a ⟨k, h, false⟩).1 := by simp only [auto_Step, auto_InStep, stepA, car_Step, stepC, cond_false]
theorem stO0_eq (a : Auto) (k h : Bool) : (bif errAuto a == 0 then bif stepOk (gearO a.config a.mode) a.car ⟨toldO a k, h, false⟩ then ({ motor := (begunC (gearO a.config a.mode) a.car (toldO a k)).dir, door := a.car.door.phase, floor := a.car.floor, chime := a.car.phase == 3 && (stepD (gearO a.config a.mode) a.car.door h).chime } : OutT) else out0 else out0) = (auto_Step a ⟨k, h, false⟩).2.1 := by simp only [auto_Step, auto_InStep, stepA, car_Step, stepC, cond_false]
theorem stE_eq (a : Auto) (k : Bool) : (bif errAuto a == 0 then bif carOk (gearO a.config a.mode) a.car then errOf (wthin (toldO a k) 0 3) 181 else 180 else errAuto a) = (auto_Step a ⟨k, false, false⟩).2.2 := by simp only [auto_Step, auto_InStep, stepA, car_Step, stepC, cond_false]
theorem inS_eq (a : Auto) : (bif errAuto a == 0 then inStepO a else false) = (auto_InStep a).1 := by simp only [auto_Step, auto_InStep, stepA, car_Step, stepC, cond_false]

theorem stCm_eq (cf : Config) (md nt ag : Int) (cr : Car) (k h f : Bool) : (bif errAuto ({ config := cf, mode := md, nth := nt, age := ag, car := cr } : Auto) == 0 then bif stepOk (gearO cf md) cr ⟨toldO ({ config := cf, mode := md, nth := nt, age := ag, car := cr } : Auto) k, h, f⟩ then (stepC (gearO cf md) cr ⟨toldO ({ config := cf, mode := md, nth := nt, age := ag, car := cr } : Auto) k, h, f⟩).c else car0 else car0) = (auto_Step ({ config := cf, mode := md, nth := nt, age := ag, car := cr } : Auto) ⟨k, h, f⟩).1 := stC_eq ({ config := cf, mode := md, nth := nt, age := ag, car := cr } : Auto) k h f
theorem stOm_eq (cf : Config) (md nt ag : Int) (cr : Car) (k h f : Bool) : (bif errAuto ({ config := cf, mode := md, nth := nt, age := ag, car := cr } : Auto) == 0 then bif stepOk (gearO cf md) cr ⟨toldO ({ config := cf, mode := md, nth := nt, age := ag, car := cr } : Auto) k, h, f⟩ then (stepC (gearO cf md) cr ⟨toldO ({ config := cf, mode := md, nth := nt, age := ag, car := cr } : Auto) k, h, f⟩).o else out0 else out0) = (auto_Step ({ config := cf, mode := md, nth := nt, age := ag, car := cr } : Auto) ⟨k, h, f⟩).2.1 := stO_eq ({ config := cf, mode := md, nth := nt, age := ag, car := cr } : Auto) k h f
theorem stEm_eq (cf : Config) (md nt ag : Int) (cr : Car) (k : Bool) : (bif errAuto ({ config := cf, mode := md, nth := nt, age := ag, car := cr } : Auto) == 0 then bif carOk (gearO cf md) cr then errOf (wthin (toldO ({ config := cf, mode := md, nth := nt, age := ag, car := cr } : Auto) k) 0 3) 181 else 180 else errAuto ({ config := cf, mode := md, nth := nt, age := ag, car := cr } : Auto)) = (auto_Step ({ config := cf, mode := md, nth := nt, age := ag, car := cr } : Auto) ⟨k, false, false⟩).2.2 := stE_eq ({ config := cf, mode := md, nth := nt, age := ag, car := cr } : Auto) k

theorem age_wf {a : Auto} (h : dAuto.wf a) : a.age ≤ 9223372036854775807 := by
  have h1 : (([AV.int .i64 a.age] : List AV).all cellWf) = true := h.2.2.2.1
  simp only [List.all_cons, List.all_nil, Bool.and_true, cellWf] at h1
  simp only [Lit.wf, Bool.and_eq_true, decide_eq_true_eq] at h1
  have e : IntKind.i64.max = 9223372036854775807 := by decide
  omega

theorem held_nonneg {g : Gear} {c : Car} (h : carOk g c = true) : 0 ≤ c.door.held := by
  simp only [carOk, Bool.and_eq_true, carB_iff] at h
  have hd := doorB_iff.1 h.2.2.2.1
  rcases hd with h | h | h <;> omega

theorem car_deaf {g : Gear} {c : Car} {cmd : Int} {h h' f : Bool} (hg : g.most ≤ 0) : car_Step g c ⟨cmd, h, f⟩ = car_Step g c ⟨cmd, h', f⟩ := by
  have e : stepOk g c ⟨cmd, h, f⟩ = stepOk g c ⟨cmd, h', f⟩ := rfl
  have e2 : stepOk g c ⟨cmd, h', f⟩ = true → stepC g c ⟨cmd, h, f⟩ = stepC g c ⟨cmd, h', f⟩ := by
    intro hs
    simp only [stepOk, Bool.and_eq_true] at hs
    have := held_nonneg hs.1
    cases f
    · rw [stepC_held (held := h) (.inr (by omega)), stepC_held (held := h') (.inr (by omega))]
    · rfl
  unfold car_Step
  rw [e]
  cases hs : stepOk g c ⟨cmd, h', f⟩
  · rfl
  · rw [e2 hs]

theorem told_key {a : Auto} {k k' : Bool} (h : a.mode ≠ 4) : toldO a k = toldO a k' := by
  have e : (a.mode == 4) = false := by simpa using h
  unfold toldO toldM
  simp only [e, Bool.and_false]

theorem step_deaf {a : Auto} {k h k' h' f : Bool} (hm : errAuto a = 0 → a.mode ≤ 3) : auto_Step a ⟨k, h, f⟩ = auto_Step a ⟨k', h', f⟩ := by
  unfold auto_Step
  cases he : (errAuto a == 0)
  · rfl
  · have he' : errAuto a = 0 := by simpa using he
    have h3 := hm he'
    obtain ⟨h1, _⟩ := errAuto_zero he'
    obtain ⟨_, h2, _⟩ := errHome_zero h1
    have hd : deafM a.mode = true := by
      have : a.mode = 1 ∨ a.mode = 2 ∨ a.mode = 3 := by omega
      unfold deafM
      rcases this with h | h | h <;> rw [h] <;> rfl
    have hmost : (gearO a.config a.mode).most ≤ 0 := by
      show cond (deafM a.mode) 0 a.config.times.hold ≤ 0
      rw [hd]; exact Int.le_refl _
    have e : stepA a ⟨k, h, f⟩ = stepA a ⟨k', h', f⟩ := by
      unfold stepA
      rw [told_key (k := k) (k' := k') (by omega)]
      exact car_deaf hmost
    rw [e]

theorem run_newellaw23_AutoDeaf (a0 : Auto) (a1 : Touch) (hg : s_newellaw23_AutoDeaf.wf (a0, a1, ())) : ∃ F d, run k81 F d 4 Try.f4 s_newellaw23_AutoDeaf (a0, a1, ()) = some (AV.bool true) := by
  refine ⟨200, 6, ?_⟩
  rw [tree_newellaw23_AutoDeaf]
  have ha := age_wf hg.1
  simp only [beqn, ble0, Bool.true_and, Bool.and_true, Bool.and_self, cond_true, cond_false]
  cases hf : few10 a0.config with
  | false => rfl
  | true =>
    have hs : smallA a0 = true := by simp [smallA, (few_small hf).1, ha]
    have hst : ∀ t, smallAT a0 t = true := fun _ => hs
    cases h4 : (a0.mode == 4) with
    | true => rfl
    | false =>
      cases h5 : (a0.mode == 5) with
      | true => rfl
      | false =>
        have hm : errAuto a0 = 0 → a0.mode ≤ 3 := by
          intro he
          obtain ⟨h1, _⟩ := errAuto_zero he
          obtain ⟨_, h2, _⟩ := errHome_zero h1
          simp only [beq_eq_false_iff_ne, ne_eq] at h4 h5
          omega
        simp only [hs, hst, stC_eq, stO_eq, stE_eq, Bool.not_true, cond_true, cond_false]
        rw [step_deaf (k := a1.key) (h := a1.held) (f := a1.fault) (k' := false) (h' := false) hm, step_deaf (k := a1.key) (h := false) (f := false) (k' := false) (h' := false) hm]
        simp only [BEq.rfl, Bool.and_self, cond_true, beq_self_eq_true]

/-- The car that one in step is. -/
def stepCar (c : Config) (mode nth age : Int) : Car := cond ((planO c mode nth).stops.length == 0) (idleC (homeO c mode nth)) (cycle_At (gearO c mode) (planO c mode nth) ((age - settleO c).tmod (lenP (gearO c mode) (planO c mode nth)))).1

theorem inStep_iff {a : Auto} : inStepO a = true ↔ settleO a.config ≤ a.age ∧ a.car = stepCar a.config a.mode a.nth a.age := by
  unfold inStepO tickM stepCar
  cases h : decide (a.age < settleO a.config)
  · have h' : settleO a.config ≤ a.age := by simpa using h
    show (cond ((planO a.config a.mode a.nth).stops.length == 0) _ _ : Int × Bool).2 = true ↔ _
    cases h0 : ((planO a.config a.mode a.nth).stops.length == 0)
    · simp only [cond_false, decide_eq_true_eq, h', true_and]
      exact Iff.rfl
    · simp only [cond_true, decide_eq_true_eq, h', true_and]
      exact Iff.rfl
  · have h' : ¬ settleO a.config ≤ a.age := by simpa using h
    simp [h']

theorem step_ok {a : Auto} {t : Touch} (he : errAuto a = 0) : (auto_Step a t).2.2 = 0 ∧ auto_Step a t = ((stepC (gearO a.config a.mode) a.car ⟨toldO a t.key, t.held, t.fault⟩).c, (stepC (gearO a.config a.mode) a.car ⟨toldO a t.key, t.held, t.fault⟩).o, 0) := by
  obtain ⟨h1, h2, h3⟩ := errAuto_zero he
  obtain ⟨k1, _⟩ := errHome_zero h1
  have hc : carOk (gearO a.config a.mode) a.car = true := by
    simp only [carOk, Bool.and_eq_true]
    exact ⟨gear_may k1 _, h3⟩
  have hso : stepOk (gearO a.config a.mode) a.car ⟨toldO a t.key, t.held, t.fault⟩ = true := by
    simp only [stepOk, Bool.and_eq_true]
    exact ⟨hc, told_range⟩
  have hw : wthin (toldO a t.key) 0 3 = true := told_range
  have e : auto_Step a t = ((stepC (gearO a.config a.mode) a.car ⟨toldO a t.key, t.held, t.fault⟩).c, (stepC (gearO a.config a.mode) a.car ⟨toldO a t.key, t.held, t.fault⟩).o, 0) := by
    unfold auto_Step stepA car_Step
    rw [he, hso, hc, hw]
    rfl
  exact ⟨by rw [e], e⟩

theorem few_twins {q : Twins} (hw : dTwins.wf q) (hf : few10 q.a.config = true) : smallA q.a = true := by
  have := age_wf hw.1
  simp [smallA, (few_small hf).1, this]

theorem run_newellaw23_AutoSame (a0 : Twins) (hg : s_newellaw23_AutoSame.wf (a0, ())) : ∃ F d, run k82 F d 7 Try.f7 s_newellaw23_AutoSame (a0, ()) = some (AV.bool true) := by
  refine ⟨200, 6, ?_⟩
  rw [tree_newellaw23_AutoSame]
  simp only [beqn, ble0, Bool.true_and, Bool.and_true, Bool.and_self, cond_true, cond_false]
  cases hf : few10 a0.a.config with
  | false => rfl
  | true =>
    have hs := few_twins hg.1 hf
    obtain ⟨⟨cf, md, nt, ag, cr⟩, c, t, o⟩ := a0
    simp only at hs hf ⊢
    have hs2 : smallA { config := cf, mode := md, nth := nt, age := ag, car := c } = true := hs
    have hst : ∀ t, smallAT { config := cf, mode := md, nth := nt, age := ag, car := cr } t = true := fun _ => hs
    have hst2 : ∀ t, smallAT { config := cf, mode := md, nth := nt, age := ag, car := c } t = true := fun _ => hs
    simp only [hs, hs2, hst, hst2, stCm_eq, stOm_eq, stEm_eq, inS_eq, Bool.not_true, cond_true, cond_false]
    cases h4 : decide (md ≥ 4) with
    | true => rfl
    | false =>
      have hm : md ≤ 3 := by simp at h4; omega
      simp only [bne_not, cond_false]
      cases he : (errAuto { config := cf, mode := md, nth := nt, age := ag, car := cr } == 0) with
      | false => rfl
      | true =>
        cases he2 : (errAuto { config := cf, mode := md, nth := nt, age := ag, car := c } == 0) with
        | false => rfl
        | true =>
          have e1 : (auto_InStep { config := cf, mode := md, nth := nt, age := ag, car := cr }).1 = inStepO { config := cf, mode := md, nth := nt, age := ag, car := cr } := by unfold auto_InStep; rw [he]; rfl
          have e2 : (auto_InStep { config := cf, mode := md, nth := nt, age := ag, car := c }).1 = inStepO { config := cf, mode := md, nth := nt, age := ag, car := c } := by unfold auto_InStep; rw [he2]; rfl
          rw [e1, e2]
          simp only [Bool.not_true, cond_false]
          cases hi : inStepO { config := cf, mode := md, nth := nt, age := ag, car := cr } with
          | false => rfl
          | true =>
            cases hi2 : inStepO { config := cf, mode := md, nth := nt, age := ag, car := c } with
            | false => rfl
            | true =>
              have c1 := (inStep_iff.1 hi).2
              have c2 := (inStep_iff.1 hi2).2
              simp only at c1 c2
              have hcc : cr = c := by rw [c1, c2]
              subst hcc
              have he' : errAuto { config := cf, mode := md, nth := nt, age := ag, car := cr } = 0 := by simpa using he
              have hd := fun k h f k' h' => step_deaf (a := { config := cf, mode := md, nth := nt, age := ag, car := cr }) (k := k) (h := h) (f := f) (k' := k') (h' := h') (fun _ => hm)
              rw [hd t.key t.held t.fault false false, hd o.key o.held t.fault false false, hd t.key false false false false, hd o.key false false false false, (step_ok he').1]
              simp only [BEq.rfl, Bool.not_true, Bool.and_self, cond_true, cond_false, beq_self_eq_true]
end Go.Proofs.Ytdpdmjjpdebpeaa.Px.PxQ
