/- The law AutoStays. -/
import Derived.Test.YtdpdmjjpdebpeaaPxQProofs5
set_option linter.unusedVariables false
set_option linter.unusedSimpArgs false
namespace Go.Proofs.Ytdpdmjjpdebpeaa.Px.PxQ
open Go Go.Proofs
set_option linter.unusedSimpArgs false
set_option linter.unusedVariables false

theorem run_newellaw23_AutoStays (a0 : Auto) (a1 : Touch) (hg : s_newellaw23_AutoStays.wf (a0, a1, ())) : ∃ F d, run k83 F d 5 Try.f5 s_newellaw23_AutoStays (a0, a1, ()) = some (AV.bool true) := by
  refine ⟨200, 6, ?_⟩
  rw [tree_newellaw23_AutoStays]
  have ha : a0.age ≤ 9223372036854775807 := age_wf hg.1
  simp only [beqn, ble0, Bool.true_and, Bool.and_true, Bool.and_self, cond_true, cond_false]
  cases hf : few10 a0.config with
  | false => rfl
  | true =>
    have hs : smallA a0 = true := by simp [smallA, (few_small hf).1, ha]
    have hst : ∀ t, smallAT a0 t = true := fun _ => hs
    cases h4 : (a0.mode == 4) with
    | true => rfl
    | false =>
      cases h5 : (a0.age == 9223372036854775807) with
      | true => rfl
      | false =>
        simp only [hs, hst, Bool.not_true, cond_true, cond_false]
        cases he : (errAuto a0 == 0) with
        | false => rw [inStep_bad he]; simp only [bne_not, he, Bool.not_false, cond_true]
        | true =>
          rw [inStep_good he]
          simp only [bne_not, beq_self_eq_true, Bool.not_true, cond_false]
          cases hi : inStepO a0 with
          | false => rfl
          | true =>
            have he' : errAuto a0 = 0 := by simpa using he
            have hm : a0.mode ≠ 4 := by simpa using h4
            have hag : a0.age ≠ 9223372036854775807 := by simpa using h5
            obtain ⟨hs1, _⟩ := inStep_iff.1 hi
            obtain ⟨h1, h2, h3⟩ := errAuto_zero he'
            have hw : IntKind.wrap IntKind.i64 (a0.age + 1) = a0.age + 1 := IntWalk.i64_in _ (by omega)
            obtain ⟨s1, s2, s3, s4⟩ := stays (k := a1.key) (h := a1.held) he' hm hi
            have hso := (step_ok (t := ⟨a1.key, a1.held, false⟩) he').1
            rw [s1, hw, hso]
            have hb := stays_err he' s2
            have hbi := stays_in hs1
            have hbs : smallA { config := a0.config, mode := a0.mode, nth := a0.nth, age := a0.age + 1, car := stepCar a0.config a0.mode a0.nth (a0.age + 1) } = true := by
              simp only [smallA, Bool.and_eq_true, decide_eq_true_eq]
              exact ⟨(few_small hf).1, by omega⟩
            have e2 : auto_InStep { config := a0.config, mode := a0.mode, nth := a0.nth, age := a0.age + 1, car := stepCar a0.config a0.mode a0.nth (a0.age + 1) } = (true, 0) := by
              rw [inStep_good (by rw [hb]; rfl), hbi]
            simp only [hbs, e2, cond_true, cond_false, Bool.not_true, BEq.rfl, beq_self_eq_true]
            cases h6 : (a0.mode == 3) with
            | false => rfl
            | true =>
              rw [s3 (by simpa using h6)]
              simp only [BEq.rfl, beq_self_eq_true, Bool.and_self, Bool.not_true, cond_true, cond_false]
end Go.Proofs.Ytdpdmjjpdebpeaa.Px.PxQ
