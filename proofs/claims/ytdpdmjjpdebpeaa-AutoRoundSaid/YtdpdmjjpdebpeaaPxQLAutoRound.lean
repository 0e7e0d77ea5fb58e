/- The law AutoRound. -/
import Derived.Test.YtdpdmjjpdebpeaaPxQProofs5
set_option linter.unusedVariables false
set_option linter.unusedSimpArgs false
namespace Go.Proofs.Ytdpdmjjpdebpeaa.Px.PxQ
open Go Go.Proofs
set_option linter.unusedSimpArgs false
set_option linter.unusedVariables false

theorem run_newellaw23_AutoRound (a0 : Auto) (a1 : Touch) (hg : s_newellaw23_AutoRound.wf (a0, a1, ())) : ∃ F d, run k84 F d 8 Try.f8 s_newellaw23_AutoRound (a0, a1, ()) = some (AV.bool true) := by
  refine ⟨200, 6, ?_⟩
  rw [tree_newellaw23_AutoRound]
  have ha : a0.age ≤ 9223372036854775807 := age_wf hg.1
  simp only [beqn, ble0, Bool.true_and, Bool.and_true, Bool.and_self, cond_true, cond_false]
  cases hf : few10 a0.config with
  | false => rfl
  | true =>
    have hs : smallA a0 = true := by
      simp only [smallA, Bool.and_eq_true, decide_eq_true_eq]
      exact ⟨(few_small hf).1, ha⟩
    have hsc : smallC a0.config = true := (few_small hf).1
    have hst : ∀ t, smallAT a0 t = true := fun _ => hs
    have hcm : smallCMN a0.config a0.mode a0.nth = true := hsc
    have hcn : smallCM a0.config a0.mode = true := hsc
    simp only [hs, hsc, hcm, hcn, hst, bne_not, Bool.not_true, Bool.not_false, Bool.true_or, cond_true, cond_false]
    cases hc : (config_Check a0.config == 0) with
    | false => rfl
    | true =>
      cases hp : plannedM a0.mode with
      | false =>
        unfold plannedM at hp
        simp only [Bool.or_eq_false_iff] at hp
        rw [hp.1, hp.2]
        rfl
      | true =>
        have e0 : (bif !(a0.mode == 1) then !(a0.mode == 2) else false) = false := by
          unfold plannedM at hp
          cases h1 : (a0.mode == 1) <;> cases h2 : (a0.mode == 2) <;> simp_all
        simp only [e0, Bool.not_true, cond_true, cond_false]
        cases h40 : decide (a0.age > 1099511627776) with
        | true => rfl
        | false =>
          have h40' : a0.age ≤ 1099511627776 := by simpa using h40
          cases he : (errAuto a0 == 0) with
          | false => rw [inStep_bad he]; simp only [he, Bool.not_false]; cases ((auto_Home a0.config a0.mode a0.nth).2.2 == 0) <;> rfl
          | true =>
            have he' : errAuto a0 = 0 := by simpa using he
            obtain ⟨h1, h2, h3⟩ := errAuto_zero he'
            have hH : auto_Home a0.config a0.mode a0.nth = (homeO a0.config a0.mode a0.nth, planO a0.config a0.mode a0.nth, 0) := by unfold auto_Home; rw [h1]; rfl
            have hGe : auto_Gear a0.config a0.mode = (gearO a0.config a0.mode, 0) := by unfold auto_Gear; rw [errGear_zero h1]; rfl
            have hSe : auto_Settle a0.config = (settleO a0.config, 0) := by unfold auto_Settle; rw [hc]; rfl
            rw [inStep_good he]
            simp only [hH, hGe, hSe, beq_self_eq_true, Bool.not_true, cond_true, cond_false]
            cases hi : inStepO a0 with
            | false => rfl
            | true =>
              obtain ⟨hG, hB, hl2, h64, hr, hL, hlen, hdf⟩ := round_facts he' hp
              obtain ⟨hs1, hcar⟩ := inStep_iff.1 hi
              obtain ⟨k1, _⟩ := errHome_zero h1
              have hset := settle_wrap k1
              have hset2 : settleO a0.config = a0.config.floors * a0.config.times.travel + 480 := rfl
              obtain ⟨s1, s2, s3, s4⟩ := stays (k := a1.key) (h := a1.held) he' (by unfold plannedM at hp; intro e; rw [e] at hp; cases hp) hi
              obtain ⟨s5, s6, s7⟩ := s4 hp
              have hgp : smallGP (gearO a0.config a0.mode) (planO a0.config a0.mode a0.nth) = true := by simp only [smallGP, smallP, decide_eq_true_eq]; omega
              have hgp3 : ∀ n, smallGP3 (gearO a0.config a0.mode) (planO a0.config a0.mode a0.nth) n = true := fun _ => hgp
              have w1 : IntKind.wrap IntKind.i64 (a0.age - settleO a0.config) = a0.age - settleO a0.config := IntWalk.i64_in _ (by omega)
              have w2 : IntKind.wrap IntKind.i64 (a0.age - settleO a0.config + 1) = a0.age - settleO a0.config + 1 := IntWalk.i64_in _ (by omega)
              have l0 : (lenP (gearO a0.config a0.mode) (planO a0.config a0.mode a0.nth) == 0) = false := beq_false_of_ne (by omega)
              have l1 : decide (lenP (gearO a0.config a0.mode) (planO a0.config a0.mode a0.nth) < 1) = false := by simp; omega
              have hso := (step_ok (t := ⟨a1.key, a1.held, false⟩) he').1
              have hc1 : (cycle_At (gearO a0.config a0.mode) (planO a0.config a0.mode a0.nth) ((a0.age - settleO a0.config).tmod (lenP (gearO a0.config a0.mode) (planO a0.config a0.mode a0.nth)))).1 = a0.car := by
                rw [hcar, stepCar_round hl2]
              have hc2 : (auto_Step a0 ⟨a1.key, a1.held, false⟩).1 = (cycle_At (gearO a0.config a0.mode) (planO a0.config a0.mode a0.nth) ((a0.age - settleO a0.config + 1).tmod (lenP (gearO a0.config a0.mode) (planO a0.config a0.mode a0.nth)))).1 := by
                rw [s1, stepCar_round hl2, show a0.age + 1 - settleO a0.config = a0.age - settleO a0.config + 1 by omega]
              have hhc := home_carB he' hp
              have s5' : (cycle_At (gearO a0.config a0.mode) (planO a0.config a0.mode a0.nth) ((a0.age - settleO a0.config).tmod (lenP (gearO a0.config a0.mode) (planO a0.config a0.mode a0.nth)))).2 = 0 := s5
              simp only [hB, hgp, hgp3, errOf, w1, w2, l0, l1, hso, hc1, hc2, s5', s6, car_Check, hhc, BEq.rfl, beq_self_eq_true, Bool.and_self, Bool.not_true, Bool.not_false, cond_true, cond_false]
              generalize (auto_Step a0 ⟨a1.key, a1.held, false⟩).2.1 = o at *
              rcases s7 with h | h
              · rw [h]; cases (o.door == 0) <;> rfl
              · rw [h]; rfl
end Go.Proofs.Ytdpdmjjpdebpeaa.Px.PxQ
