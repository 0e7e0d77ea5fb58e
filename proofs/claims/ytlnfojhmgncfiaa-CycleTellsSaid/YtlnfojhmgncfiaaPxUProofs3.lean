/- A car's round: all cars go the same one. -/
import Derived.Test.YtlnfojhmgncfiaaPxUProofs2
import Derived.Test.YtlnfojhmgncfiaaPxSpecCycle
set_option linter.unusedVariables false
set_option linter.unusedSimpArgs false
namespace Go.Proofs.Ytlnfojhmgncfiaa.Px.PxU
open Go Go.Proofs
set_option linter.unusedSimpArgs false
set_option linter.unusedVariables false

theorem run_newellaw22_CycleShift (a0 : Gear) (a1 : Plan) (a2 : Int) : ∃ F d, run k48 F d 6 Try.f6 s_newellaw22_CycleShift (a0, a1, a2, ()) = some (AV.bool true) := by
  refine ⟨200, 6, ?_⟩
  rw [tree_newellaw22_CycleShift]
  have hfc : ({ stops := a1.stops, cars := a1.cars, car := 0 } : Plan) = firstCar a1 := rfl
  rw [hfc]
  cases hf : few22 a1 with
  | false => simp only [beqn, ble0, Bool.true_and, Bool.and_true, Bool.and_self, Bool.not_true, Bool.not_false, cond_true, cond_false, Bool.true_or, Bool.or_true]
  | true =>
    have hgp : smallGP a0 a1 = true := hf
    have hgp3 : ∀ n, smallGP3 a0 a1 n = true := fun _ => hf
    have hgf3 : ∀ n, smallGP3 a0 (firstCar a1) n = true := fun _ => hf
    have hff : few22 (firstCar a1) = true := hf
    have hs : smallP a1 = true := hf
    simp only [beqn, ble0, hgp, hgp3, hgf3, hff, beq_self_eq_true, Bool.true_and, Bool.and_true, Bool.and_self, Bool.not_true, Bool.not_false, cond_true, cond_false, Bool.true_or, Bool.or_true, errOf_ne _ 220 (by decide)]
    cases hp : planB a0 a1 with
    | false => rfl
    | true =>
      simp only [Bool.not_true, cond_true, cond_false]
      by_cases hin : 0 ≤ a2 ∧ a2 < lenP a0 a1
      · obtain ⟨hG, h2, h70, hL, hpl, p1, p2, hall, hlo⟩ := plan_facts hs hp
        have hp' := hp
        rw [planB_iff] at hp'
        obtain ⟨_, q1, q2, q3, q4, hr, _⟩ := hp'
        have hp0 : planB a0 (firstCar a1) = true := by
          rw [planB_iff]
          exact ⟨h2, q1, q2, by simp [firstCar], by simp [firstCar]; omega, hr, hG⟩
        have hb := lenP_bounds hG h2 h70 hr
        obtain ⟨⟨s0, s1⟩, r1, r2, r3, r4⟩ := same_round hG hp hp0 h2 hr (firstP_lt p2 (by omega)) hin.1 hin.2
        have e1 : decide (a2 < 0) = false := by simp; omega
        have e2 : decide (a2 ≥ lenP a0 a1) = false := by simp; omega
        have e3 : (lenP a0 a1 != 0) = true := by rw [bne_iff_ne]; omega
        have e4 : IntKind.wrap IntKind.i64 (a2 + shiftP a0 a1) = a2 + shiftP a0 a1 := IntWalk.i64_in _ (by omega)
        have e5 : decide (shiftP a0 a1 < 0) = false := by simp; omega
        have e6 : decide (shiftP a0 a1 ≥ lenP a0 a1) = false := by simp; omega
        have e7 : (bif decide (a1.car > 0) then true else shiftP a0 a1 == 0) = true := by
          cases hd : decide (a1.car > 0) with
          | true => rfl
          | false =>
            have hc0 : a1.car = 0 := by simp at hd; omega
            have : firstP a1 = 0 := by simp [firstP, placeP, hc0]
            rw [shiftP_eq, this]
            rfl
        have e8 : ((0 : Int) != 0) = false := rfl
        simp only [e1, e2, e3, e4, e5, e6, e7, ← r3, ← r4, r1, r2, e8, beq_self_eq_true, Bool.and_self, cond_true, cond_false]
      · have : (bif decide (a2 < 0) then true else decide (a2 ≥ lenP a0 a1)) = true := by
          cases h : decide (a2 < 0)
          · simp only [decide_eq_false_iff_not] at h
            simp
            omega
          · rfl
        rw [this]
        rfl
end Go.Proofs.Ytlnfojhmgncfiaa.Px.PxU
