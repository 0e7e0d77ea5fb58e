/- The law AutoDeaf. -/
import Derived.Test.YtdpdmjjpdebpeaaPxQProofs5
set_option linter.unusedVariables false
set_option linter.unusedSimpArgs false
namespace Go.Proofs.Ytdpdmjjpdebpeaa.Px.PxQ
open Go Go.Proofs
set_option linter.unusedSimpArgs false
set_option linter.unusedVariables false

theorem run_newellaw23_AutoDeaf (a0 : Auto) (a1 : Touch) (hg : s_newellaw23_AutoDeaf.wf (a0, a1, ())) : ∃ F d, run k81 F d 4 Try.f4 s_newellaw23_AutoDeaf (a0, a1, ()) = some (AV.bool true) := by
  refine ⟨200, 6, ?_⟩
  rw [tree_newellaw23_AutoDeaf]
  have ha : a0.age ≤ 9223372036854775807 := age_wf hg.1
  simp only [beqn, ble0, Bool.true_and, Bool.and_true, Bool.and_self, cond_true, cond_false]
  cases hf : few10 a0.config with
  | false => rfl
  | true =>
    have hs : smallA a0 = true := by simp [smallA, (few_small hf).1, ha]
    have hst : ∀ t, smallAT a0 t = true := fun _ => hs
    cases h4 : (a0.mode == 4) with
    | true => rfl
    | false =>
      cases h5 : (a0.mode == 5) with
      | true => rfl
      | false =>
        have hm : errAuto a0 = 0 → a0.mode ≤ 3 := by
          intro he
          obtain ⟨h1, _⟩ := errAuto_zero he
          obtain ⟨_, h2, _⟩ := errHome_zero h1
          simp only [beq_eq_false_iff_ne, ne_eq] at h4 h5
          omega
        have e : auto_Step a0 a1 = auto_Step a0 ⟨false, false, a1.fault⟩ := step_deaf (k := a1.key) (h := a1.held) (f := a1.fault) hm
        simp only [hs, hst, e, Bool.not_true, cond_true, cond_false, BEq.rfl, Bool.and_self, beq_self_eq_true]

end Go.Proofs.Ytdpdmjjpdebpeaa.Px.PxQ
