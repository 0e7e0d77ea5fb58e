/- The law SpanTells. -/
import Derived.Test.YtdadgkgkdgnihaaPxVProofs2
set_option linter.unusedVariables false
set_option linter.unusedSimpArgs false
namespace Go.Proofs.Ytdadgkgkdgnihaa.Px.PxV
open Go Go.Proofs
set_option linter.unusedSimpArgs false
set_option linter.unusedVariables false

theorem run_newellaw13_SpanTells (a0 : List Span) (a1 : Int) (a2 : Int) : ∃ F d, run k31 F d 4 Try.f4 s_newellaw13_SpanTells (a0, a1, a2, ()) = some (AV.bool true) := by
  refine ⟨200, 6, ?_⟩
  rw [tree_newellaw13_SpanTells]
  by_cases hl : a0.length > 60
  · have e1 : decide (((a0.length : Nat) : Int) > 60) = true := by simp; omega
    rw [e1]; rfl
  · have e1 : decide (((a0.length : Nat) : Int) > 60) = false := by simp; omega
    have h1 : smallS a0 = true := by simp [smallS]; omega
    have h2 : ∀ t, smallST a0 t = true := fun t => h1
    have h3 : ∀ t u, smallSTT a0 t u = true := fun t u => h1
    have h4 : ∀ x, smallSS (cutL a0 a1 a2) x = true := fun x => by
      have := cutL_length a0 a1 a2
      simp [smallSS]; omega
    have h5 : ∀ x, eqSpans x x = true := fun x => by simp [eqSpans]
    simp only [ownS, e1, h1, h2, h3, h4, h5, beqn, ble0, beq_self_eq_true, Bool.and_self, Bool.true_and, Bool.and_true, Bool.true_or, Bool.not_true, cond_true, cond_false]
end Go.Proofs.Ytdadgkgkdgnihaa.Px.PxV
