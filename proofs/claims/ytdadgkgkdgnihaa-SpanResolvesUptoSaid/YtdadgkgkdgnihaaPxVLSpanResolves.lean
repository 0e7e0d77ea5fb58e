/- The law SpanResolves. -/
import Derived.Test.YtdadgkgkdgnihaaPxVProofs2
import Derived.Test.YtdadgkgkdgnihaaPxSpecSpan3
set_option linter.unusedVariables false
set_option linter.unusedSimpArgs false
namespace Go.Proofs.Ytdadgkgkdgnihaa.Px.PxV
open Go Go.Proofs
set_option linter.unusedSimpArgs false
set_option linter.unusedVariables false

theorem run_newellaw13_SpanResolves (a0 : List Span) (hg : smallS a0 = true) : ∃ F d, run k31 F d 3 Try.f3 s_newellaw13_SpanResolves (a0, ()) = some (AV.bool true) := by
  refine ⟨200, 6, ?_⟩
  rw [tree_newellaw13_SpanResolves]
  simp only [smallS, decide_eq_true_eq] at hg
  have hble : ∀ n : Nat, Nat.ble n n = true := fun n => Nat.ble_eq_true_of_le (Nat.le_refl n)
  have h5 : ∀ x, eqSpans x x = true := fun x => by simp [eqSpans]
  have hb : (bif decide (((a0.length : Nat) : Int) > 60) then decide (((a0.length : Nat) : Int) ≤ 500) else false) = (decide (a0.length > 60) && decide (a0.length ≤ 500)) := by
    rw [and_false', Bool.eq_iff_iff]; simp; omega
  rw [hb]
  cases hc : (decide (a0.length > 60) && decide (a0.length ≤ 500)) with
  | true => rfl
  | false =>
    have e1 : smallS a0 = true := by simp only [smallS, decide_eq_true_eq]; exact hg
    cases hm : mayS a0 with
    | false =>
      have e2 : span_Resolve a0 = ([], 130) := by rw [span_Resolve, hm, cond_false]
      simp only [ownS, e1, e2, Nat.beq_refl, Nat.zero_add, hble, Bool.and_self, Bool.and_true, Bool.true_and, cond_true, cond_false, Bool.not_false]
      rfl
    | true =>
      have e2 : span_Resolve a0 = (resolveS a0, 0) := by rw [span_Resolve, hm, cond_true]
      have h500 : a0.length ≤ 500 := by simp only [mayS, Bool.and_eq_true, decide_eq_true_eq] at hm; exact hm.2
      have e3 : smallR a0 = true := by simp only [smallR, decide_eq_true_eq]; exact h500
      have e4 : smallSS (resolveS a0) (resolveS a0) = true := by
        have := resolveS_length a0
        simp only [smallSS, decide_eq_true_eq]; omega
      have e5 : ((0 : Int) == 0) = true := rfl
      simp only [ownS, e1, e2, e3, e4, e5, refS_eq hm, h5, Nat.beq_refl, Nat.zero_add, hble, Bool.and_self, Bool.and_true, Bool.true_and, cond_true, cond_false, Bool.not_false, Bool.not_true, Bool.true_or]
end Go.Proofs.Ytdadgkgkdgnihaa.Px.PxV
