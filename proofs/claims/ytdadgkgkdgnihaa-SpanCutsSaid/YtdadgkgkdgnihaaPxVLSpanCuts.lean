/- The law SpanCuts. -/
import Derived.Test.YtdadgkgkdgnihaaPxVProofs2
import Derived.Test.YtdadgkgkdgnihaaPxSpecSpan4
set_option linter.unusedVariables false
set_option linter.unusedSimpArgs false
namespace Go.Proofs.Ytdadgkgkdgnihaa.Px.PxV
open Go Go.Proofs
set_option linter.unusedSimpArgs false
set_option linter.unusedVariables false

theorem run_newellaw13_SpanCuts (a0 : Pieces) : ∃ F d, run k36 F d 7 Try.f7 s_newellaw13_SpanCuts (a0, ()) = some (AV.bool true) := by
  refine ⟨200, 6, ?_⟩
  rw [tree_newellaw13_SpanCuts]
  have hb : (bif bif decide (((a0.l.length : Nat) : Int) > 60) then true else decide (a0.from_ > a0.at_) then true else decide (a0.at_ > a0.to_)) = !(decide (a0.l.length ≤ 60) && (decide (a0.from_ ≤ a0.at_) && decide (a0.at_ ≤ a0.to_))) := by
    rw [or_true', or_true', Bool.eq_iff_iff]; simp; omega
  rw [hb]
  cases hc : (decide (a0.l.length ≤ 60) && (decide (a0.from_ ≤ a0.at_) && decide (a0.at_ ≤ a0.to_))) with
  | false => rfl
  | true =>
    simp only [Bool.and_eq_true, decide_eq_true_eq] at hc
    obtain ⟨hl, c1, c2⟩ := hc
    have h1 : smallS a0.l = true := by simp [smallS]; omega
    simp only [ownS, h1, beqn, ble0, Bool.and_self, Bool.true_and, Bool.and_true, Bool.not_true, cond_true, cond_false]
    by_cases hz : (span_Resolve a0.l).2 = 0
    · obtain ⟨hm, he⟩ := res_zero hz
      obtain ⟨n1, n2⟩ := resolveS_spec a0.l
      have hlen := resolveS_length a0.l
      have hcl := fun a b => cutL_length (resolveS a0.l) a b
      have h2 : smallS (resolveS a0.l) = true := by simp [smallS]; omega
      have h3 : ∀ t u, smallSTT (resolveS a0.l) t u = true := fun t u => h2
      have h4 : ∀ a b, smallS (cutL (resolveS a0.l) a b) = true := fun a b => by have := hcl a b; simp [smallS]; omega
      have h5 : ∀ a b, Nat.ble (cutL (resolveS a0.l) a b).length 1048576 = true := fun a b => by have := hcl a b; simp; omega
      have h6 : smallS (cutL (resolveS a0.l) a0.from_ a0.at_ ++ cutL (resolveS a0.l) a0.at_ a0.to_) = true := by
        have := hcl a0.from_ a0.at_
        have := hcl a0.at_ a0.to_
        simp [smallS]; omega
      have hmay : mayS (cutL (resolveS a0.l) a0.from_ a0.at_ ++ cutL (resolveS a0.l) a0.at_ a0.to_) = true := by
        unfold mayS
        rw [all_append (n1.cut _ _).all (n1.cut _ _).all]
        have := hcl a0.from_ a0.at_
        have := hcl a0.at_ a0.to_
        simp; omega
      have h7 : span_Resolve (cutL (resolveS a0.l) a0.from_ a0.at_ ++ cutL (resolveS a0.l) a0.at_ a0.to_) = (cutL (resolveS a0.l) a0.from_ a0.to_, 0) := by
        unfold span_Resolve
        rw [hmay, cond_true, cut_join n1 c1 c2]
      have h8 : ∀ a b x, smallSS (cutL (resolveS a0.l) a b) x = true := fun a b x => by have := hcl a b; simp [smallSS]; omega
      have h9 : ∀ x, eqSpans x x = true := fun x => by simp [eqSpans]
      simp only [he, h2, h3, h4, h5, h6, h7, h8, h9, beqn, ble0, bne_self_eq_false, beq_self_eq_true, Bool.and_self, Bool.true_and, Bool.and_true, Bool.true_or, Bool.not_true, cond_true, cond_false]
    · have : ((span_Resolve a0.l).2 != 0) = true := by simpa using hz
      rw [this]; rfl
end Go.Proofs.Ytdadgkgkdgnihaa.Px.PxV
