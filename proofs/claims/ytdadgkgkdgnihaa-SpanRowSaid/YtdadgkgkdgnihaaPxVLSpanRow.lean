/- The law SpanRow. -/
import Derived.Test.YtdadgkgkdgnihaaPxVProofs2
import Derived.Test.YtdadgkgkdgnihaaPxSpecSpan4
set_option linter.unusedVariables false
set_option linter.unusedSimpArgs false
namespace Go.Proofs.Ytdadgkgkdgnihaa.Px.PxV
open Go Go.Proofs
set_option linter.unusedSimpArgs false
set_option linter.unusedVariables false

theorem go_row (l0 l1 l2 : List (Span)) (v4 v5 : Int) (F d : Nat) : ∀ (suf pre : List Span) (n : Nat), suf.length < n → (pre ++ suf).length ≤ 1048576 → rowB pre.getLast? suf = true →
    I_row F (d + 3) n (S_row l0 l1 (pre ++ suf) v4 ((pre.length : Nat) : Int)) = some (.exit 0, (X_row_1 l0 l1 (pre ++ suf) v4)) := by
  intro suf
  induction suf with
  | nil =>
    intro pre n hn hl hb
    obtain ⟨n, rfl⟩ : ∃ k, n = k + 1 := ⟨n - 1, by omega⟩
    rw [step_row, idx_end, cond_false]
  | cons x suf ih =>
    intro pre n hn hl hb
    obtain ⟨n, rfl⟩ : ∃ k, n = k + 1 := ⟨n - 1, by omega⟩
    have hpl : pre.length + (suf.length + 1) ≤ 1048576 := by simpa using hl
    have hnext : oddS x = false ∧ rowB (some x) suf = true ∧ (∀ p, pre.getLast? = some p → decide (x.from_ < p.to_) = false ∧ (x.from_ == p.to_ && x.mode == p.mode) = false) := by
      cases hp : pre.getLast? with
      | none =>
        rw [hp] at hb
        simp only [rowB, Bool.and_eq_true, Bool.not_eq_true'] at hb
        exact ⟨hb.1, hb.2, fun p e => by cases e⟩
      | some p =>
        rw [hp] at hb
        simp only [rowB, Bool.and_eq_true, Bool.not_eq_true', Bool.or_eq_false_iff] at hb
        exact ⟨hb.1.1, hb.2, fun q e => by simp only [Option.some.injEq] at e; subst e; exact hb.1.2⟩
    obtain ⟨ho, hr, hlast⟩ := hnext
    have ih' := ih (pre ++ [x]) n (by simp at hn; omega) (by simpa using hl) (by rw [List.getLast?_concat]; exact hr)
    have hodd : decide (x.from_ ≥ x.to_) = false := ho
    rw [step_row]
    simp only [idx_lt, idx_ge, Bool.and_self, cond_true, idx_nat, idx_at, idx_next hl, Bool.true_or, hodd, cond_false, Bool.not_false, Bool.true_and]
    rw [← idx_step] at ih'
    rcases nil_or_snoc pre with rfl | ⟨q, p, rfl⟩
    · rw [ih']
      simp
    · obtain ⟨l1, l2⟩ := hlast p (by simp)
      have k1 : IntKind.wrap IntKind.i64 ((((q ++ [p]).length : Nat) : Int) - 1) = ((((q ++ [p]).length : Nat) : Int) - 1) := IntWalk.i64_in _ (by simp at hpl ⊢; omega)
      have k2 : decide ((0 : Int) ≤ (((q ++ [p]).length : Nat) : Int) - 1) = true := by simp
      have k3 : decide ((((q ++ [p]).length : Nat) : Int) - 1 < (((q ++ [p] ++ x :: suf).length : Nat) : Int)) = true := by simp <;> omega
      have k4 : decide (0 + Int.toNat ((((q ++ [p]).length : Nat) : Int) - 1) < (q ++ [p] ++ x :: suf).length) = true := by simp <;> omega
      have k5 : decide ((((q ++ [p]).length : Nat) : Int) > 0) = true := by simp <;> omega
      simp only [k1, k2, k3, k4, k5, idx_last, l1, l2, Bool.and_self, Bool.true_or, cond_true, cond_false, Bool.not_false, Bool.true_and, and_false', or_true', Bool.false_or]
      exact ih'

theorem main_row (l0 l1 l2 : List (Span)) (v4 v5 : Int) (hg : (decide (l2.length ≤ 1048576) && (rowB none l2 && v5 == 0)) = true) : ∃ N d, I_row N d N (S_row l0 l1 l2 v4 v5) = some (altK Prod.mk [] (.exit 0) (X_row_1 l0 l1 l2 v4)) := by
  simp only [Bool.and_eq_true, decide_eq_true_eq, beq_iff_eq] at hg
  obtain ⟨h1, h2, rfl⟩ := hg
  have := go_row l0 l1 l2 v4 0 (l2.length + 3) 0 l2 [] (l2.length + 3) (by omega) (by simpa using h1) h2
  exact ⟨l2.length + 3, 3, by simpa [altK] using this⟩

theorem run_newellaw13_SpanRow (a0 : List Span) : ∃ F d, run k35 F d 6 Try.f6 s_newellaw13_SpanRow (a0, ()) = some (AV.bool true) := by
  refine ⟨200, 6, ?_⟩
  rw [tree_newellaw13_SpanRow]
  unfold ownS
  by_cases hl : a0.length > 60
  · have e1 : decide (((a0.length : Nat) : Int) > 60) = true := by simp; omega
    rw [e1]; rfl
  · have e1 : decide (((a0.length : Nat) : Int) > 60) = false := by simp; omega
    have h1 : smallS a0 = true := by simp [smallS]; omega
    have hn := res_norm a0
    have hlen : (span_Resolve a0).1.length ≤ 120 := by
      unfold span_Resolve
      have := resolveS_length a0
      cases mayS a0
      · simp
      · simp only [cond_true]; omega
    have h2 : smallS (span_Resolve a0).1 = true := by simp [smallS]; omega
    have h3 : decide ((span_Resolve a0).1.length ≤ 1048576) = true := by simp; omega
    have h4 : rowB none (span_Resolve a0).1 = true := hn.rowB none (fun q e => by cases e)
    have h5 : span_Resolve (span_Resolve a0).1 = ((span_Resolve a0).1, 0) := by
      conv => lhs; unfold span_Resolve
      have := hn.may (by omega)
      unfold span_Resolve at this hn ⊢
      rw [this, cond_true, hn.again]
    have h6 : ∀ x, smallSS (span_Resolve a0).1 x = true := fun x => by simp [smallSS]; omega
    have h7 : ∀ x, eqSpans x x = true := fun x => by simp [eqSpans]
    simp only [e1, h1, h2, h3, h4, h5, h6, h7, beqn, ble0, beq_self_eq_true, Bool.and_self, Bool.true_and, Bool.and_true, Bool.true_or, cond_true, cond_false]
    by_cases hz : (span_Resolve a0).2 = 0
    · rw [hz]; rfl
    · obtain ⟨hm, he⟩ := res_other hz
      rw [he]; rfl
end Go.Proofs.Ytdadgkgkdgnihaa.Px.PxV
