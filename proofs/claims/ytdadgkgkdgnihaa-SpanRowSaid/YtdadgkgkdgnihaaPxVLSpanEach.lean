/- The law SpanEach. -/
import Derived.Test.YtdadgkgkdgnihaaPxVProofs2
import Derived.Test.YtdadgkgkdgnihaaPxSpecSpan4
set_option linter.unusedVariables false
set_option linter.unusedSimpArgs false
namespace Go.Proofs.Ytdadgkgkdgnihaa.Px.PxV
open Go Go.Proofs
set_option linter.unusedSimpArgs false
set_option linter.unusedVariables false

theorem each_cond (x b : Span) (neg : Bool) : (bif bif neg then true else decide (x.prio > b.prio) then true else bif x.prio == b.prio then decide (x.from_ ≥ b.from_) else false) = (neg || !lessS x b) := by
  cases neg
  · rw [cond_false, Bool.eq_iff_iff]
    by_cases h : x.prio = b.prio
    · simp [lessS, h]
    · have hb2 : (x.prio == b.prio) = false := by simpa using h
      simp [lessS, hb2]
      by_cases e : b.prio < x.prio <;> simp [e] <;> omega
  · rfl

theorem go_each (l0 l1 l2 : List (Span)) (v3_0 v3_1 v3_2 v3_3 v1 : Int) (v8 : Bool) (v9 v10 : Int) (F d : Nat) : ∀ (suf pre : List Span) (best : Int) (n : Nat), suf.length < n → (pre ++ suf).length ≤ 1048576 → -1 ≤ best → best < (pre.length : Int) →
    I_each F (d + 3) n (S_each (pre ++ suf) l1 l2 v3_0 v3_1 v3_2 v3_3 v1 v8 best ((pre.length : Nat) : Int)) = some (.exit 0, (X_each_0 (pre ++ suf) l1 l2 v3_0 v3_1 v3_2 v3_3 v8 (wGo (pre ++ suf) v1 suf ((pre.length : Nat) : Int) best))) := by
  intro suf
  induction suf with
  | nil =>
    intro pre best n hn hl h1 h2
    obtain ⟨n, rfl⟩ : ∃ k, n = k + 1 := ⟨n - 1, by omega⟩
    rw [step_each, idx_end, cond_false]
    rfl
  | cons x suf ih =>
    intro pre best n hn hl h1 h2
    obtain ⟨n, rfl⟩ : ∃ k, n = k + 1 := ⟨n - 1, by omega⟩
    have ih' := fun b h1 h2 => ih (pre ++ [x]) b n (by simp at hn; omega) (by simpa using hl) h1 h2
    rw [step_each]
    simp only [idx_lt, idx_ge, Bool.and_self, cond_true, idx_nat, idx_at, idx_next hl, Bool.true_or]
    rw [← idx_step] at ih'
    conv => rhs; unfold wGo
    have hin : (bif decide (v1 < x.from_) then true else decide (v1 ≥ x.to_)) = !inS x v1 := by
      rw [or_true', Bool.eq_iff_iff]; simp [inS] <;> omega
    rw [hin]
    have e3 : (((pre ++ [x]).length : Nat) : Int) = ((pre.length : Nat) : Int) + 1 := by simp
    cases hx : inS x v1
    · simp only [Bool.not_false, cond_true, Bool.false_and, cond_false]
      rw [ih' best h1 (by rw [e3]; omega), e3]
    · simp only [Bool.not_true, cond_false, Bool.true_and]
      by_cases hb : best < 0
      · simp only [hb, decide_true, cond_true, Bool.true_or, Bool.not_true, Bool.not_false, Bool.or_true, Bool.and_false, Bool.false_and]
        rw [ih' _ (by omega) (by rw [e3]; omega), e3]
      · have i1 : (decide (0 ≤ best) && decide (best < (((pre ++ x :: suf).length : Nat) : Int))) = true := by simp; omega
        have i2 : decide (0 + Int.toNat best < (pre ++ x :: suf).length) = true := by simp; omega
        simp only [hb, decide_false, i1, i2, cond_true, Bool.true_or, Bool.false_or]
        have hc := each_cond x (List.getD (pre ++ x :: suf) best.toNat span0) false
        have es : (⟨0, 0, 0, 0⟩ : Span) = span0 := rfl
        simp only [Nat.zero_add, es]
        rw [hc, Bool.false_or]
        cases (!lessS x (List.getD (pre ++ x :: suf) best.toNat span0))
        · rw [cond_false, cond_false, ih' best h1 (by rw [e3]; omega), e3]
        · rw [cond_true, cond_true, ih' _ (by omega) (by rw [e3]; omega), e3]

theorem main_each (l0 l1 l2 : List (Span)) (v3_0 v3_1 v3_2 v3_3 v1 : Int) (v8 : Bool) (v9 v10 : Int) (hg : (decide (l0.length ≤ 1048576) && (v9 == -1 && v10 == 0)) = true) : ∃ N d, I_each N d N (S_each l0 l1 l2 v3_0 v3_1 v3_2 v3_3 v1 v8 v9 v10) = some (altK Prod.mk [] (.exit 0) (X_each_0 l0 l1 l2 v3_0 v3_1 v3_2 v3_3 v8 (weightI l0 v1))) := by
  simp only [Bool.and_eq_true, decide_eq_true_eq, beq_iff_eq] at hg
  obtain ⟨h1, rfl, rfl⟩ := hg
  have := go_each l0 l1 l2 v3_0 v3_1 v3_2 v3_3 v1 v8 (-1) 0 (l0.length + 3) 0 l0 [] (-1) (l0.length + 3) (by omega) (by simpa using h1) (by omega) (by simp)
  exact ⟨l0.length + 3, 3, by simpa [altK, weightI] using this⟩

theorem run_newellaw13_SpanEach (a0 : List Span) (a1 : Int) : ∃ F d, run k33 F d 5 Try.f5 s_newellaw13_SpanEach (a0, a1, ()) = some (AV.bool true) := by
  refine ⟨200, 6, ?_⟩
  rw [tree_newellaw13_SpanEach]
  by_cases hl : a0.length > 60
  · have e1 : decide (((a0.length : Nat) : Int) > 60) = true := by simp; omega
    rw [e1]; rfl
  · have e1 : decide (((a0.length : Nat) : Int) > 60) = false := by simp; omega
    have h1 : smallS a0 = true := by simp [smallS]; omega
    have h2 : decide (a0.length ≤ 1048576) = true := by simp; omega
    simp only [ownS, e1, h1, h2, beqn, ble0, Bool.and_self, Bool.true_and, Bool.and_true, cond_true, cond_false]
    by_cases hz : (span_Resolve a0).2 = 0
    · obtain ⟨hm, he⟩ := res_zero hz
      have h3 : smallST (resolveS a0) a1 = true := by
        have := resolveS_length a0
        simp [smallST, smallS]; omega
      obtain ⟨n1, n2⟩ := resolveS_spec a0
      have hw := n2 a1
      rw [topMode_w] at hw
      obtain ⟨w1, w2⟩ := weightI_range a0 a1
      simp only [he, h3, beqn, ble0, bne_self_eq_false, cond_true, cond_false, Bool.and_self, Bool.and_true, Bool.true_and]
      rcases findS_modeAt a1 (resolveS a0) with ⟨f1, f2⟩ | ⟨s, hs, hi, f1, f2⟩
      · rw [f1] at hw
        have hneg : weightI a0 a1 < 0 := by
          refine Classical.byContradiction fun h => ?_
          simp [h] at hw
        have hg : decide (weightI a0 a1 ≥ 0) = false := by simp; omega
        rw [f2]
        simp only [hg, Bool.not_false, Bool.not_true, Bool.and_false, Bool.or_true, cond_true, cond_false, beq_self_eq_true]
      · rw [f1] at hw
        have hneg : ¬ weightI a0 a1 < 0 := fun h => by simp [h] at hw
        have hd : decide (weightI a0 a1 < 0) = false := by simpa using hneg
        rw [hd, cond_false] at hw
        simp only [Option.some.injEq] at hw
        have hg : decide (weightI a0 a1 ≥ 0) = true := by simp; omega
        have i1 : (decide (0 ≤ weightI a0 a1) && decide (weightI a0 a1 < ((a0.length : Nat) : Int))) = true := by simp; omega
        have i2 : decide (0 + Int.toNat (weightI a0 a1) < a0.length) = true := by simp; omega
        have i0 : decide (weightI a0 a1 < ((a0.length : Nat) : Int)) = true := by simp; omega
        have hp := (n1.one s hs).2
        have es : (⟨0, 0, 0, 0⟩ : Span) = span0 := rfl
        rw [f2]
        simp only [hg, i0, i2, Bool.and_self, Bool.true_or, cond_true]
        simp only [Nat.zero_add, es, ← hw, hp, beq_self_eq_true, Bool.not_true, cond_true, cond_false]
    · obtain ⟨hm, he⟩ := res_other hz
      rw [he]
      rfl
end Go.Proofs.Ytdadgkgkdgnihaa.Px.PxV
