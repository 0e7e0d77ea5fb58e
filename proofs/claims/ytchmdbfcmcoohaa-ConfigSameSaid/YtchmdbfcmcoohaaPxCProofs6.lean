/- Configurations: what may be is the document's. -/
import Derived.Test.YtchmdbfcmcoohaaPxCProofs5
set_option linter.unusedVariables false
set_option linter.unusedSimpArgs false
namespace Go.Proofs.Ytchmdbfcmcoohaa.Px.PxC
open Go Go.Proofs
set_option linter.unusedSimpArgs false
set_option linter.unusedVariables false

theorem chkG_congr {f g : Int → Bool} (h : ∀ x, f x = g x) : ∀ (l : List Int) (p : Option Int), chkG f p l = chkG g p l
  | [], p => by cases p <;> rfl
  | x :: l, none => by simp only [chkG, h, chkG_congr h l]
  | x :: l, some p => by simp only [chkG, h, chkG_congr h l]

theorem ref_Check_eq (c : Config) : ref_Check c = config_Check c := by
  unfold ref_Check config_Check
  by_cases hf : 2 ≤ c.floors ∧ c.floors ≤ 64
  · have hw : IntKind.i64.wrap (c.floors - 1) = c.floors - 1 := IntWalk.i64_in _ (by omega)
    have h1 : ref_size c = sizeB c := by
      unfold ref_size sizeB
      rw [hw]
      congr 1
      rw [Bool.eq_iff_iff]
      simp [inB]
      omega
    have h2 : ref_stops c = stopsB c := by
      unfold ref_stops stopsB chkR chkS
      rw [hw]
      congr 1
      refine chkG_congr (fun x => ?_) _ _
      rw [Bool.eq_iff_iff]
      simp [inB]
      omega
    rw [h1, h2]
    rfl
  · have h0 : inB c.floors 2 64 = false := by
      rw [Bool.eq_false_iff]
      intro h
      exact hf (inB_iff.1 h)
    have h1 : ref_size c = false := by simp [ref_size, h0]
    have h2 : sizeB c = false := by simp [sizeB, h0]
    simp [config_size, h1, h2, errIf, orE]

theorem win_code (w : Window) : ((config_Window w == 0) = windowB w) ∧ (config_Window w = 0 ∨ config_Window w = 104) := by
  unfold config_Window
  cases windowB w
  · exact ⟨rfl, .inr rfl⟩
  · exact ⟨rfl, .inl rfl⟩

theorem run_newellaw10_ConfigChecks (a0 : Config) (a1 : Window) : ∃ F d, run k40 F d 3 Try.f3 s_newellaw10_ConfigChecks (a0, a1, ()) = some (AV.bool true) := by
  refine ⟨200, 6, ?_⟩
  rw [tree_newellaw10_ConfigChecks]
  cases hf : few10 a0
  · simp only [beqn, ble0, Bool.true_and, Bool.and_true, Bool.and_self, Bool.not_true, Bool.not_false, cond_true, cond_false, Bool.true_or, Bool.or_true]
  · obtain ⟨hs, hl1, hl2⟩ := few_small hf
    obtain ⟨w1, w2⟩ := win_code a1
    have w3 : (bif config_Window a1 == 0 then true else config_Window a1 == 104) = true := by
      rcases w2 with h | h <;> rw [h] <;> rfl
    simp only [beqn, ble0, hs, Bool.true_and, Bool.and_true, Bool.and_self, Bool.not_true, Bool.not_false, cond_true, cond_false, Bool.true_or, Bool.or_true, Bool.or_false, w3, ref_Check_eq, beq_self_eq_true]
    rw [w1, beq_self_eq_true]
    rfl

theorem run_newellaw10_ConfigSame (a0 : Config) (a1 : Config) : ∃ F d, run k41 F d 4 Try.f4 s_newellaw10_ConfigSame (a0, a1, ()) = some (AV.bool true) := by
  refine ⟨200, 6, ?_⟩
  rw [tree_newellaw10_ConfigSame]
  cases hf : few10 a0
  · simp only [beqn, ble0, Bool.true_and, Bool.and_true, Bool.and_self, Bool.not_true, Bool.not_false, cond_true, cond_false, Bool.true_or, Bool.or_true]
  cases hf1 : few10 a1
  · simp only [beqn, ble0, Bool.true_and, Bool.and_true, Bool.and_self, Bool.not_true, Bool.not_false, cond_true, cond_false, Bool.true_or, Bool.or_true]
  · obtain ⟨hs, hl1, hl2⟩ := few_small hf
    obtain ⟨hs1, hm1, hm2⟩ := few_small hf1
    have hs2 : small2 a0 a1 = true := by simp [small2, hs, hs1]
    simp only [beqn, ble0, hs, hs1, hs2, Bool.true_and, Bool.and_true, Bool.and_self, Bool.not_true, Bool.not_false, cond_true, cond_false, Bool.true_or, Bool.or_true, Bool.or_false, ref_Check_eq, beq_self_eq_true, Bool.not_not]
    unfold config_Fits
    cases config_Check a0 == 0 <;> cases config_Check a1 == 0 <;> cases Config.floors a0 == Config.floors a1 <;> cases Config.cars a0 == Config.cars a1 <;> rfl
end Go.Proofs.Ytchmdbfcmcoohaa.Px.PxC
