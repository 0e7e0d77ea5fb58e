/- At a minute's moment clocks tell it, for the first time. -/
import Derived.Test.YtgfinnhojeghhaaDoorPxWProofs8
set_option linter.unusedVariables false
set_option linter.unusedSimpArgs false
namespace Go.Proofs.YtgfinnhojeghhaaDoor.Px.PxW
open Go Go.Proofs
set_option linter.unusedSimpArgs false
set_option linter.unusedVariables false

theorem run_newellaw14_WindowFirst (a0 : Zone) (a1 : Int) (a2 : Int) : ∃ F d, run k49 F d 7 Tryd.f7 s_newellaw14_WindowFirst (a0, a1, a2, ()) = some (AV.bool true) := by
  refine ⟨200, 6, ?_⟩
  rw [tree_newellaw14_WindowFirst]
  by_cases hz : zone_Check a0 = 0
  · cases ho : momOk a1 a2 with
    | false =>
      have e : momG a0 a1 a2 = (0, 140) := by unfold momG; rw [hz, ho]; rfl
      rw [e]
      rfl
    | true =>
      have ht := told_ok ho
      have ht' := ht
      simp only [toldOk, Bool.and_eq_true, decide_eq_true_eq] at ht'
      have hm : 0 ≤ a2 ∧ a2 < 1440 := by
        simp only [momOk, Bool.and_eq_true, decide_eq_true_eq] at ho
        exact ho.2
      obtain ⟨hb, hs, _⟩ := zone_facts hz
      obtain ⟨x1, x2, x3, x4, x5, x6⟩ := first_at hz ht
      have r0 := shift_range (z := a0) (headG a0 (whereIn (rowG a0) 200 (a1 * 1440 + a2)) - 1) hs
      have hT : toldG a0 (headG a0 (whereIn (rowG a0) 200 (a1 * 1440 + a2)) - 1) = headG a0 (whereIn (rowG a0) 200 (a1 * 1440 + a2)) - 1 + a0.base + shiftG a0 (headG a0 (whereIn (rowG a0) 200 (a1 * 1440 + a2)) - 1) := rfl
      have hlen := len_pos (rowG a0 (a1 * 1440 + a2))
      have hg0 : (rowG a0 (a1 * 1440 + a2)).getD 0 0 = headG a0 (a1 * 1440 + a2) := rfl
      rw [mom_head hz ho, inst_row hz ho]
      simp only [show ((0 : Int) != 0) = false from rfl, cond_false]
      rw [wrI (n := headG a0 (whereIn (rowG a0) 200 (a1 * 1440 + a2)) - 1) (by omega), local_told hz (t := headG a0 (whereIn (rowG a0) 200 (a1 * 1440 + a2))) (by omega) (by omega), local_told hz (t := headG a0 (whereIn (rowG a0) 200 (a1 * 1440 + a2)) - 1) (by omega) (by omega), x3]
      rw [hlen.1, hlen.2.2.1, hlen.2.2.2, hg0]
      simp only [show ((0 : Int) != 0) = false from rfl, cond_false]
      rw [wrI (n := a1 * 1440) (by omega), wrI (n := a1 * 1440 + a2) (by omega), wrI (n := a1 * 1440 + a2 + a0.shift) (by omega)]
      generalize hX : whereIn (rowG a0) 200 (a1 * 1440 + a2) = X at *
      generalize hS : toldG a0 (headG a0 X - 1) = S at *
      rw [wrI (n := X / 1440 * 1440) (by omega), wrI (n := X / 1440 * 1440 + X % 1440) (by omega), wrI (n := S / 1440 * 1440) (by omega), wrI (n := S / 1440 * 1440 + S % 1440) (by omega), show X / 1440 * 1440 + X % 1440 = X by omega, show S / 1440 * 1440 + S % 1440 = S by omega]
      have last : (bif a2 == 0 then some (AV.bool true) else some (AV.bool (bif bif bif true then Prod.snd (momG a0 a1 (IntKind.wrap IntKind.i64 (a2 - 1))) == 0 else false then decide (Prod.fst (momG a0 a1 (IntKind.wrap IntKind.i64 (a2 - 1))) ≤ headG a0 X) else false then decide (IntKind.wrap IntKind.i64 (headG a0 X - Prod.fst (momG a0 a1 (IntKind.wrap IntKind.i64 (a2 - 1)))) ≤ IntKind.wrap IntKind.i64 (1 + a0.shift)) else false))) = some (AV.bool true) := by
        by_cases h0 : a2 = 0
        · rw [h0]; rfl
        · rw [show (a2 == 0) = false by rw [beq_eq_false_iff_ne]; exact h0, cond_false, wrI (n := a2 - 1) (by omega)]
          have ho1 : momOk a1 (a2 - 1) = true := by
            simp only [momOk, Bool.and_eq_true, decide_eq_true_eq] at ho ⊢
            exact ⟨ho.1, by omega, by omega⟩
          have hn := first_next' hz ht (by rw [show a1 * 1440 + a2 - 1 = a1 * 1440 + (a2 - 1) by omega]; exact told_ok ho1)
          rw [hX, show a1 * 1440 + a2 - 1 = a1 * 1440 + (a2 - 1) by omega] at hn
          have x6' := (first_at hz (told_ok ho1)).2.2.2.2.2
          rw [mom_head hz ho1]
          generalize headG a0 (whereIn (rowG a0) 200 (a1 * 1440 + (a2 - 1))) = u at *
          simp only [beq_self_eq_true, cond_true]
          rw [wrI (n := headG a0 X - u) (by omega), wrI (n := 1 + a0.shift) (by omega), decide_eq_true hn.1, decide_eq_true hn.2]
          rfl
      cases he : (rowG a0 (a1 * 1440 + a2)).isEmpty with
      | false =>
        have ex := x4 he
        rw [ex] at last ⊢
        simp only [bne_self_eq_false, Bool.not_false, Bool.true_and, Bool.true_or, Bool.not_true, cond_true, cond_false]
        simpa only [cond_true, cond_false] using last
      | true =>
        obtain ⟨g1, g2⟩ := x5 he
        rw [show decide (X ≤ a1 * 1440 + a2) = false by simp; omega, show decide (X > a1 * 1440 + a2 + a0.shift) = false by simp; omega, show decide (S ≥ a1 * 1440 + a2) = false by simp; omega]
        simp only [Bool.not_true, Bool.not_false, Bool.or_true, Bool.false_or, cond_true, cond_false]
        simpa only [cond_true, cond_false] using last
  · have e : momG a0 a1 a2 = (0, zone_Check a0) := by
      unfold momG
      rw [show (zone_Check a0 != 0) = true by rw [bne_iff_ne]; exact hz, cond_true]
    rw [e]
    simp only
    rw [show (zone_Check a0 != 0) = true by rw [bne_iff_ne]; exact hz]
    rfl
end Go.Proofs.YtgfinnhojeghhaaDoor.Px.PxW
