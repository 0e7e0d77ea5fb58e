/- The table: the functions are what is said of them. -/
import Derived.Test.YtfhepbbkggdlcaaGreatDoorPxTProofs6
import Derived.Test.YtfhepbbkggdlcaaGreatDoorPxSpecSpan
set_option linter.unusedVariables false
set_option linter.unusedSimpArgs false
namespace Go.Proofs.YtfhepbbkggdlcaaGreatDoor.Px.PxT
open Go Go.Proofs
set_option maxRecDepth 10000
theorem go_bwin (l0 : List (Int)) (l1 : List (Window)) (l9 : List (Span)) (Q0 Q1 Q2 Q4 Q5 Q6 Q7 Q8 Q9 Q10 Q11 Q12 Q13 Q14 Q15 Q16 Q17 Q18 Q19 Q20 Q21 Q22 Q23 Q24 Q25 Q26 Q27 Q28 Q29 Q30 Q31 Q32 Q33 Q34 : Int) (Q35 : Bool) (S0 S1 S2 S4 S5 S6 S7 S8 S9 S10 S11 S12 S13 S14 S15 S16 S17 S18 S19 S20 S21 S22 S23 S24 S25 S26 S27 S28 S29 S30 S31 S32 S33 S34 : Int) (S35 : Bool) (U0 W0 v5 v19 v20 : Int) (F d : Nat) (C : Config) (hC : C = (⟨S0, S1, S2, l0, ⟨S4, S5, S6, S7, S8, S9, S10⟩, S11, S12, ⟨S13, S14, ⟨S15, S16, S17, S18⟩, ⟨S19, S20, S21, S22⟩⟩, ⟨S23, S24, S25, S26, S27, S28, S29, S30, S31, S32, S33, S34⟩, S35, l1⟩ : Config)) (h0 : l0.length ≤ 1048576) (h1 : l1.length ≤ 1000) (hv : v19 = ((l1.length : Nat) : Int)) : ∀ (suf pre : List Window) (out : List Span) (n : Nat), l1 = pre ++ suf → suf.length < n → out.length + suf.length ≤ 200000 →
  I_bwin F (d + 3) n (S_bwin l0 l1 out Q0 Q1 Q2 Q4 Q5 Q6 Q7 Q8 Q9 Q10 Q11 Q12 Q13 Q14 Q15 Q16 Q17 Q18 Q19 Q20 Q21 Q22 Q23 Q24 Q25 Q26 Q27 Q28 Q29 Q30 Q31 Q32 Q33 Q34 Q35 S0 S1 S2 S4 S5 S6 S7 S8 S9 S10 S11 S12 S13 S14 S15 S16 S17 S18 S19 S20 S21 S22 S23 S24 S25 S26 S27 S28 S29 S30 S31 S32 S33 S34 S35 U0 W0 v5 v19 ((pre.length : Nat) : Int)) = some (.exit 2, (X_bwin_2 l0 l1 (out ++ winSpans C v5 suf) Q0 Q1 Q2 Q4 Q5 Q6 Q7 Q8 Q9 Q10 Q11 Q12 Q13 Q14 Q15 Q16 Q17 Q18 Q19 Q20 Q21 Q22 Q23 Q24 Q25 Q26 Q27 Q28 Q29 Q30 Q31 Q32 Q33 Q34 Q35 S0 S1 S2 S4 S5 S6 S7 S8 S9 S10 S11 S12 S13 S14 S15 S16 S17 S18 S19 S20 S21 S22 S23 S24 S25 S26 S27 S28 S29 S30 S31 S32 S33 S34 S35 U0 W0 v5)) := by
 have hs : ∀ w x, spanOk C w x = true := by
  intro w x
  rw [hC]
  simp only [spanOk, smallC, Bool.and_eq_true, decide_eq_true_eq]
  exact ⟨h0, by omega⟩
 intro suf
 induction suf with
 | nil =>
  intro pre out n hl hn ho
  obtain ⟨n, rfl⟩ : ∃ k, n = k + 1 := ⟨n - 1, by omega⟩
  rw [step_bwin, ← hC]
  dsimp only
  rw [decide_eq_false (by rw [hv, hl]; simp : ¬ ((pre.length : Nat) : Int) < v19), cond_false]
  simp [winSpans]
 | cons w suf ih =>
  intro pre out n hl hn ho
  obtain ⟨n, rfl⟩ : ∃ k, n = k + 1 := ⟨n - 1, by omega⟩
  have ih' := fun o ho => ih (pre ++ [w]) o n (by rw [hl]; simp) (by simp at hn; omega) ho
  have f1 : decide (((pre.length : Nat) : Int) < v19) = true := by rw [hv, hl]; exact idx_lt _ _ _
  have f2 : (decide ((0 : Int) ≤ ((pre.length : Nat) : Int)) && decide (((pre.length : Nat) : Int) < ((l1.length : Nat) : Int))) = true := by rw [hl]; exact idx_in _ _ _
  have f3 : decide (0 + Int.toNat ((pre.length : Nat) : Int) < l1.length) = true := by rw [hl]; exact idx_nat _ _ _
  have f4 : ∀ z, List.getD l1 (0 + Int.toNat ((pre.length : Nat) : Int)) z = w := by intro z; rw [hl]; exact idx_at _ _ _ _
  have f5 : IntKind.i64.wrap (((pre.length : Nat) : Int) + 1) = (((pre ++ [w]).length : Nat) : Int) := idx_next (suf := suf) (by rw [← hl]; omega)
  have f6 : Nat.ble out.length 1048576 = true := by simp at ho ⊢; omega
  rw [step_bwin, ← hC]
  dsimp only
  rw [f1, f2, f3, f4, hs, f5]
  simp only [beqn, ble0, f6, Bool.true_and, Bool.and_true, Bool.and_self, cond_true]
  unfold winSpans
  cases hw : (spanG C w v5).2.1 with
  | true =>
   simp only [cond_true, cond_false]
   rw [ih' (out ++ [(spanG C w v5).1]) (by simp at ho ⊢; omega)]
   simp
  | false =>
   simp only [cond_false]
   exact ih' out (by simp at ho; omega)
theorem main_bwin (l0 : List (Int)) (l1 : List (Window)) (l9 : List (Span)) (Q0 Q1 Q2 Q4 Q5 Q6 Q7 Q8 Q9 Q10 Q11 Q12 Q13 Q14 Q15 Q16 Q17 Q18 Q19 Q20 Q21 Q22 Q23 Q24 Q25 Q26 Q27 Q28 Q29 Q30 Q31 Q32 Q33 Q34 : Int) (Q35 : Bool) (S0 S1 S2 S4 S5 S6 S7 S8 S9 S10 S11 S12 S13 S14 S15 S16 S17 S18 S19 S20 S21 S22 S23 S24 S25 S26 S27 S28 S29 S30 S31 S32 S33 S34 : Int) (S35 : Bool) (U0 W0 v5 v19 v20 : Int) (hg : (decide (l0.length ≤ 1048576) && (decide (l1.length ≤ 1000) && (decide (l9.length ≤ 100000) && (v19 == (l1.length : Int) && v20 == 0)))) = true) : ∃ N d, I_bwin N d N (S_bwin l0 l1 l9 Q0 Q1 Q2 Q4 Q5 Q6 Q7 Q8 Q9 Q10 Q11 Q12 Q13 Q14 Q15 Q16 Q17 Q18 Q19 Q20 Q21 Q22 Q23 Q24 Q25 Q26 Q27 Q28 Q29 Q30 Q31 Q32 Q33 Q34 Q35 S0 S1 S2 S4 S5 S6 S7 S8 S9 S10 S11 S12 S13 S14 S15 S16 S17 S18 S19 S20 S21 S22 S23 S24 S25 S26 S27 S28 S29 S30 S31 S32 S33 S34 S35 U0 W0 v5 v19 v20) = some (altK Prod.mk [] (.exit 2) (X_bwin_2 l0 l1 (l9 ++ winSpans (⟨S0, S1, S2, l0, ⟨S4, S5, S6, S7, S8, S9, S10⟩, S11, S12, ⟨S13, S14, ⟨S15, S16, S17, S18⟩, ⟨S19, S20, S21, S22⟩⟩, ⟨S23, S24, S25, S26, S27, S28, S29, S30, S31, S32, S33, S34⟩, S35, l1⟩ : Config) v5 l1) Q0 Q1 Q2 Q4 Q5 Q6 Q7 Q8 Q9 Q10 Q11 Q12 Q13 Q14 Q15 Q16 Q17 Q18 Q19 Q20 Q21 Q22 Q23 Q24 Q25 Q26 Q27 Q28 Q29 Q30 Q31 Q32 Q33 Q34 Q35 S0 S1 S2 S4 S5 S6 S7 S8 S9 S10 S11 S12 S13 S14 S15 S16 S17 S18 S19 S20 S21 S22 S23 S24 S25 S26 S27 S28 S29 S30 S31 S32 S33 S34 S35 U0 W0 v5)) := by
 simp only [Bool.and_eq_true, beq_iff_eq, decide_eq_true_eq] at hg
 obtain ⟨h0, h1, h2, h3, rfl⟩ := hg
 exact ⟨2000, 3, go_bwin l0 l1 l9 Q0 Q1 Q2 Q4 Q5 Q6 Q7 Q8 Q9 Q10 Q11 Q12 Q13 Q14 Q15 Q16 Q17 Q18 Q19 Q20 Q21 Q22 Q23 Q24 Q25 Q26 Q27 Q28 Q29 Q30 Q31 Q32 Q33 Q34 Q35 S0 S1 S2 S4 S5 S6 S7 S8 S9 S10 S11 S12 S13 S14 S15 S16 S17 S18 S19 S20 S21 S22 S23 S24 S25 S26 S27 S28 S29 S30 S31 S32 S33 S34 S35 U0 W0 v5 v19 0 2000 0 _ rfl h0 h1 h3 l1 [] l9 2000 rfl (by omega) (by omega)⟩
theorem go_bday (l0 : List (Int)) (l1 : List (Window)) (l9 : List (Span)) (Q0 Q1 Q2 Q4 Q5 Q6 Q7 Q8 Q9 Q10 Q11 Q12 Q13 Q14 Q15 Q16 Q17 Q18 Q19 Q20 Q21 Q22 Q23 Q24 Q25 Q26 Q27 Q28 Q29 Q30 Q31 Q32 Q33 Q34 : Int) (Q35 : Bool) (S0 S1 S2 S4 S5 S6 S7 S8 S9 S10 S11 S12 S13 S14 S15 S16 S17 S18 S19 S20 S21 S22 S23 S24 S25 S26 S27 S28 S29 S30 S31 S32 S33 S34 : Int) (S35 : Bool) (U0 W0 v5 : Int) (F d : Nat) (C : Config) (hC : C = (⟨S0, S1, S2, l0, ⟨S4, S5, S6, S7, S8, S9, S10⟩, S11, S12, ⟨S13, S14, ⟨S15, S16, S17, S18⟩, ⟨S19, S20, S21, S22⟩⟩, ⟨S23, S24, S25, S26, S27, S28, S29, S30, S31, S32, S33, S34⟩, S35, l1⟩ : Config)) (h0 : l0.length ≤ 1048576) (h1 : l1.length ≤ 1000) (hb : W0 ≤ 3651990) : ∀ (k : Nat) (x : Int) (out : List Span) (n : Nat), (W0 - x + 1).toNat = k → 402 ≤ x → x ≤ 3652100 → out.length + k * 1000 ≤ 100000 → k < n →
  I_bday F (d + 3) n (S_bday l0 l1 out Q0 Q1 Q2 Q4 Q5 Q6 Q7 Q8 Q9 Q10 Q11 Q12 Q13 Q14 Q15 Q16 Q17 Q18 Q19 Q20 Q21 Q22 Q23 Q24 Q25 Q26 Q27 Q28 Q29 Q30 Q31 Q32 Q33 Q34 Q35 S0 S1 S2 S4 S5 S6 S7 S8 S9 S10 S11 S12 S13 S14 S15 S16 S17 S18 S19 S20 S21 S22 S23 S24 S25 S26 S27 S28 S29 S30 S31 S32 S33 S34 S35 U0 W0 x) = some (.exit 0, (X_bday_0 l0 l1 (out ++ dayGo C k x) Q0 Q1 Q2 Q4 Q5 Q6 Q7 Q8 Q9 Q10 Q11 Q12 Q13 Q14 Q15 Q16 Q17 Q18 Q19 Q20 Q21 Q22 Q23 Q24 Q25 Q26 Q27 Q28 Q29 Q30 Q31 Q32 Q33 Q34 Q35 S0 S1 S2 S4 S5 S6 S7 S8 S9 S10 S11 S12 S13 S14 S15 S16 S17 S18 S19 S20 S21 S22 S23 S24 S25 S26 S27 S28 S29 S30 S31 S32 S33 S34 S35 U0 W0)) := by
 intro k
 induction k with
 | zero =>
  intro x out n hk h2 h3 ho hn
  obtain ⟨n, rfl⟩ : ∃ k, n = k + 1 := ⟨n - 1, by omega⟩
  rw [step_bday, ← hC]
  dsimp only
  rw [decide_eq_false (by omega : ¬ x ≤ W0), cond_false]
  simp [dayGo]
 | succ k ih =>
  intro x out n hk h2 h3 ho hn
  obtain ⟨n, rfl⟩ : ∃ k, n = k + 1 := ⟨n - 1, by omega⟩
  have hw := win_length C x l1
  have hcw : C.windows = l1 := by rw [hC]
  have g1 : decide (l0.length ≤ 1048576) = true := decide_eq_true h0
  have g2 : decide (l1.length ≤ 1000) = true := decide_eq_true h1
  have g3 : decide (out.length ≤ 100000) = true := decide_eq_true (by omega)
  rw [step_bday, ← hC]
  dsimp only
  rw [decide_eq_true (by omega : x ≤ W0), g1, g2, g3, wrI (n := x + 1) (by omega)]
  simp only [beqn, beq_self_eq_true, Bool.true_and, Bool.and_true, Bool.and_self, cond_true]
  rw [ih (x + 1) (out ++ winSpans C x l1) n (by omega) (by omega) (by omega) (by rw [List.length_append]; omega) (by omega)]
  simp only [dayGo, hcw, List.append_assoc]
theorem main_bday (l0 : List (Int)) (l1 : List (Window)) (l9 : List (Span)) (Q0 Q1 Q2 Q4 Q5 Q6 Q7 Q8 Q9 Q10 Q11 Q12 Q13 Q14 Q15 Q16 Q17 Q18 Q19 Q20 Q21 Q22 Q23 Q24 Q25 Q26 Q27 Q28 Q29 Q30 Q31 Q32 Q33 Q34 : Int) (Q35 : Bool) (S0 S1 S2 S4 S5 S6 S7 S8 S9 S10 S11 S12 S13 S14 S15 S16 S17 S18 S19 S20 S21 S22 S23 S24 S25 S26 S27 S28 S29 S30 S31 S32 S33 S34 : Int) (S35 : Bool) (U0 W0 v5 : Int) (hg : (decide (l0.length ≤ 1048576) && (decide (l1.length ≤ 1000) && (l9.length == 0 && fewDays v5 W0))) = true) : ∃ N d, I_bday N d N (S_bday l0 l1 l9 Q0 Q1 Q2 Q4 Q5 Q6 Q7 Q8 Q9 Q10 Q11 Q12 Q13 Q14 Q15 Q16 Q17 Q18 Q19 Q20 Q21 Q22 Q23 Q24 Q25 Q26 Q27 Q28 Q29 Q30 Q31 Q32 Q33 Q34 Q35 S0 S1 S2 S4 S5 S6 S7 S8 S9 S10 S11 S12 S13 S14 S15 S16 S17 S18 S19 S20 S21 S22 S23 S24 S25 S26 S27 S28 S29 S30 S31 S32 S33 S34 S35 U0 W0 v5) = some (altK Prod.mk [] (.exit 0) (X_bday_0 l0 l1 (dayGo (⟨S0, S1, S2, l0, ⟨S4, S5, S6, S7, S8, S9, S10⟩, S11, S12, ⟨S13, S14, ⟨S15, S16, S17, S18⟩, ⟨S19, S20, S21, S22⟩⟩, ⟨S23, S24, S25, S26, S27, S28, S29, S30, S31, S32, S33, S34⟩, S35, l1⟩ : Config) (W0 - v5 + 1).toNat v5) Q0 Q1 Q2 Q4 Q5 Q6 Q7 Q8 Q9 Q10 Q11 Q12 Q13 Q14 Q15 Q16 Q17 Q18 Q19 Q20 Q21 Q22 Q23 Q24 Q25 Q26 Q27 Q28 Q29 Q30 Q31 Q32 Q33 Q34 Q35 S0 S1 S2 S4 S5 S6 S7 S8 S9 S10 S11 S12 S13 S14 S15 S16 S17 S18 S19 S20 S21 S22 S23 S24 S25 S26 S27 S28 S29 S30 S31 S32 S33 S34 S35 U0 W0)) := by
 simp only [Bool.and_eq_true, beq_iff_eq, decide_eq_true_eq, fewDays] at hg
 obtain ⟨h0, h1, h2, h3, h4, h5⟩ := hg
 have hl : l9 = [] := List.eq_nil_of_length_eq_zero h2
 subst hl
 refine ⟨40, 3, ?_⟩
 by_cases hx : v5 ≤ 3652100
 ·have := go_bday l0 l1 [] Q0 Q1 Q2 Q4 Q5 Q6 Q7 Q8 Q9 Q10 Q11 Q12 Q13 Q14 Q15 Q16 Q17 Q18 Q19 Q20 Q21 Q22 Q23 Q24 Q25 Q26 Q27 Q28 Q29 Q30 Q31 Q32 Q33 Q34 Q35 S0 S1 S2 S4 S5 S6 S7 S8 S9 S10 S11 S12 S13 S14 S15 S16 S17 S18 S19 S20 S21 S22 S23 S24 S25 S26 S27 S28 S29 S30 S31 S32 S33 S34 S35 U0 W0 v5 40 0 _ rfl h0 h1 h4 (W0 - v5 + 1).toNat v5 [] 40 rfl h3 hx (by simp only [List.length_nil]; omega) (by omega)
  rw [List.nil_append] at this
  exact this
 ·have hz : (W0 - v5 + 1).toNat = 0 := by omega
  rw [hz]
  rw [step_bday]
  dsimp only
  rw [decide_eq_false (by omega : ¬ v5 ≤ W0)]
  rfl
theorem run_table_Spans (a0 : Config) (a1 : Int) (a2 : Int) (hg : small3C a0 a1 a2 = true) : ∃ F d, runO k78 F d 13 Tryz.f13 s_table_Spans r_table_Spans (a0, a1, a2, ()) = some (spansG a0 a1 a2) := by
 refine ⟨200, 6, ?_⟩
 rw [tree_table_Spans]
 obtain ⟨b1, b2, b3, b4⟩ := lens_ok a0
 have hs : smallC a0 = true := hg
 have hs' : decide (a0.stops.length ≤ 1048576) = true := by
  simp only [smallC, Bool.and_eq_true] at hs
  exact hs.1
 rw [b1, b2, b3, b4, hs]
 unfold spansG
 cases hc : config_Check a0 != 0 with
 | true => rfl
 | false =>
  have hw := win_few (show config_Check a0 = 0 by simpa using hc)
  cases hd : daysIn a1 a2 with
  | false =>
   have e : (bif bif bif decide (a1 < 402) then true else decide (a2 > 3651990) then true else decide (a1 > a2) then true else decide (IntKind.i64.wrap (a2 - a1) > 30)) = true := by
    by_cases c1 : a1 < 402
    ·rw [decide_eq_true c1]; rfl
    ·by_cases c2 : a2 > 3651990
     ·rw [decide_eq_false c1, decide_eq_true c2]; rfl
     ·by_cases c3 : a1 > a2
      ·rw [decide_eq_false c1, decide_eq_false c2, decide_eq_true c3]; rfl
      ·rw [decide_eq_false c1, decide_eq_false c2, decide_eq_false c3, wrI (n := a2 - a1) (by omega)]
       simp only [cond_false, decide_eq_true_eq]
       by_cases c4 : a2 - a1 > 30
       ·exact c4
       ·have : daysIn a1 a2 = true := by simp only [daysIn, Bool.and_eq_true, decide_eq_true_eq]; omega
        rw [this] at hd
        cases hd
   rw [e]
   rfl
  | true =>
   obtain ⟨d1, d2, d3, d4⟩ := days_in hd
   rw [wrI (n := a2 - a1) (by omega), decide_eq_false (by omega : ¬ a1 < 402), decide_eq_false (by omega : ¬ a2 > 3651990), decide_eq_false (by omega : ¬ a1 > a2), decide_eq_false (by omega : ¬ a2 - a1 > 30)]
   rw [hs', decide_eq_true (by omega : a0.windows.length ≤ 1000)]
   rw [show fewDays a1 a2 = true by simp only [fewDays, Bool.and_eq_true, decide_eq_true_eq]; omega]
   simp only [beqn, Bool.and_self, Bool.true_and, Bool.and_true, cond_true, cond_false]
theorem run_table_about (a0 : Config) (a1 : Int) (hg : aboutOk a0 a1 = true) : ∃ F d, runO k79 F d 28 Tryz.f28 s_table_about r_table_about (a0, a1, ()) = some (aboutG a0 a1) := by
 refine ⟨200, 6, ?_⟩
 rw [tree_table_about]
 obtain ⟨b1, b2, b3, b4⟩ := lens_ok a0
 have hg' : smallC a0 = true ∧ (-1000000000000 ≤ a1 ∧ a1 ≤ 1000000000000) := by simpa only [aboutOk, big, Bool.and_eq_true, decide_eq_true_eq] using hg
 obtain ⟨hs, h1⟩ := hg'
 have hl := spans_length a0 (a1 - 9) (a1 + 1)
 rw [b1, b2, b3, b4, wrI (n := a1 - 9) (by omega), wrI (n := a1 + 1) (by omega), show small3C a0 (a1 - 9) (a1 + 1) = true from hs]
 rw [show smallS (spansG a0 (a1 - 9) (a1 + 1)).1 = true by simp only [smallS, decide_eq_true_eq]; omega]
 unfold aboutG
 simp only [beqn, ble0, Bool.and_self, Bool.true_and, Bool.and_true, cond_true]
 cases (spansG a0 (a1 - 9) (a1 + 1)).2 != 0 <;> rfl
theorem run_table_Row (a0 : Config) (a1 : Int) (hg : small2C a0 a1 = true) : ∃ F d, runO k80 F d 11 Tryz.f11 s_table_Row r_table_Row (a0, a1, ()) = some (tabRow a0 a1) := by
 refine ⟨200, 6, ?_⟩
 rw [tree_table_Row]
 obtain ⟨b1, b2, b3, b4⟩ := lens_ok a0
 have hs : smallC a0 = true := hg
 rw [b1, b2, b3, b4, hs]
 unfold tabRow
 cases hc : config_Check a0 != 0 with
 | true => rfl
 | false =>
  by_cases h1 : a1 < 411
  ·rw [decide_eq_true h1]; rfl
  ·by_cases h2 : a1 > 3651988
   ·rw [decide_eq_false h1, decide_eq_true h2]; rfl
   ·have hl := about_length a0 a1
    rw [decide_eq_false h1, decide_eq_false h2, wrI (n := a1 + 1) (by omega)]
    rw [show aboutOk a0 a1 = true by simp only [aboutOk, hs, big, Bool.true_and, Bool.and_eq_true, decide_eq_true_eq]; omega]
    rw [show smallSTT (aboutG a0 a1).1 (momG a0.zone a1 0).1 (momG a0.zone (a1 + 1) 0).1 = true by simp only [smallSTT, smallS, decide_eq_true_eq]; omega]
    simp only [beqn, ble0, Bool.and_self, Bool.true_and, Bool.and_true, cond_true, cond_false, Bool.or_self]
    cases (aboutG a0 a1).2 != 0 <;> rfl
theorem run_table_served (a0 : Config) (a1 : Int) (hg : servedOk a0 a1 = true) : ∃ F d, run k81 F d 40 Tryz.f40 s_table_served (a0, a1, ()) = some (r_table_served.enc (servedG a0 a1)) := by
 refine ⟨200, 6, ?_⟩
 rw [tree_table_served]
 have hc : config_Check a0 = 0 := by simpa only [servedOk, beq_iff_eq] using hg
 obtain ⟨z1, _⟩ := zone_facts (check_parts hc).1
 unfold servedG
 have e : (bif decide (a1 < 576000) then true else decide (a1 > 5258879999)) = !inB a1 576000 5258879999 := by
  unfold inB
  rw [Bool.eq_iff_iff]
  cases h1 : decide (a1 < 576000) <;> simp at h1 ⊢ <;> omega
 rw [e]
 cases hb : inB a1 576000 5258879999 with
 | false => rfl
 | true =>
  have h1 := inB_iff.1 hb
  rw [wrI (n := a1 + a0.zone.base) (by omega)]
  rw [show divOk (a1 + a0.zone.base) 1440 = true by simp only [divOk, big, byB, Bool.and_eq_true, decide_eq_true_eq]; omega]
  simp only [Bool.not_true, cond_false, Bool.and_self, cond_true, Bool.true_and]
  cases (ofG ((a1 + a0.zone.base) / 1440)).2 == 0 <;> cases h2 : decide (1900 ≤ (ofG ((a1 + a0.zone.base) / 1440)).1.year) <;> simp only [ge_iff_le, h2, cond_true, cond_false, Bool.true_and, Bool.false_and] <;> rfl
theorem local_big {c : Config} {t : Int} (hc : config_Check c = 0) (hs : servedG c t = true) : -1000000000000 ≤ (localG c.zone t).1 ∧ (localG c.zone t).1 ≤ 1000000000000 := by
 obtain ⟨hz, _⟩ := check_parts hc
 obtain ⟨z1, z2, _⟩ := zone_facts hz
 have h := (served_iff hc).1 hs
 have hr := shift_range (z := c.zone) t z2
 rw [local_told hz (by omega) (by omega)]
 unfold toldG
 dsimp only
 omega
theorem run_table_Mode (a0 : Config) (a1 : Int) (hg : small2C a0 a1 = true) : ∃ F d, run k82 F d 19 Tryz.f19 s_table_Mode (a0, a1, ()) = some (r_table_Mode.enc (modeG a0 a1)) := by
 refine ⟨200, 6, ?_⟩
 rw [tree_table_Mode]
 obtain ⟨b1, b2, b3, b4⟩ := lens_ok a0
 have hs : smallC a0 = true := hg
 rw [b1, b2, b3, b4, hs]
 unfold modeG
 cases hc : config_Check a0 != 0 with
 | true => rfl
 | false =>
  have hc0 : config_Check a0 = 0 := by simpa using hc
  rw [show servedOk a0 a1 = true by simp only [servedOk, hc0, beq_self_eq_true]]
  cases hv : servedG a0 a1 with
  | false => rfl
  | true =>
   have hb := local_big hc0 hv
   have hl := about_length a0 (localG a0.zone a1).1
   rw [show aboutOk a0 (localG a0.zone a1).1 = true by simp only [aboutOk, hs, big, Bool.true_and, Bool.and_eq_true, decide_eq_true_eq]; omega]
   rw [show smallST (aboutG a0 (localG a0.zone a1).1).1 a1 = true by simp only [smallST, smallS, decide_eq_true_eq]; omega]
   unfold atG
   simp only [beqn, ble0, Bool.and_self, Bool.true_and, Bool.and_true, cond_true, cond_false, Bool.not_true]
   cases (findS (aboutG a0 (localG a0.zone a1).1).1 a1).2 <;> rfl
end Go.Proofs.YtfhepbbkggdlcaaGreatDoor.Px.PxT


namespace Go.Proofs.YtfhepbbkggdlcaaGreatDoor.Px.PxT
open Go Go.Proofs
theorem go_tops (l0 : List (Int)) (l1 : List (Window)) (Q0 Q1 Q2 Q4 Q5 Q6 Q7 Q8 Q9 Q10 Q11 Q12 Q13 Q14 Q15 Q16 Q17 Q18 Q19 Q20 Q21 Q22 Q23 Q24 Q25 Q26 Q27 Q28 Q29 Q30 Q31 Q32 Q33 Q34 : Int) (Q35 : Bool) (v1 v2 v7 : Int) (F d : Nat) (h1 : l1.length ≤ 1048576) : ∀ (suf pre : List Window) (n : Nat), l1 = pre ++ suf → suf.length < n →
  I_tops F (d + 3) n (S_tops l0 l1 Q0 Q1 Q2 Q4 Q5 Q6 Q7 Q8 Q9 Q10 Q11 Q12 Q13 Q14 Q15 Q16 Q17 Q18 Q19 Q20 Q21 Q22 Q23 Q24 Q25 Q26 Q27 Q28 Q29 Q30 Q31 Q32 Q33 Q34 Q35 v1 v2 ((pre.length : Nat) : Int)) = some (cond (noTop suf) (.exit 0, (X_tops_1 l0 l1 Q0 Q1 Q2 Q4 Q5 Q6 Q7 Q8 Q9 Q10 Q11 Q12 Q13 Q14 Q15 Q16 Q17 Q18 Q19 Q20 Q21 Q22 Q23 Q24 Q25 Q26 Q27 Q28 Q29 Q30 Q31 Q32 Q33 Q34 Q35 v1 v2)) (.ret, (X_tops_0 l0 l1 Q0 Q1 Q2 Q4 Q5 Q6 Q7 Q8 Q9 Q10 Q11 Q12 Q13 Q14 Q15 Q16 Q17 Q18 Q19 Q20 Q21 Q22 Q23 Q24 Q25 Q26 Q27 Q28 Q29 Q30 Q31 Q32 Q33 Q34 Q35 v1 v2))) := by
 intro suf
 induction suf with
 | nil =>
  intro pre n hl hn
  obtain ⟨n, rfl⟩ : ∃ k, n = k + 1 := ⟨n - 1, by omega⟩
  rw [step_tops, decide_eq_false (by rw [hl]; simp : ¬ ((pre.length : Nat) : Int) < ((l1.length : Nat) : Int))]
  rfl
 | cons w suf ih =>
  intro pre n hl hn
  obtain ⟨n, rfl⟩ : ∃ k, n = k + 1 := ⟨n - 1, by omega⟩
  have ih' := ih (pre ++ [w]) n (by rw [hl]; simp) (by simp at hn; omega)
  have f1 : decide (((pre.length : Nat) : Int) < ((l1.length : Nat) : Int)) = true := by rw [hl]; exact idx_lt _ _ _
  have f3 : decide (0 + Int.toNat ((pre.length : Nat) : Int) < l1.length) = true := by rw [hl]; exact idx_nat _ _ _
  have f4 : ∀ z, List.getD l1 (0 + Int.toNat ((pre.length : Nat) : Int)) z = w := by intro z; rw [hl]; exact idx_at _ _ _ _
  have f5 : IntKind.i64.wrap (((pre.length : Nat) : Int) + 1) = (((pre ++ [w]).length : Nat) : Int) := idx_next (suf := suf) (by rw [← hl]; omega)
  rw [step_tops, f1, idx_ge, f3, f4, f5]
  simp only [Bool.and_self, cond_true]
  have e : noTop (w :: suf) = (w.prio != 99 && noTop suf) := rfl
  rw [e]
  cases hw : w.prio == 99 with
  | true =>
   have : (w.prio != 99) = false := by simpa using hw
   rw [this]
   rfl
  | false =>
   have : (w.prio != 99) = true := by simpa using hw
   rw [this, cond_false, Bool.true_and]
   exact ih'
theorem main_tops (l0 : List (Int)) (l1 : List (Window)) (Q0 Q1 Q2 Q4 Q5 Q6 Q7 Q8 Q9 Q10 Q11 Q12 Q13 Q14 Q15 Q16 Q17 Q18 Q19 Q20 Q21 Q22 Q23 Q24 Q25 Q26 Q27 Q28 Q29 Q30 Q31 Q32 Q33 Q34 : Int) (Q35 : Bool) (v1 v2 v7 : Int) (hg : (decide (l1.length ≤ 1048576) && v7 == 0) = true) : ∃ N d, I_tops N d N (S_tops l0 l1 Q0 Q1 Q2 Q4 Q5 Q6 Q7 Q8 Q9 Q10 Q11 Q12 Q13 Q14 Q15 Q16 Q17 Q18 Q19 Q20 Q21 Q22 Q23 Q24 Q25 Q26 Q27 Q28 Q29 Q30 Q31 Q32 Q33 Q34 Q35 v1 v2 v7) = some (altK Prod.mk [(noTop l1, .exit 0, (X_tops_1 l0 l1 Q0 Q1 Q2 Q4 Q5 Q6 Q7 Q8 Q9 Q10 Q11 Q12 Q13 Q14 Q15 Q16 Q17 Q18 Q19 Q20 Q21 Q22 Q23 Q24 Q25 Q26 Q27 Q28 Q29 Q30 Q31 Q32 Q33 Q34 Q35 v1 v2))] (.ret) (X_tops_0 l0 l1 Q0 Q1 Q2 Q4 Q5 Q6 Q7 Q8 Q9 Q10 Q11 Q12 Q13 Q14 Q15 Q16 Q17 Q18 Q19 Q20 Q21 Q22 Q23 Q24 Q25 Q26 Q27 Q28 Q29 Q30 Q31 Q32 Q33 Q34 Q35 v1 v2)) := by
 simp only [Bool.and_eq_true, beq_iff_eq, decide_eq_true_eq] at hg
 obtain ⟨h1, rfl⟩ := hg
 refine ⟨1048600, 3, ?_⟩
 have := go_tops l0 l1 Q0 Q1 Q2 Q4 Q5 Q6 Q7 Q8 Q9 Q10 Q11 Q12 Q13 Q14 Q15 Q16 Q17 Q18 Q19 Q20 Q21 Q22 Q23 Q24 Q25 Q26 Q27 Q28 Q29 Q30 Q31 Q32 Q33 Q34 Q35 v1 v2 0 1048600 0 h1 l1 [] 1048600 rfl (by omega)
 rw [show (((([] : List Window).length : Nat) : Int)) = 0 from rfl] at this
 rw [this]
 simp only [altK]
theorem run_newellaw15_TableOver (a0 : Config) (a1 : Int) (a2 : Int) : ∃ F d, run k96 F d 8 Tryz.f8 s_newellaw15_TableOver (a0, a1, a2, ()) = some (AV.bool true) := by
 refine ⟨200, 6, ?_⟩
 rw [tree_newellaw15_TableOver]
 simp only [beqn, ble0, Bool.true_and, Bool.and_true, Bool.and_self, cond_true]
 cases hf : few10 a0 with
 | false => simp only [Bool.not_false, Bool.not_true, Bool.or_true, cond_true]
 | true =>
  have hs := few_small hf
  rw [hs, ref_Check_eq]
  simp only [Bool.not_false, Bool.not_true, Bool.true_or, cond_true, cond_false]
  cases hc : config_Check a0 != 0 with
  | true => rfl
  | false =>
   have hc0 : config_Check a0 = 0 := by simpa using hc
   have hz := (check_parts hc0).1
   obtain ⟨z1, z2, _⟩ := zone_facts hz
   rw [cond_false]
   by_cases g1 : ((a0.windows.length : Nat) : Int) > 15
   ·rw [decide_eq_true g1]; rfl
   by_cases g2 : a1 < 700000
   ·rw [decide_eq_false g1, decide_eq_true g2]; rfl
   by_cases g3 : a1 > 870000
   ·rw [decide_eq_false g1, decide_eq_false g2, decide_eq_true g3]; rfl
   by_cases g4 : a2 < 0
   ·rw [decide_eq_false g1, decide_eq_false g2, decide_eq_false g3, decide_eq_true g4]; rfl
   by_cases g5 : a2 > 10079
   ·rw [decide_eq_false g1, decide_eq_false g2, decide_eq_false g3, decide_eq_false g4, decide_eq_true g5]; rfl
   rw [decide_eq_false g1, decide_eq_false g2, decide_eq_false g3, decide_eq_false g4, decide_eq_false g5]
   have hwl : a0.windows.length ≤ 15 := by omega
   rw [decide_eq_true (by omega : a0.windows.length ≤ 1048576)]
   have hbl : Nat.ble a0.windows.length 1048576 = true := Nat.ble_eq_true_of_le (by omega)
   cases hn : noTop a0.windows with
   | false => simp only [cond_true, cond_false, hbl]
   | true =>
    obtain ⟨⟨A, eA⟩, o2, o3⟩ := over_law hc0 hwl hn (d := a1) (by omega) (by omega)
    have ho := over_ok hc0 hwl (d := a1) (by omega) (by omega)
    have hF : (spansG (overC a0 a1) a1 a1).1 = A ++ [topS a0 a1] := by rw [eA]
    have hS : (spansG (overC a0 a1) a1 a1).2 = 0 := by rw [eA]
    have hL := spans_length (overC a0 a1) a1 a1
    rw [hF, List.length_append, List.length_singleton] at hL
    have hso : smallC (overC a0 a1) = true := by
     have hs' := hs
     simp only [smallC, Bool.and_eq_true, decide_eq_true_eq] at hs' ⊢
     exact ⟨hs'.1, by simp only [overC, List.length_append, List.length_singleton]; omega⟩
    have hm := mom_near (z := a0.zone) (d := a1) (m := 0) hz ((rec_iff a1).2 (by omega)) (by omega)
    have hmd : (momG a0.zone a1 0).1 = momD a0 a1 := rfl
    have hlen : IntKind.i64.wrap (((A ++ [topS a0 a1]).length : Nat) - 1 : Int) = ((A.length : Nat) : Int) := by
     rw [List.length_append, List.length_singleton, wrI (by omega)]
     omega
    have hget : ∀ z, List.getD (A ++ [topS a0 a1]) (0 + Int.toNat ((A.length : Nat) : Int)) z = topS a0 a1 := fun z => idx_at A [] _ z
    have hne : ((((A ++ [topS a0 a1]).length : Nat) : Int) == 0) = false := idx_ne0 A _
    rw [hF, hS, hlen, hget, hne, idx_in A [] (topS a0 a1), idx_nat A [] (topS a0 a1)]
    rw [show (topS a0 a1).from_ = momD a0 a1 from rfl, show (topS a0 a1).mode = 4 from rfl]
    rw [wrI (n := momD a0 a1 + a2) (by omega), wrI (n := momD a0 a1 + 10080) (by omega)]
    rw [show small3C (overC a0 a1) a1 a1 = true from hso, show small2C (overC a0 a1) (momD a0 a1 + a2) = true from hso, show small2C (overC a0 a1) (momD a0 a1 + 10080) = true from hso, show small2C a0 (momD a0 a1 + 10080) = true from hs]
    rw [mode_ok _ ho, mode_ok _ ho, mode_ok _ hc0, o2 a2 (by omega) (by omega), o3, hbl]
    simp only [cond_true, cond_false, bne_self_eq_false, beq_self_eq_true, Bool.true_or, Bool.not_true, Bool.not_false, Bool.and_self, Bool.true_and]
end Go.Proofs.YtfhepbbkggdlcaaGreatDoor.Px.PxT
