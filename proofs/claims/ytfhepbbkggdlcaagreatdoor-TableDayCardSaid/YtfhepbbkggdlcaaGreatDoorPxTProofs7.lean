/- The table: the functions are what is said of them. -/
import Derived.Test.YtfhepbbkggdlcaaGreatDoorPxTProofs6
import Derived.Test.YtfhepbbkggdlcaaGreatDoorPxSpecSpan
import Derived.Test.YtfhepbbkggdlcaaGreatDoorPxSpecGreg
set_option linter.unusedVariables false
set_option linter.unusedSimpArgs false
namespace Go.Proofs.YtfhepbbkggdlcaaGreatDoor.Px.PxT
open Go Go.Proofs
set_option maxRecDepth 10000
theorem go_bwin (l0 : List (Int)) (l1 : List (Window)) (l9 : List (Span)) (Q0 Q1 Q2 Q4 Q5 Q6 Q7 Q8 Q9 Q10 Q11 Q12 Q13 Q14 Q15 Q16 Q17 Q18 Q19 Q20 Q21 Q22 Q23 Q24 Q25 Q26 Q27 Q28 Q29 Q30 Q31 Q32 Q33 Q34 : Int) (Q35 : Bool) (S0 S1 S2 S4 S5 S6 S7 S8 S9 S10 S11 S12 S13 S14 S15 S16 S17 S18 S19 S20 S21 S22 S23 S24 S25 S26 S27 S28 S29 S30 S31 S32 S33 S34 : Int) (S35 : Bool) (U0 W0 v5 v19 v20 : Int) (F d : Nat) (C : Config) (hC : C = (⟨S0, S1, S2, l0, ⟨S4, S5, S6, S7, S8, S9, S10⟩, S11, S12, ⟨S13, S14, ⟨S15, S16, S17, S18⟩, ⟨S19, S20, S21, S22⟩⟩, ⟨S23, S24, S25, S26, S27, S28, S29, S30, S31, S32, S33, S34⟩, S35, l1⟩ : Config)) (h0 : l0.length ≤ 1048576) (h1 : l1.length ≤ 1000) (hv : v19 = ((l1.length : Nat) : Int)) : ∀ (suf pre : List Window) (out : List Span) (n : Nat), l1 = pre ++ suf → suf.length < n → out.length + suf.length ≤ 200000 →
  I_bwin F (d + 3) n (S_bwin l0 l1 out Q0 Q1 Q2 Q4 Q5 Q6 Q7 Q8 Q9 Q10 Q11 Q12 Q13 Q14 Q15 Q16 Q17 Q18 Q19 Q20 Q21 Q22 Q23 Q24 Q25 Q26 Q27 Q28 Q29 Q30 Q31 Q32 Q33 Q34 Q35 S0 S1 S2 S4 S5 S6 S7 S8 S9 S10 S11 S12 S13 S14 S15 S16 S17 S18 S19 S20 S21 S22 S23 S24 S25 S26 S27 S28 S29 S30 S31 S32 S33 S34 S35 U0 W0 v5 v19 ((pre.length : Nat) : Int)) = some (.exit 2, (X_bwin_2 l0 l1 (out ++ winSpans C v5 suf) Q0 Q1 Q2 Q4 Q5 Q6 Q7 Q8 Q9 Q10 Q11 Q12 Q13 Q14 Q15 Q16 Q17 Q18 Q19 Q20 Q21 Q22 Q23 Q24 Q25 Q26 Q27 Q28 Q29 Q30 Q31 Q32 Q33 Q34 Q35 S0 S1 S2 S4 S5 S6 S7 S8 S9 S10 S11 S12 S13 S14 S15 S16 S17 S18 S19 S20 S21 S22 S23 S24 S25 S26 S27 S28 S29 S30 S31 S32 S33 S34 S35 U0 W0 v5)) := by
 have hs : ∀ w x, spanOk C w x = true := by
  intro w x
  rw [hC]
  simp only [spanOk, smallC, Bool.and_eq_true, decide_eq_true_eq]
  exact ⟨h0, by omega⟩
 intro suf
 induction suf with
 | nil =>
  intro pre out n hl hn ho
  obtain ⟨n, rfl⟩ : ∃ k, n = k + 1 := ⟨n - 1, by omega⟩
  rw [step_bwin, ← hC]
  dsimp only
  rw [decide_eq_false (by rw [hv, hl]; simp : ¬ ((pre.length : Nat) : Int) < v19), cond_false]
  simp [winSpans]
 | cons w suf ih =>
  intro pre out n hl hn ho
  obtain ⟨n, rfl⟩ : ∃ k, n = k + 1 := ⟨n - 1, by omega⟩
  have ih' := fun o ho => ih (pre ++ [w]) o n (by rw [hl]; simp) (by simp at hn; omega) ho
  have f1 : decide (((pre.length : Nat) : Int) < v19) = true := by rw [hv, hl]; exact idx_lt _ _ _
  have f2 : (decide ((0 : Int) ≤ ((pre.length : Nat) : Int)) && decide (((pre.length : Nat) : Int) < ((l1.length : Nat) : Int))) = true := by rw [hl]; exact idx_in _ _ _
  have f3 : decide (0 + Int.toNat ((pre.length : Nat) : Int) < l1.length) = true := by rw [hl]; exact idx_nat _ _ _
  have f4 : ∀ z, List.getD l1 (0 + Int.toNat ((pre.length : Nat) : Int)) z = w := by intro z; rw [hl]; exact idx_at _ _ _ _
  have f5 : IntKind.i64.wrap (((pre.length : Nat) : Int) + 1) = (((pre ++ [w]).length : Nat) : Int) := idx_next (suf := suf) (by rw [← hl]; omega)
  have f6 : Nat.ble out.length 1048576 = true := by simp at ho ⊢; omega
  rw [step_bwin, ← hC]
  dsimp only
  rw [f1, f2, f3, f4, hs, f5]
  simp only [beqn, ble0, f6, Bool.true_and, Bool.and_true, Bool.and_self, cond_true]
  unfold winSpans
  cases hw : (spanG C w v5).2.1 with
  | true =>
   simp only [cond_true, cond_false]
   rw [ih' (out ++ [(spanG C w v5).1]) (by simp at ho ⊢; omega)]
   simp
  | false =>
   simp only [cond_false]
   exact ih' out (by simp at ho; omega)
theorem main_bwin (l0 : List (Int)) (l1 : List (Window)) (l9 : List (Span)) (Q0 Q1 Q2 Q4 Q5 Q6 Q7 Q8 Q9 Q10 Q11 Q12 Q13 Q14 Q15 Q16 Q17 Q18 Q19 Q20 Q21 Q22 Q23 Q24 Q25 Q26 Q27 Q28 Q29 Q30 Q31 Q32 Q33 Q34 : Int) (Q35 : Bool) (S0 S1 S2 S4 S5 S6 S7 S8 S9 S10 S11 S12 S13 S14 S15 S16 S17 S18 S19 S20 S21 S22 S23 S24 S25 S26 S27 S28 S29 S30 S31 S32 S33 S34 : Int) (S35 : Bool) (U0 W0 v5 v19 v20 : Int) (hg : (decide (l0.length ≤ 1048576) && (decide (l1.length ≤ 1000) && (decide (l9.length ≤ 100000) && (v19 == (l1.length : Int) && v20 == 0)))) = true) : ∃ N d, I_bwin N d N (S_bwin l0 l1 l9 Q0 Q1 Q2 Q4 Q5 Q6 Q7 Q8 Q9 Q10 Q11 Q12 Q13 Q14 Q15 Q16 Q17 Q18 Q19 Q20 Q21 Q22 Q23 Q24 Q25 Q26 Q27 Q28 Q29 Q30 Q31 Q32 Q33 Q34 Q35 S0 S1 S2 S4 S5 S6 S7 S8 S9 S10 S11 S12 S13 S14 S15 S16 S17 S18 S19 S20 S21 S22 S23 S24 S25 S26 S27 S28 S29 S30 S31 S32 S33 S34 S35 U0 W0 v5 v19 v20) = some (altK Prod.mk [] (.exit 2) (X_bwin_2 l0 l1 (l9 ++ winSpans (⟨S0, S1, S2, l0, ⟨S4, S5, S6, S7, S8, S9, S10⟩, S11, S12, ⟨S13, S14, ⟨S15, S16, S17, S18⟩, ⟨S19, S20, S21, S22⟩⟩, ⟨S23, S24, S25, S26, S27, S28, S29, S30, S31, S32, S33, S34⟩, S35, l1⟩ : Config) v5 l1) Q0 Q1 Q2 Q4 Q5 Q6 Q7 Q8 Q9 Q10 Q11 Q12 Q13 Q14 Q15 Q16 Q17 Q18 Q19 Q20 Q21 Q22 Q23 Q24 Q25 Q26 Q27 Q28 Q29 Q30 Q31 Q32 Q33 Q34 Q35 S0 S1 S2 S4 S5 S6 S7 S8 S9 S10 S11 S12 S13 S14 S15 S16 S17 S18 S19 S20 S21 S22 S23 S24 S25 S26 S27 S28 S29 S30 S31 S32 S33 S34 S35 U0 W0 v5)) := by
 simp only [Bool.and_eq_true, beq_iff_eq, decide_eq_true_eq] at hg
 obtain ⟨h0, h1, h2, h3, rfl⟩ := hg
 exact ⟨2000, 3, go_bwin l0 l1 l9 Q0 Q1 Q2 Q4 Q5 Q6 Q7 Q8 Q9 Q10 Q11 Q12 Q13 Q14 Q15 Q16 Q17 Q18 Q19 Q20 Q21 Q22 Q23 Q24 Q25 Q26 Q27 Q28 Q29 Q30 Q31 Q32 Q33 Q34 Q35 S0 S1 S2 S4 S5 S6 S7 S8 S9 S10 S11 S12 S13 S14 S15 S16 S17 S18 S19 S20 S21 S22 S23 S24 S25 S26 S27 S28 S29 S30 S31 S32 S33 S34 S35 U0 W0 v5 v19 0 2000 0 _ rfl h0 h1 h3 l1 [] l9 2000 rfl (by omega) (by omega)⟩
theorem go_bday (l0 : List (Int)) (l1 : List (Window)) (l9 : List (Span)) (Q0 Q1 Q2 Q4 Q5 Q6 Q7 Q8 Q9 Q10 Q11 Q12 Q13 Q14 Q15 Q16 Q17 Q18 Q19 Q20 Q21 Q22 Q23 Q24 Q25 Q26 Q27 Q28 Q29 Q30 Q31 Q32 Q33 Q34 : Int) (Q35 : Bool) (S0 S1 S2 S4 S5 S6 S7 S8 S9 S10 S11 S12 S13 S14 S15 S16 S17 S18 S19 S20 S21 S22 S23 S24 S25 S26 S27 S28 S29 S30 S31 S32 S33 S34 : Int) (S35 : Bool) (U0 W0 v5 : Int) (F d : Nat) (C : Config) (hC : C = (⟨S0, S1, S2, l0, ⟨S4, S5, S6, S7, S8, S9, S10⟩, S11, S12, ⟨S13, S14, ⟨S15, S16, S17, S18⟩, ⟨S19, S20, S21, S22⟩⟩, ⟨S23, S24, S25, S26, S27, S28, S29, S30, S31, S32, S33, S34⟩, S35, l1⟩ : Config)) (h0 : l0.length ≤ 1048576) (h1 : l1.length ≤ 1000) (hb : W0 ≤ 3651990) : ∀ (k : Nat) (x : Int) (out : List Span) (n : Nat), (W0 - x + 1).toNat = k → 402 ≤ x → x ≤ 3652100 → out.length + k * 1000 ≤ 100000 → k < n →
  I_bday F (d + 3) n (S_bday l0 l1 out Q0 Q1 Q2 Q4 Q5 Q6 Q7 Q8 Q9 Q10 Q11 Q12 Q13 Q14 Q15 Q16 Q17 Q18 Q19 Q20 Q21 Q22 Q23 Q24 Q25 Q26 Q27 Q28 Q29 Q30 Q31 Q32 Q33 Q34 Q35 S0 S1 S2 S4 S5 S6 S7 S8 S9 S10 S11 S12 S13 S14 S15 S16 S17 S18 S19 S20 S21 S22 S23 S24 S25 S26 S27 S28 S29 S30 S31 S32 S33 S34 S35 U0 W0 x) = some (.exit 0, (X_bday_0 l0 l1 (out ++ dayGo C k x) Q0 Q1 Q2 Q4 Q5 Q6 Q7 Q8 Q9 Q10 Q11 Q12 Q13 Q14 Q15 Q16 Q17 Q18 Q19 Q20 Q21 Q22 Q23 Q24 Q25 Q26 Q27 Q28 Q29 Q30 Q31 Q32 Q33 Q34 Q35 S0 S1 S2 S4 S5 S6 S7 S8 S9 S10 S11 S12 S13 S14 S15 S16 S17 S18 S19 S20 S21 S22 S23 S24 S25 S26 S27 S28 S29 S30 S31 S32 S33 S34 S35 U0 W0)) := by
 intro k
 induction k with
 | zero =>
  intro x out n hk h2 h3 ho hn
  obtain ⟨n, rfl⟩ : ∃ k, n = k + 1 := ⟨n - 1, by omega⟩
  rw [step_bday, ← hC]
  dsimp only
  rw [decide_eq_false (by omega : ¬ x ≤ W0), cond_false]
  simp [dayGo]
 | succ k ih =>
  intro x out n hk h2 h3 ho hn
  obtain ⟨n, rfl⟩ : ∃ k, n = k + 1 := ⟨n - 1, by omega⟩
  have hw := win_length C x l1
  have hcw : C.windows = l1 := by rw [hC]
  have g1 : decide (l0.length ≤ 1048576) = true := decide_eq_true h0
  have g2 : decide (l1.length ≤ 1000) = true := decide_eq_true h1
  have g3 : decide (out.length ≤ 100000) = true := decide_eq_true (by omega)
  rw [step_bday, ← hC]
  dsimp only
  rw [decide_eq_true (by omega : x ≤ W0), g1, g2, g3, wrI (n := x + 1) (by omega)]
  simp only [beqn, beq_self_eq_true, Bool.true_and, Bool.and_true, Bool.and_self, cond_true]
  rw [ih (x + 1) (out ++ winSpans C x l1) n (by omega) (by omega) (by omega) (by rw [List.length_append]; omega) (by omega)]
  simp only [dayGo, hcw, List.append_assoc]
theorem main_bday (l0 : List (Int)) (l1 : List (Window)) (l9 : List (Span)) (Q0 Q1 Q2 Q4 Q5 Q6 Q7 Q8 Q9 Q10 Q11 Q12 Q13 Q14 Q15 Q16 Q17 Q18 Q19 Q20 Q21 Q22 Q23 Q24 Q25 Q26 Q27 Q28 Q29 Q30 Q31 Q32 Q33 Q34 : Int) (Q35 : Bool) (S0 S1 S2 S4 S5 S6 S7 S8 S9 S10 S11 S12 S13 S14 S15 S16 S17 S18 S19 S20 S21 S22 S23 S24 S25 S26 S27 S28 S29 S30 S31 S32 S33 S34 : Int) (S35 : Bool) (U0 W0 v5 : Int) (hg : (decide (l0.length ≤ 1048576) && (decide (l1.length ≤ 1000) && (l9.length == 0 && fewDays v5 W0))) = true) : ∃ N d, I_bday N d N (S_bday l0 l1 l9 Q0 Q1 Q2 Q4 Q5 Q6 Q7 Q8 Q9 Q10 Q11 Q12 Q13 Q14 Q15 Q16 Q17 Q18 Q19 Q20 Q21 Q22 Q23 Q24 Q25 Q26 Q27 Q28 Q29 Q30 Q31 Q32 Q33 Q34 Q35 S0 S1 S2 S4 S5 S6 S7 S8 S9 S10 S11 S12 S13 S14 S15 S16 S17 S18 S19 S20 S21 S22 S23 S24 S25 S26 S27 S28 S29 S30 S31 S32 S33 S34 S35 U0 W0 v5) = some (altK Prod.mk [] (.exit 0) (X_bday_0 l0 l1 (dayGo (⟨S0, S1, S2, l0, ⟨S4, S5, S6, S7, S8, S9, S10⟩, S11, S12, ⟨S13, S14, ⟨S15, S16, S17, S18⟩, ⟨S19, S20, S21, S22⟩⟩, ⟨S23, S24, S25, S26, S27, S28, S29, S30, S31, S32, S33, S34⟩, S35, l1⟩ : Config) (W0 - v5 + 1).toNat v5) Q0 Q1 Q2 Q4 Q5 Q6 Q7 Q8 Q9 Q10 Q11 Q12 Q13 Q14 Q15 Q16 Q17 Q18 Q19 Q20 Q21 Q22 Q23 Q24 Q25 Q26 Q27 Q28 Q29 Q30 Q31 Q32 Q33 Q34 Q35 S0 S1 S2 S4 S5 S6 S7 S8 S9 S10 S11 S12 S13 S14 S15 S16 S17 S18 S19 S20 S21 S22 S23 S24 S25 S26 S27 S28 S29 S30 S31 S32 S33 S34 S35 U0 W0)) := by
 simp only [Bool.and_eq_true, beq_iff_eq, decide_eq_true_eq, fewDays] at hg
 obtain ⟨h0, h1, h2, h3, h4, h5⟩ := hg
 have hl : l9 = [] := List.eq_nil_of_length_eq_zero h2
 subst hl
 refine ⟨40, 3, ?_⟩
 by_cases hx : v5 ≤ 3652100
 ·have := go_bday l0 l1 [] Q0 Q1 Q2 Q4 Q5 Q6 Q7 Q8 Q9 Q10 Q11 Q12 Q13 Q14 Q15 Q16 Q17 Q18 Q19 Q20 Q21 Q22 Q23 Q24 Q25 Q26 Q27 Q28 Q29 Q30 Q31 Q32 Q33 Q34 Q35 S0 S1 S2 S4 S5 S6 S7 S8 S9 S10 S11 S12 S13 S14 S15 S16 S17 S18 S19 S20 S21 S22 S23 S24 S25 S26 S27 S28 S29 S30 S31 S32 S33 S34 S35 U0 W0 v5 40 0 _ rfl h0 h1 h4 (W0 - v5 + 1).toNat v5 [] 40 rfl h3 hx (by simp only [List.length_nil]; omega) (by omega)
  rw [List.nil_append] at this
  exact this
 ·have hz : (W0 - v5 + 1).toNat = 0 := by omega
  rw [hz]
  rw [step_bday]
  dsimp only
  rw [decide_eq_false (by omega : ¬ v5 ≤ W0)]
  rfl
theorem run_table_Spans (a0 : Config) (a1 : Int) (a2 : Int) (hg : small3C a0 a1 a2 = true) : ∃ F d, runO k78 F d 13 Tryz.f13 s_table_Spans r_table_Spans (a0, a1, a2, ()) = some (spansG a0 a1 a2) := by
 refine ⟨200, 6, ?_⟩
 rw [tree_table_Spans]
 obtain ⟨b1, b2, b3, b4⟩ := lens_ok a0
 have hs : smallC a0 = true := hg
 have hs' : decide (a0.stops.length ≤ 1048576) = true := by
  simp only [smallC, Bool.and_eq_true] at hs
  exact hs.1
 rw [b1, b2, b3, b4, hs]
 unfold spansG
 cases hc : config_Check a0 != 0 with
 | true => rfl
 | false =>
  have hw := win_few (show config_Check a0 = 0 by simpa using hc)
  cases hd : daysIn a1 a2 with
  | false =>
   have e : (bif bif bif decide (a1 < 402) then true else decide (a2 > 3651990) then true else decide (a1 > a2) then true else decide (IntKind.i64.wrap (a2 - a1) > 30)) = true := by
    by_cases c1 : a1 < 402
    ·rw [decide_eq_true c1]; rfl
    ·by_cases c2 : a2 > 3651990
     ·rw [decide_eq_false c1, decide_eq_true c2]; rfl
     ·by_cases c3 : a1 > a2
      ·rw [decide_eq_false c1, decide_eq_false c2, decide_eq_true c3]; rfl
      ·rw [decide_eq_false c1, decide_eq_false c2, decide_eq_false c3, wrI (n := a2 - a1) (by omega)]
       simp only [cond_false, decide_eq_true_eq]
       by_cases c4 : a2 - a1 > 30
       ·exact c4
       ·have : daysIn a1 a2 = true := by simp only [daysIn, Bool.and_eq_true, decide_eq_true_eq]; omega
        rw [this] at hd
        cases hd
   rw [e]
   rfl
  | true =>
   obtain ⟨d1, d2, d3, d4⟩ := days_in hd
   rw [wrI (n := a2 - a1) (by omega), decide_eq_false (by omega : ¬ a1 < 402), decide_eq_false (by omega : ¬ a2 > 3651990), decide_eq_false (by omega : ¬ a1 > a2), decide_eq_false (by omega : ¬ a2 - a1 > 30)]
   rw [hs', decide_eq_true (by omega : a0.windows.length ≤ 1000)]
   rw [show fewDays a1 a2 = true by simp only [fewDays, Bool.and_eq_true, decide_eq_true_eq]; omega]
   simp only [beqn, Bool.and_self, Bool.true_and, Bool.and_true, cond_true, cond_false]
theorem run_table_about (a0 : Config) (a1 : Int) (hg : aboutOk a0 a1 = true) : ∃ F d, runO k79 F d 28 Tryz.f28 s_table_about r_table_about (a0, a1, ()) = some (aboutG a0 a1) := by
 refine ⟨200, 6, ?_⟩
 rw [tree_table_about]
 obtain ⟨b1, b2, b3, b4⟩ := lens_ok a0
 have hg' : smallC a0 = true ∧ (-1000000000000 ≤ a1 ∧ a1 ≤ 1000000000000) := by simpa only [aboutOk, big, Bool.and_eq_true, decide_eq_true_eq] using hg
 obtain ⟨hs, h1⟩ := hg'
 have hl := spans_length a0 (a1 - 9) (a1 + 1)
 rw [b1, b2, b3, b4, wrI (n := a1 - 9) (by omega), wrI (n := a1 + 1) (by omega), show small3C a0 (a1 - 9) (a1 + 1) = true from hs]
 rw [show smallS (spansG a0 (a1 - 9) (a1 + 1)).1 = true by simp only [smallS, decide_eq_true_eq]; omega]
 unfold aboutG
 simp only [beqn, ble0, Bool.and_self, Bool.true_and, Bool.and_true, cond_true]
 cases (spansG a0 (a1 - 9) (a1 + 1)).2 != 0 <;> rfl
theorem run_table_Row (a0 : Config) (a1 : Int) (hg : small2C a0 a1 = true) : ∃ F d, runO k80 F d 11 Tryz.f11 s_table_Row r_table_Row (a0, a1, ()) = some (tabRow a0 a1) := by
 refine ⟨200, 6, ?_⟩
 rw [tree_table_Row]
 obtain ⟨b1, b2, b3, b4⟩ := lens_ok a0
 have hs : smallC a0 = true := hg
 rw [b1, b2, b3, b4, hs]
 unfold tabRow
 cases hc : config_Check a0 != 0 with
 | true => rfl
 | false =>
  by_cases h1 : a1 < 411
  ·rw [decide_eq_true h1]; rfl
  ·by_cases h2 : a1 > 3651988
   ·rw [decide_eq_false h1, decide_eq_true h2]; rfl
   ·have hl := about_length a0 a1
    rw [decide_eq_false h1, decide_eq_false h2, wrI (n := a1 + 1) (by omega)]
    rw [show aboutOk a0 a1 = true by simp only [aboutOk, hs, big, Bool.true_and, Bool.and_eq_true, decide_eq_true_eq]; omega]
    rw [show smallSTT (aboutG a0 a1).1 (momG a0.zone a1 0).1 (momG a0.zone (a1 + 1) 0).1 = true by simp only [smallSTT, smallS, decide_eq_true_eq]; omega]
    simp only [beqn, ble0, Bool.and_self, Bool.true_and, Bool.and_true, cond_true, cond_false, Bool.or_self]
    cases (aboutG a0 a1).2 != 0 <;> rfl
theorem run_table_served (a0 : Config) (a1 : Int) (hg : servedOk a0 a1 = true) : ∃ F d, run k81 F d 40 Tryz.f40 s_table_served (a0, a1, ()) = some (r_table_served.enc (servedG a0 a1)) := by
 refine ⟨200, 6, ?_⟩
 rw [tree_table_served]
 have hc : config_Check a0 = 0 := by simpa only [servedOk, beq_iff_eq] using hg
 obtain ⟨z1, _⟩ := zone_facts (check_parts hc).1
 unfold servedG
 have e : (bif decide (a1 < 576000) then true else decide (a1 > 5258879999)) = !inB a1 576000 5258879999 := by
  unfold inB
  rw [Bool.eq_iff_iff]
  cases h1 : decide (a1 < 576000) <;> simp at h1 ⊢ <;> omega
 rw [e]
 cases hb : inB a1 576000 5258879999 with
 | false => rfl
 | true =>
  have h1 := inB_iff.1 hb
  rw [wrI (n := a1 + a0.zone.base) (by omega)]
  rw [show divOk (a1 + a0.zone.base) 1440 = true by simp only [divOk, big, byB, Bool.and_eq_true, decide_eq_true_eq]; omega]
  simp only [Bool.not_true, cond_false, Bool.and_self, cond_true, Bool.true_and]
  cases (ofG ((a1 + a0.zone.base) / 1440)).2 == 0 <;> cases h2 : decide (1900 ≤ (ofG ((a1 + a0.zone.base) / 1440)).1.year) <;> simp only [ge_iff_le, h2, cond_true, cond_false, Bool.true_and, Bool.false_and] <;> rfl
theorem local_big {c : Config} {t : Int} (hc : config_Check c = 0) (hs : servedG c t = true) : -1000000000000 ≤ (localG c.zone t).1 ∧ (localG c.zone t).1 ≤ 1000000000000 := by
 obtain ⟨hz, _⟩ := check_parts hc
 obtain ⟨z1, z2, _⟩ := zone_facts hz
 have h := (served_iff hc).1 hs
 have hr := shift_range (z := c.zone) t z2
 rw [local_told hz (by omega) (by omega)]
 unfold toldG
 dsimp only
 omega
theorem run_table_Mode (a0 : Config) (a1 : Int) (hg : small2C a0 a1 = true) : ∃ F d, run k82 F d 19 Tryz.f19 s_table_Mode (a0, a1, ()) = some (r_table_Mode.enc (modeG a0 a1)) := by
 refine ⟨200, 6, ?_⟩
 rw [tree_table_Mode]
 obtain ⟨b1, b2, b3, b4⟩ := lens_ok a0
 have hs : smallC a0 = true := hg
 rw [b1, b2, b3, b4, hs]
 unfold modeG
 cases hc : config_Check a0 != 0 with
 | true => rfl
 | false =>
  have hc0 : config_Check a0 = 0 := by simpa using hc
  rw [show servedOk a0 a1 = true by simp only [servedOk, hc0, beq_self_eq_true]]
  cases hv : servedG a0 a1 with
  | false => rfl
  | true =>
   have hb := local_big hc0 hv
   have hl := about_length a0 (localG a0.zone a1).1
   rw [show aboutOk a0 (localG a0.zone a1).1 = true by simp only [aboutOk, hs, big, Bool.true_and, Bool.and_eq_true, decide_eq_true_eq]; omega]
   rw [show smallST (aboutG a0 (localG a0.zone a1).1).1 a1 = true by simp only [smallST, smallS, decide_eq_true_eq]; omega]
   unfold atG
   simp only [beqn, ble0, Bool.and_self, Bool.true_and, Bool.and_true, cond_true, cond_false, Bool.not_true]
   cases (findS (aboutG a0 (localG a0.zone a1).1).1 a1).2 <;> rfl
end Go.Proofs.YtfhepbbkggdlcaaGreatDoor.Px.PxT


namespace Go.Proofs.YtfhepbbkggdlcaaGreatDoor.Px.PxT
open Go Go.Proofs
theorem tdiv_mod {a b : Int} (hb : 1 ≤ b) : (a.tmod b = 0 ∨ 0 ≤ a → a / b = a.tdiv b) ∧ (a.tmod b ≠ 0 → a < 0 → a / b = a.tdiv b - 1) := by
 obtain ⟨d1, d2, d3, d4⟩ := div_down (a := a) (b := b) hb
 refine ⟨fun h => (d2 ?_).1, fun h1 h2 => (d1 ?_).1⟩
 ·rcases h with h | h
  ·omega
  ·exact Int.tmod_nonneg b h
 ·have hn := Int.tmod_nonneg b (show 0 ≤ -a by omega)
  rw [Int.neg_tmod] at hn
  omega
theorem run_newelref01_Div (a0 : Int) (a1 : Int) (hg : divOk a0 a1 = true) : ∃ F d, run k95 F d 45 Tryz.f45 s_newelref01_Div (a0, a1, ()) = some (r_newelref01_Div.enc (rDiv a0 a1)) := by
 refine ⟨200, 6, ?_⟩
 rw [tree_newelref01_Div]
 simp only [divOk, byB, big, Bool.and_eq_true, decide_eq_true_eq] at hg
 have e2 : (a1 != 0) = true := by rw [bne_iff_ne]; omega
 obtain ⟨t1, t2⟩ := tdiv_mod (a := a0) (b := a1) (by omega)
 obtain ⟨q1, q2⟩ := div_big (a := a0) (b := a1) (K := 1000000000000) (by omega) (by omega) (by omega) (by omega)
 simp only [e2, cond_true]
 by_cases h : a0.tmod a1 = 0
 ·have f := t1 (.inl h)
  rw [show (a0.tmod a1 != 0) = false by rw [h]; rfl, cond_false, cond_false, ← f, wrI (by omega)]
  rfl
 ·rw [show (a0.tmod a1 != 0) = true by rw [bne_iff_ne]; exact h, cond_true]
  by_cases hn : a0 < 0
  ·have f := t2 h hn
   rw [decide_eq_true hn, cond_true, wrI (n := a0.tdiv a1) (by omega), wrI (by omega), ← f]
   rfl
  ·have f := t1 (.inr (by omega))
   rw [decide_eq_false hn, cond_false, ← f, wrI (by omega)]
   rfl
theorem run_newelref02_Leap (a0 : Int) : ∃ F d, run k96 F d 105 Tryz.f105 s_newelref02_Leap (a0, ()) = some (r_newelref02_Leap.enc (leapG a0)) := by
 refine ⟨200, 6, ?_⟩
 rw [tree_newelref02_Leap]
 simp only [r_newelref02_Leap, Res.bool, leapG]
 cases h1 : Int.tmod a0 4 == 0 <;> cases h2 : Int.tmod a0 100 != 0 <;> cases h3 : Int.tmod a0 400 == 0 <;> rfl
theorem run_newelref02_long (a0 : Int) : ∃ F d, run k97 F d 81 Tryz.f81 s_newelref02_long (a0, ()) = some (r_newelref02_long.enc (rLong a0)) := by
 refine ⟨200, 6, ?_⟩
 rw [tree_newelref02_long]
 simp only [r_newelref02_long, Res.int, rLong]
 cases leapG a0 <;> rfl
theorem run_newelref02_Days (a0 : Int) (a1 : Int) : ∃ F d, run k98 F d 82 Tryz.f82 s_newelref02_Days (a0, a1, ()) = some (r_newelref02_Days.enc (daysG a0 a1)) := by
 refine ⟨200, 6, ?_⟩
 rw [tree_newelref02_Days]
 simp only [r_newelref02_Days, Res.int, daysG]
 have hc : (bif bif bif decide (a0 < 1) then true else decide (a0 > 9999) then true else decide (a1 < 1) then true else decide (a1 > 12)) = !monthB a0 a1 := by
  rw [Bool.eq_iff_iff]
  by_cases h1 : a0 < 1 <;> by_cases h2 : a0 > 9999 <;> by_cases h3 : a1 < 1 <;> by_cases h4 : a1 > 12 <;> simp [monthB, h1, h2, h3, h4] <;> omega
 rw [hc]
 cases hm : monthB a0 a1 with
 | false => rfl
 | true =>
  simp only [monthB, Bool.and_eq_true, decide_eq_true_eq] at hm
  simp only [Bool.not_true, cond_false, cond_true]
  have h12 : a1 = 1 ∨ a1 = 2 ∨ a1 = 3 ∨ a1 = 4 ∨ a1 = 5 ∨ a1 = 6 ∨ a1 = 7 ∨ a1 = 8 ∨ a1 = 9 ∨ a1 = 10 ∨ a1 = 11 ∨ a1 = 12 := by omega
  rcases h12 with rfl | rfl | rfl | rfl | rfl | rfl | rfl | rfl | rfl | rfl | rfl | rfl <;> cases leapG a0 <;> rfl
theorem go_yrs (O0 O1 O2 v0 v3 : Int) (F d : Nat) (N : Int) (h1 : 1 ≤ N) (h2 : N ≤ 3652059) : ∀ (m : Nat) (y : Int) (n : Nat), 1 ≤ y → y + m = yrG N → m < n →
  I_yrs F (d + 3) n (S_yrs O0 O1 O2 (N - beforeG y) y) = some (.exit 0, (X_yrs_0 O0 O1 O2 (N - beforeG (yrG N)) (yrG N))) := by
 obtain ⟨y1, y2, l1, l2, e1, e2⟩ := of_spec h1 h2
 intro m
 induction m with
 | zero =>
  intro y n hy hm hn
  obtain ⟨n, rfl⟩ : ∃ k, n = k + 1 := ⟨n - 1, by omega⟩
  have : y = yrG N := by omega
  subst this
  rw [step_yrs]
  have := long_before y1
  rw [show decide (N - beforeG (yrG N) > rLong (yrG N)) = false by simp; omega, cond_false]
 | succ m ih =>
  intro y n hy hm hn
  obtain ⟨n, rfl⟩ : ∃ k, n = k + 1 := ⟨n - 1, by omega⟩
  have hl := long_before hy
  have hb := beforeG_range (y := y) (by omega) (by omega)
  have hb' := beforeG_range (y := y + 1) (by omega) (by omega)
  have hmo := before_mono (y := y + 1) (z := yrG N) (by omega) (by omega)
  rw [step_yrs]
  rw [show decide (N - beforeG y > rLong y) = true by simp; omega, cond_true, wrI (n := N - beforeG y - rLong y) (by omega), wrI (n := y + 1) (by omega), show N - beforeG y - rLong y = N - beforeG (y + 1) by omega]
  exact ih (y + 1) n (by omega) (by omega) (by omega)
theorem main_yrs (O0 O1 O2 v0 v3 : Int) (hg : (v3 == 1 && dayOk v0) = true) : ∃ N d, I_yrs N d N (S_yrs O0 O1 O2 v0 v3) = some (altK Prod.mk [] (.exit 0) (X_yrs_0 O0 O1 O2 (v0 - beforeG (yrG v0)) (yrG v0))) := by
 simp only [Bool.and_eq_true, beq_iff_eq, dayOk_iff] at hg
 obtain ⟨rfl, h1, h2⟩ := hg
 obtain ⟨y1, y2, _⟩ := of_spec h1 h2
 have := go_yrs O0 O1 O2 v0 1 20000 0 v0 h1 h2 (yrG v0 - 1).toNat 1 20000 (by omega) (by omega) (by omega)
 rw [show v0 - beforeG 1 = v0 by rw [show beforeG 1 = 0 from rfl]; omega] at this
 exact ⟨20000, 3, this⟩
theorem go_mons (O0 O1 O2 v0 v3 v4 : Int) (F d : Nat) (R : Int) (h1 : 1 ≤ v3) (h2 : v3 ≤ 9999) (r1 : 1 ≤ R) (r2 : R ≤ rLong v3) : ∀ (k m : Nat) (n : Nat), 1 ≤ m → m + k = 12 → sumG v3 (m - 1) < R → k < n →
  I_mons F (d + 3) n (S_mons O0 O1 O2 (R - sumG v3 (m - 1)) v3 ((m : Nat) : Int)) = some (.exit 2, (X_mons_0 O0 O1 O2 (R - sumG v3 (monGo v3 (R - 1) m k - 1)) v3 ((monGo v3 (R - 1) m k : Nat) : Int))) := by
 intro k
 have hy := sum_year h1 h2
 induction k with
 | zero =>
  intro m n hm hk hs hn
  obtain ⟨n, rfl⟩ : ∃ k, n = k + 1 := ⟨n - 1, by omega⟩
  have : m = 12 := by omega
  subst this
  rw [step_mons]
  have e : sumG v3 12 = sumG v3 11 + daysG v3 12 := rfl
  rw [show decide (R - sumG v3 (12 - 1) > daysG v3 ((12 : Nat) : Int)) = false by simp; omega, cond_false]
  rfl
 | succ k ih =>
  intro m n hm hk hs hn
  obtain ⟨n, rfl⟩ : ∃ k, n = k + 1 := ⟨n - 1, by omega⟩
  have e : sumG v3 m = sumG v3 (m - 1) + daysG v3 (m : Int) := by
   obtain ⟨j, rfl⟩ : ∃ j, m = j + 1 := ⟨m - 1, by omega⟩
   simp only [sumG, Nat.add_sub_cancel]
   rfl
  have hr := sumG_range v3 (m - 1)
  have hr' := sumG_range v3 m
  have hL : rLong v3 ≤ 366 := by unfold rLong; cases leapG v3 <;> decide
  rw [step_mons]
  simp only [monGo]
  by_cases hc : R - 1 < sumG v3 m
  ·rw [decide_eq_true hc, cond_true, show decide (R - sumG v3 (m - 1) > daysG v3 (m : Int)) = false by simp; omega, cond_false]
  ·rw [decide_eq_false hc, cond_false, show decide (R - sumG v3 (m - 1) > daysG v3 (m : Int)) = true by simp; omega, cond_true, wrI (n := R - sumG v3 (m - 1) - daysG v3 (m : Int)) (by omega), wrI (n := (m : Int) + 1) (by omega)]
   have := ih (m + 1) n (by omega) (by omega) (by rw [Nat.add_sub_cancel]; omega) (by omega)
   rw [Nat.add_sub_cancel] at this
   rw [show R - sumG v3 (m - 1) - daysG v3 (m : Int) = R - sumG v3 m by omega, show (m : Int) + 1 = ((m + 1 : Nat) : Int) by omega]
   exact this
theorem main_mons (O0 O1 O2 v0 v3 v4 : Int) (hg : (v4 == 1 && (decide (1 ≤ v3) && (decide (v3 ≤ 9999) && (decide (1 ≤ v0) && decide (v0 ≤ rLong v3))))) = true) : ∃ N d, I_mons N d N (S_mons O0 O1 O2 v0 v3 v4) = some (altK Prod.mk [] (.exit 2) (X_mons_0 O0 O1 O2 (v0 - sumG v3 (monR v3 v0 - 1)) v3 ((monR v3 v0 : Nat) : Int))) := by
 simp only [Bool.and_eq_true, beq_iff_eq, decide_eq_true_eq] at hg
 obtain ⟨rfl, h1, h2, h3, h4⟩ := hg
 have := go_mons O0 O1 O2 v0 v3 1 200 0 v0 h1 h2 h3 h4 11 1 200 (by omega) (by omega) (by simp only [Nat.sub_self, sumG]; omega) (by omega)
 rw [show v0 - sumG v3 (1 - 1) = v0 by simp only [Nat.sub_self, sumG]; omega] at this
 exact ⟨200, 3, this⟩
theorem run_newelref02_Of (a0 : Int) (hg : dayOk a0 = true) : ∃ F d, run k101 F d 44 Tryz.f44 s_newelref02_Of (a0, ()) = some (r_newelref02_Of.enc (rOf a0)) := by
 refine ⟨200, 6, ?_⟩
 rw [tree_newelref02_Of]
 have h' := dayOk_iff.1 hg
 obtain ⟨y1, y2, l1, l2, e1, e2⟩ := of_spec h'.1 h'.2
 have hl := long_before y1
 rw [hg, show decide (1 ≤ yrG a0) = true by simpa using y1, show decide (yrG a0 ≤ 9999) = true by simpa using y2, show decide (1 ≤ a0 - beforeG (yrG a0)) = true by simp; omega, show decide (a0 - beforeG (yrG a0) ≤ rLong (yrG a0)) = true by simp; omega]
 simp only [Bool.and_self, cond_true]
 have hn : (decide (a0 < 1) || decide (a0 > 3652059)) = false := by simp; omega
 have hm : monR (yrG a0) (a0 - beforeG (yrG a0)) = monG a0 := by
  unfold monR monG
  rw [show a0 - beforeG (yrG a0) - 1 = lfG a0 by omega]
 simp only [r_newelref02_Of, rOf, ofG, hn, cond_false]
 rw [hm, show a0 - beforeG (yrG a0) - sumG (yrG a0) (monG a0 - 1) = lfG a0 - sumG (yrG a0) (monG a0 - 1) + 1 by omega]
 rfl
theorem run_newelref06_Time (a0 : Int) : ∃ F d, run k102 F d 43 Tryz.f43 s_newelref06_Time (a0, ()) = some (r_newelref06_Time.enc (timeB a0)) := by
 refine ⟨200, 6, ?_⟩
 rw [tree_newelref06_Time]
 unfold timeB inB
 cases h : decide (a0 ≥ 576000)
 ·rfl
 ·rfl
theorem run_newelref15_Served (a0 : Config) (a1 : Int) (hg : servedOk a0 a1 = true) : ∃ F d, run k103 F d 21 Tryz.f21 s_newelref15_Served (a0, a1, ()) = some (r_newelref15_Served.enc (servedG a0 a1)) := by
 refine ⟨200, 6, ?_⟩
 rw [tree_newelref15_Served]
 have hc : config_Check a0 = 0 := by simpa only [servedOk, beq_iff_eq] using hg
 obtain ⟨z1, _⟩ := zone_facts (check_parts hc).1
 unfold servedG timeB
 cases hb : inB a1 576000 5258879999 with
 | false => rfl
 | true =>
  have h1 := inB_iff.1 hb
  rw [wrI (n := a1 + a0.zone.base) (by omega)]
  rw [show divOk (a1 + a0.zone.base) 1440 = true by simp only [divOk, big, byB, Bool.and_eq_true, decide_eq_true_eq]; omega]
  have hd : dayOk ((a1 + a0.zone.base) / 1440) = true := dayOk_iff.2 (by omega)
  have he := (of_date hd).2.2.1
  unfold rDiv rOf
  rw [hd, he]
  simp only [Bool.not_true, cond_false, Bool.and_self, cond_true, Bool.true_and, beq_self_eq_true]
  cases h2 : decide (1900 ≤ (ofG ((a1 + a0.zone.base) / 1440)).1.year) <;> simp only [ge_iff_le, h2, cond_true, cond_false, Bool.true_and, Bool.false_and] <;> rfl
end Go.Proofs.YtfhepbbkggdlcaaGreatDoor.Px.PxT


namespace Go.Proofs.YtfhepbbkggdlcaaGreatDoor.Px.PxT
open Go Go.Proofs
theorem row_length (c : Config) (d : Int) : (tabRow c d).1.length ≤ 1000 := by
 unfold tabRow
 cases config_Check c != 0
 ·cases (decide (d < 411) || decide (d > 3651988))
  ·cases (aboutG c d).2 != 0
   ·exact Nat.le_trans (cutL_length _ _ _) (about_length c d)
   ·simp
  ·simp
 ·simp
theorem run_newellaw15_TableDay (a0 : Config) (a1 : Int) : ∃ F d, run k104 F d 5 Tryz.f5 s_newellaw15_TableDay (a0, a1, ()) = some (AV.bool true) := by
 refine ⟨200, 6, ?_⟩
 rw [tree_newellaw15_TableDay]
 simp only [beqn, ble0, Bool.true_and, Bool.and_true, Bool.and_self, cond_true]
 cases hf : few10 a0 with
 | false => simp only [Bool.not_false, Bool.not_true, Bool.or_true, cond_true]
 | true =>
  have hs := few_small hf
  rw [hs, ref_Check_eq]
  simp only [Bool.not_false, Bool.not_true, Bool.true_or, cond_true, cond_false]
  cases hc : config_Check a0 != 0 with
  | true => simp only [Bool.not_true, Bool.not_false, Bool.or_true, cond_true]
  | false =>
   have hc0 : config_Check a0 = 0 := by simpa using hc
   rw [show servedOk a0 a1 = true by simp only [servedOk, hc0, beq_self_eq_true]]
   cases hv : servedG a0 a1 with
   | false => rfl
   | true =>
    obtain ⟨w1, w2, w3, w4, w5, w6, w7⟩ := day_law hc0 hv
    have hL := row_length a0 (localG a0.zone a1).1
    rw [wrI (n := (localG a0.zone a1).1 + 1) (by omega)]
    rw [w1, w3, w4, mode_ok a1 hc0, show small2C a0 a1 = true from hs, show small2C a0 (localG a0.zone a1).1 = true from hs]
    rw [show smallST (tabRow a0 (localG a0.zone a1).1).1 a1 = true by simp only [smallST, smallS, decide_eq_true_eq]; omega]
    by_cases hE : a1 ≥ (momG a0.zone ((localG a0.zone a1).1 + 1) 0).1
    ·rw [decide_eq_true hE, w5 hE]
     rfl
    ·rw [decide_eq_false hE]
     have hE' : a1 < (momG a0.zone ((localG a0.zone a1).1 + 1) 0).1 := by omega
     cases hi : (findS (tabRow a0 (localG a0.zone a1).1).1 a1).2 with
     | false =>
      rw [w6 hE' hi]
      rfl
     | true =>
      obtain ⟨x1, x2, x3⟩ := w7 hE' hi
      rw [x1, decide_eq_true x2, decide_eq_true x3]
      simp only [cond_true, cond_false, bne_self_eq_false, beq_self_eq_true, Bool.true_or, Bool.not_true, Bool.not_false, Bool.and_self, Bool.true_and]
end Go.Proofs.YtfhepbbkggdlcaaGreatDoor.Px.PxT
