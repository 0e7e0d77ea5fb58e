/- A span is as long as its window: the law. -/
import Derived.Test.YtgfinnhojeghhaaDoorPxXProofs4
set_option linter.unusedVariables false
set_option linter.unusedSimpArgs false
namespace Go.Proofs.YtgfinnhojeghhaaDoor.Px.PxX
open Go Go.Proofs
set_option linter.unusedSimpArgs false
set_option linter.unusedVariables false

theorem run_newellaw14_WindowLong (a0 : Config) (a1 : Window) (a2 : Int) : ∃ F d, run k63 F d 4 Tryd.f4 s_newellaw14_WindowLong (a0, a1, a2, ()) = some (AV.bool true) := by
  refine ⟨200, 6, ?_⟩
  rw [tree_newellaw14_WindowLong]
  obtain ⟨b1, b2, b3, b4⟩ := lens_ok a0
  rw [b1, b2, b3, b4]
  cases hf : few10 a0 with
  | false => rfl
  | true =>
    have hs := few_small hf
    rw [hs, show spanOk a0 a1 a2 = true from hs]
    rcases span_cases a0 a1 a2 with ⟨he, e⟩ | ⟨⟨h1, h2, h3⟩, e⟩
    · rw [e]
      have : (spanErr a0 a1 a2 != 0) = true := by simpa using he
      dsimp only
      rw [this]
      rfl
    · cases ho : (opens a0 a1 a2).2.2 with
      | false => rw [e, ho]; rfl
      | true =>
        rw [ho, cond_true] at e
        have hE : (spanG a0 a1 a2).2.2 = 0 := by rw [e]
        have hI : (spanG a0 a1 a2).2.1 = true := by rw [e]
        have hF : (spanG a0 a1 a2).1.from_ = (opens a0 a1 a2).1 := by rw [e]
        have hT : (spanG a0 a1 a2).1.to_ = (opens a0 a1 a2).2.1 := by rw [e]
        have hM : (spanG a0 a1 a2).1.mode = a1.mode := by rw [e]
        have hP : (spanG a0 a1 a2).1.prio = a1.prio := by rw [e]
        have hd := (rec_iff _).1 h3
        obtain ⟨z1, _⟩ := zone_facts (check_parts h1).1
        rw [hE, hI, hF, hT, hM, hP]
        by_cases hk : a1.kind = 4
        · obtain ⟨L, m, n, _, l1, m1, n1, f1, f2, o1, o2⟩ := (rest_open hk h1 h2 h3).2 ho
          rw [o1, o2, hk]
          rw [wrI (n := L * 1440 + n - a0.zone.base + a1.len - (a2 * 1440 + m - a0.zone.base - a1.minute)) (by omega)]
          rw [decide_eq_false (by omega : ¬ a2 * 1440 + m - a0.zone.base - a1.minute ≥ L * 1440 + n - a0.zone.base + a1.len)]
          rw [decide_eq_true (by omega : L * 1440 + n - a0.zone.base + a1.len - (a2 * 1440 + m - a0.zone.base - a1.minute) > 1000)]
          rw [decide_eq_true (by omega : L * 1440 + n - a0.zone.base + a1.len - (a2 * 1440 + m - a0.zone.base - a1.minute) < 7200)]
          simp only [bne_self_eq_false, cond_false, cond_true, beq_self_eq_true, Bool.not_true, Bool.and_self, Bool.true_and]
        · obtain ⟨m1, m2, m3, o1, o2⟩ := timed_open hk h1 h2 h3
          rw [o1, o2, m1]
          rw [wrI (n := (momG a0.zone a2 a1.minute).1 + a1.len) (by omega)]
          rw [decide_eq_false (by omega : ¬ (momG a0.zone a2 a1.minute).1 ≥ (momG a0.zone a2 a1.minute).1 + a1.len)]
          rw [show (a1.kind == 4) = false by simpa using hk]
          simp only [bne_self_eq_false, cond_false, cond_true, beq_self_eq_true, Bool.not_true, Bool.and_self, Bool.true_and]
end Go.Proofs.YtgfinnhojeghhaaDoor.Px.PxX


namespace Go.Proofs.YtgfinnhojeghhaaDoor.Px.PxX
open Go Go.Proofs
set_option linter.unusedSimpArgs false
set_option linter.unusedVariables false

theorem go_noon (l0 : List (Int)) (l1 : List (Window)) (l4 : List (Int)) (l5 : List (Window)) (v2_0 v2_1 v2_2 v2_4 v2_5 v2_6 v2_7 v2_8 v2_9 v2_10 v2_11 v2_12 v2_13 v2_14 v2_15 v2_16 v2_17 v2_18 v2_19 v2_20 v2_21 v2_22 v2_23 v2_24 v2_25 v2_26 v2_27 v2_28 v2_29 v2_30 v2_31 v2_32 v2_33 v2_34 : Int) (v2_35 : Bool) (v3_0 v3_1 v3_2 v3_3 v3_4 v3_5 v3_6 v6_0 v6_1 v6_2 v6_3 v11 v13 v14 : Int) (F d : Nat) (hb : lit v2_13 = true) : ∀ (k : Nat) (x : Int) (n : Nat), (v11 - x + 1).toNat = k → 0 ≤ x → v11 ≤ 20000000 → x ≤ v11 + 1 → (x ≤ v11 → v6_0 ≤ x * 1440 + 720 - v2_13) → (v11 * 1440 + 720 - v2_13 < v6_1) → k < n →
    I_noon F (d + 3) n (S_noon l0 l1 l4 l5 v2_0 v2_1 v2_2 v2_4 v2_5 v2_6 v2_7 v2_8 v2_9 v2_10 v2_11 v2_12 v2_13 v2_14 v2_15 v2_16 v2_17 v2_18 v2_19 v2_20 v2_21 v2_22 v2_23 v2_24 v2_25 v2_26 v2_27 v2_28 v2_29 v2_30 v2_31 v2_32 v2_33 v2_34 v2_35 v3_0 v3_1 v3_2 v3_3 v3_4 v3_5 v3_6 v6_0 v6_1 v6_2 v6_3 v11 v13 x) = some (.exit 0, (X_noon_1 l0 l1 l4 l5 v2_0 v2_1 v2_2 v2_4 v2_5 v2_6 v2_7 v2_8 v2_9 v2_10 v2_11 v2_12 v2_13 v2_14 v2_15 v2_16 v2_17 v2_18 v2_19 v2_20 v2_21 v2_22 v2_23 v2_24 v2_25 v2_26 v2_27 v2_28 v2_29 v2_30 v2_31 v2_32 v2_33 v2_34 v2_35 v3_0 v3_1 v3_2 v3_3 v3_4 v3_5 v3_6 v6_0 v6_1 v6_2 v6_3 v11 v13)) := by
  have hb' : -100000 ≤ v2_13 ∧ v2_13 ≤ 100000 := by simpa only [lit, Bool.and_eq_true, decide_eq_true_eq] using hb
  intro k
  induction k with
  | zero =>
    intro x n hk h0 h1 h2 h3 h4 hn
    obtain ⟨n, rfl⟩ : ∃ k, n = k + 1 := ⟨n - 1, by omega⟩
    rw [step_noon, decide_eq_false (by omega : ¬ x ≤ v11)]
    rfl
  | succ k ih =>
    intro x n hk h0 h1 h2 h3 h4 hn
    obtain ⟨n, rfl⟩ : ∃ k, n = k + 1 := ⟨n - 1, by omega⟩
    have hx : x ≤ v11 := by omega
    have h5 := h3 hx
    rw [step_noon, decide_eq_true hx, cond_true, wrI (n := x * 1440) (by omega), wrI (n := x * 1440 + 720) (by omega), wrI (n := x * 1440 + 720 - v2_13) (by omega), wrI (n := x + 1) (by omega)]
    rw [decide_eq_false (by omega : ¬ x * 1440 + 720 - v2_13 < v6_0), decide_eq_false (by omega : ¬ x * 1440 + 720 - v2_13 ≥ v6_1)]
    simp only [cond_false]
    exact ih (x + 1) n (by omega) (by omega) h1 (by omega) (fun _ => by omega) h4 (by omega)

theorem main_noon (l0 : List (Int)) (l1 : List (Window)) (l4 : List (Int)) (l5 : List (Window)) (v2_0 v2_1 v2_2 v2_4 v2_5 v2_6 v2_7 v2_8 v2_9 v2_10 v2_11 v2_12 v2_13 v2_14 v2_15 v2_16 v2_17 v2_18 v2_19 v2_20 v2_21 v2_22 v2_23 v2_24 v2_25 v2_26 v2_27 v2_28 v2_29 v2_30 v2_31 v2_32 v2_33 v2_34 : Int) (v2_35 : Bool) (v3_0 v3_1 v3_2 v3_3 v3_4 v3_5 v3_6 v6_0 v6_1 v6_2 v6_3 v11 v13 v14 : Int) (hg : (noonB v2_13 v6_0 v6_1 v14 v11) = true) : ∃ N d, I_noon N d N (S_noon l0 l1 l4 l5 v2_0 v2_1 v2_2 v2_4 v2_5 v2_6 v2_7 v2_8 v2_9 v2_10 v2_11 v2_12 v2_13 v2_14 v2_15 v2_16 v2_17 v2_18 v2_19 v2_20 v2_21 v2_22 v2_23 v2_24 v2_25 v2_26 v2_27 v2_28 v2_29 v2_30 v2_31 v2_32 v2_33 v2_34 v2_35 v3_0 v3_1 v3_2 v3_3 v3_4 v3_5 v3_6 v6_0 v6_1 v6_2 v6_3 v11 v13 v14) = some (altK Prod.mk [] (.exit 0) (X_noon_1 l0 l1 l4 l5 v2_0 v2_1 v2_2 v2_4 v2_5 v2_6 v2_7 v2_8 v2_9 v2_10 v2_11 v2_12 v2_13 v2_14 v2_15 v2_16 v2_17 v2_18 v2_19 v2_20 v2_21 v2_22 v2_23 v2_24 v2_25 v2_26 v2_27 v2_28 v2_29 v2_30 v2_31 v2_32 v2_33 v2_34 v2_35 v3_0 v3_1 v3_2 v3_3 v3_4 v3_5 v3_6 v6_0 v6_1 v6_2 v6_3 v11 v13)) := by
  simp only [noonB, Bool.and_eq_true, decide_eq_true_eq] at hg
  obtain ⟨h1, h2, h3, h4, h5, h6, h7⟩ := hg
  exact ⟨20, 3, go_noon l0 l1 l4 l5 v2_0 v2_1 v2_2 v2_4 v2_5 v2_6 v2_7 v2_8 v2_9 v2_10 v2_11 v2_12 v2_13 v2_14 v2_15 v2_16 v2_17 v2_18 v2_19 v2_20 v2_21 v2_22 v2_23 v2_24 v2_25 v2_26 v2_27 v2_28 v2_29 v2_30 v2_31 v2_32 v2_33 v2_34 v2_35 v3_0 v3_1 v3_2 v3_3 v3_4 v3_5 v3_6 v6_0 v6_1 v6_2 v6_3 v11 v13 v14 20 0 h1 (v11 - v14 + 1).toNat v14 20 rfl h2 (by omega) (by omega) (fun _ => h6) h7 (by omega)⟩

theorem run_newellaw14_WindowRests (a0 : Config) (a1 : Window) (a2 : Int) : ∃ F d, run k65 F d 5 Tryd.f5 s_newellaw14_WindowRests (a0, a1, a2, ()) = some (AV.bool true) := by
  refine ⟨200, 6, ?_⟩
  rw [tree_newellaw14_WindowRests]
  obtain ⟨b1, b2, b3, b4⟩ := lens_ok a0
  rw [b1, b2, b3, b4]
  cases hf : few10 a0 with
  | false => rfl
  | true =>
    have hs := few_small hf
    generalize hw : (⟨4, a1.mode, a1.prio, a1.arg, a1.shift, a1.minute, a1.len⟩ : Window) = w
    rw [hs, show spanOk a0 w a2 = true from hs]
    rcases span_cases a0 w a2 with ⟨he, e⟩ | ⟨⟨h1, h2, h3⟩, e⟩
    · rw [e]
      have : (spanErr a0 w a2 != 0) = true := by simpa using he
      dsimp only
      rw [this]
      rfl
    · have hk : w.kind = 4 := by rw [← hw]
      have hd := (rec_iff _).1 h3
      obtain ⟨z1, _⟩ := zone_facts (check_parts h1).1
      obtain ⟨r1, r2⟩ := rest_open hk h1 h2 h3
      rw [wrI (n := a2 + 1) (by omega)]
      cases ho : (opens a0 w a2).2.2 with
      | false =>
        rw [ho] at r1
        rw [ho, cond_false] at e
        have hE : (spanG a0 w a2).2.2 = 0 := by rw [e]
        have hI : (spanG a0 w a2).2.1 = false := by rw [e]
        rw [hE, hI]
        unfold runG
        cases hr : restG (a2 + 1) a0.abroad with
        | false => rfl
        | true =>
          have hn : restG a2 a0.abroad = true := by
            rw [hr] at r1
            cases hn : restG a2 a0.abroad with
            | true => rfl
            | false => rw [hn] at r1; cases r1
          have hle : runEnd (-1) a0.abroad 10 (a2 + 1) ≤ a2 + 1 - 1 := (run_back (ab := a0.abroad) 9 (a2 + 1)).2 (by rw [show a2 + 1 - 1 = a2 by omega]; exact hn)
          have h2 : decide (Prod.fst (bif true then (runEnd (-1) a0.abroad 10 (a2 + 1), runEnd 1 a0.abroad 10 (a2 + 1), (0 : Int)) else (0, 0, 51)) ≤ a2) = true := decide_eq_true (by show runEnd (-1) a0.abroad 10 (a2 + 1) ≤ a2; omega)
          rw [h2]
          rfl
      | true =>
        rw [ho] at r1
        rw [ho, cond_true] at e
        have r1' := r1.symm
        simp only [Bool.and_eq_true, Bool.not_eq_true'] at r1'
        obtain ⟨q1, q2⟩ := r1'
        obtain ⟨L, m, n, eL, l1, m1, n1, f1, f2, o1, o2⟩ := r2 ho
        have hE : (spanG a0 w a2).2.2 = 0 := by rw [e]
        have hI : (spanG a0 w a2).2.1 = true := by rw [e]
        have hF : (spanG a0 w a2).1.from_ = a2 * 1440 + m - a0.zone.base - w.minute := by rw [e, ← o1]
        have hT : (spanG a0 w a2).1.to_ = L * 1440 + n - a0.zone.base + w.len := by rw [e, ← o2]
        have eb : runEnd (-1) a0.abroad 10 (a2 + 1) = a2 + 1 := (run_back (ab := a0.abroad) 9 (a2 + 1)).1 (by rw [show a2 + 1 - 1 = a2 by omega]; exact q2)
        have er : runG (a2 + 1) a0.abroad = (a2 + 1, L, 0) := by
          unfold runG
          rw [q1, eb, ← eL]
          rfl
        have er1 : (runG (a2 + 1) a0.abroad).1 = a2 + 1 := by rw [er]
        have er2 : (runG (a2 + 1) a0.abroad).2.1 = L := by rw [er]
        have er3 : (runG (a2 + 1) a0.abroad).2.2 = 0 := by rw [er]
        rw [hE, hI, hF, hT, er1, er2, er3]
        rw [wrI (n := L - (a2 + 1)) (by omega), wrI (n := a2 * 1440) (by omega), wrI (n := a2 * 1440 + 720) (by omega), wrI (n := a2 * 1440 + 720 - a0.zone.base) (by omega), wrI (n := L * 1440) (by omega), wrI (n := L * 1440 + 1500) (by omega), wrI (n := L * 1440 + 1500 - a0.zone.base) (by omega)]
        rw [decide_eq_false (by omega : ¬ L - (a2 + 1) > 2)]
        rw [show noonB a0.zone.base (a2 * 1440 + m - a0.zone.base - w.minute) (L * 1440 + n - a0.zone.base + w.len) (a2 + 1) L = true by simp only [noonB, lit, Bool.and_eq_true, decide_eq_true_eq]; omega]
        rw [decide_eq_true (by omega : a2 * 1440 + 720 - a0.zone.base ≤ a2 * 1440 + m - a0.zone.base - w.minute), decide_eq_true (by omega : L * 1440 + 1500 - a0.zone.base ≥ L * 1440 + n - a0.zone.base + w.len)]
        simp only [bne_self_eq_false, cond_false, cond_true, beq_self_eq_true, Bool.not_true, Bool.and_self, Bool.true_and]
end Go.Proofs.YtgfinnhojeghhaaDoor.Px.PxX


namespace Go.Proofs.YtgfinnhojeghhaaDoor.Px.PxX
open Go Go.Proofs
set_option linter.unusedSimpArgs false
set_option linter.unusedVariables false

theorem span_is {c : Config} {w : Window} {d : Int} (hk : w.kind = 4) (he : (spanG c w d).2.2 = 0) (hi : (spanG c w d).2.1 = true) : restG d c.abroad = false ∧ restG (d + 1) c.abroad = true ∧ ∃ m n : Int, (900 ≤ m ∧ m ≤ 1320) ∧ (900 ≤ n ∧ n ≤ 1320) ∧ (0 ≤ w.minute ∧ w.minute ≤ 180) ∧ (0 ≤ w.len ∧ w.len ≤ 180) ∧
    (spanG c w d).1.from_ = d * 1440 + m - c.zone.base - w.minute ∧ (spanG c w d).1.to_ = runEnd 1 c.abroad 10 (d + 1) * 1440 + n - c.zone.base + w.len := by
  rcases span_cases c w d with ⟨h, e⟩ | ⟨⟨h1, h2, h3⟩, e⟩
  · rw [e] at hi
    cases hi
  · rw [e] at hi ⊢
    obtain ⟨r1, r2⟩ := rest_open hk h1 h2 h3
    cases ho : (opens c w d).2.2 with
    | false => rw [ho] at hi; cases hi
    | true =>
      rw [ho] at r1
      have r1' := r1.symm
      simp only [Bool.and_eq_true, Bool.not_eq_true'] at r1'
      obtain ⟨L, m, n, rfl, l1, m1, n1, f1, f2, o1, o2⟩ := r2 ho
      exact ⟨r1'.2, r1'.1, m, n, m1, n1, f1, f2, o1, o2⟩

theorem run_newellaw14_WindowApart (a0 : TwoWin) : ∃ F d, run k66 F d 6 Tryd.f6 s_newellaw14_WindowApart (a0, ()) = some (AV.bool true) := by
  refine ⟨200, 6, ?_⟩
  rw [tree_newellaw14_WindowApart]
  obtain ⟨c, w0, d, x⟩ := a0
  obtain ⟨b1, b2, b3, b4⟩ := lens_ok c
  dsimp only
  rw [b1, b2, b3, b4]
  cases hf : few10 c with
  | false => rfl
  | true =>
    have hs := few_small hf
    generalize hw : (⟨4, w0.mode, w0.prio, w0.arg, w0.shift, w0.minute, w0.len⟩ : Window) = w
    rw [hs, show ∀ n, spanOk c w n = true from fun _ => hs, show ∀ n, spanOk c w n = true from fun _ => hs]
    simp only [Bool.and_self, Bool.true_and, Bool.and_true, cond_true, Bool.not_true, cond_false]
    have hk : w.kind = 4 := by rw [← hw]
    cases hx1 : decide (x < 1) with
    | true => rfl
    | false =>
      cases hx2 : decide (x > 20) with
      | true => rfl
      | false =>
        simp only [decide_eq_false_iff_not] at hx1 hx2
        simp only [cond_false]
        cases e1 : (spanG c w d).2.2 != 0 with
        | true => rfl
        | false =>
          cases e2 : (spanG c w (IntKind.wrap IntKind.i64 (d + x))).2.2 != 0 with
          | true => rfl
          | false =>
            cases i1 : (spanG c w d).2.1 with
            | false => rfl
            | true =>
              cases i2 : (spanG c w (IntKind.wrap IntKind.i64 (d + x))).2.1 with
              | false => rfl
              | true =>
                simp only [cond_false, Bool.not_true, cond_true]
                have e1' : (spanG c w d).2.2 = 0 := by simpa using e1
                have e2' : (spanG c w (IntKind.wrap IntKind.i64 (d + x))).2.2 = 0 := by simpa using e2
                have hd : 402 ≤ d ∧ d ≤ 3651990 := by
                  rcases span_cases c w d with ⟨h, e⟩ | ⟨⟨h1, h2, h3⟩, e⟩
                  · rw [e] at i1; cases i1
                  · exact (rec_iff d).1 h3
                rw [wrI (n := d + x) (by omega)] at e2' i2 ⊢
                obtain ⟨p1, p2, m, n, m1, n1, f1, f2, o1, o2⟩ := span_is hk e1' i1
                obtain ⟨q1, q2, m', n', m1', n1', f1', f2', o1', o2'⟩ := span_is hk e2' i2
                obtain ⟨l1, l2, l3, l4⟩ := run_last p2
                have hl : runEnd 1 c.abroad 10 (d + 1) < d + x := by
                  by_cases h : runEnd 1 c.abroad 10 (d + 1) < d + x
                  · exact h
                  · have := l4 (d + x) (by omega) (by omega)
                    rw [this] at q1
                    cases q1
                rw [o2, o1', decide_eq_true (by omega)]
end Go.Proofs.YtgfinnhojeghhaaDoor.Px.PxX
