/- Spans: the functions and loops are what is said of them. -/
import Derived.Test.YtdadgkgkdgnihaaPxVSteps
import Derived.Test.YtdadgkgkdgnihaaPxSpecSpan2
set_option linter.unusedVariables false
set_option linter.unusedSimpArgs false
namespace Go.Proofs.Ytdadgkgkdgnihaa.Px.PxV
open Go Go.Proofs
set_option linter.unusedSimpArgs false
set_option linter.unusedVariables false

theorem run_span_within (a0 : Span) (a1 : Int) : ∃ F d, run k0 F d 29 Try.f29 s_span_within (a0, a1, ()) = some (r_span_within.enc (inS a0 a1)) := by
  refine ⟨200, 6, ?_⟩
  rw [tree_span_within, and_false']
  rfl

theorem run_lessS (a0 : Span) (a1 : Span) : ∃ F d, run k1 F d 33 Try.f33 s_lessS (a0, a1, ()) = some (r_lessS.enc (lessS a0 a1)) := by
  refine ⟨200, 6, ?_⟩
  rw [tree_lessS, and_false', or_true']
  rfl

theorem run_newellaw13_own (a0 : List Span) (hg : smallS a0 = true) : ∃ F d, runO k2 F d 11 Try.f11 s_newellaw13_own r_newellaw13_own (a0, ()) = some (ownS a0) := by
  refine ⟨200, 6, ?_⟩
  rw [tree_newellaw13_own]
  simp only [smallS, decide_eq_true_eq] at hg
  have : Nat.ble a0.length 1048576 = true := by simpa using hg
  simp only [beqn, this, Bool.and_self, cond_true]
  rfl

theorem go_same (l0 l1 : List (Span)) (v5 : Int) (F d : Nat) : ∀ (suf sug pre : List Span) (n : Nat), suf.length < n → (pre ++ suf).length ≤ 1048576 → suf.length = sug.length →
    I_same F (d + 3) n (S_same (pre ++ suf) (pre ++ sug) ((pre.length : Nat) : Int)) = cond (eqSpans suf sug) (some (.exit 0, (X_same_1 (pre ++ suf) (pre ++ sug)))) (some (.ret, (X_same_0 (pre ++ suf) (pre ++ sug)))) := by
  intro suf
  induction suf with
  | nil =>
    intro sug pre n hn hl he
    obtain ⟨n, rfl⟩ : ∃ k, n = k + 1 := ⟨n - 1, by omega⟩
    have : sug = [] := List.length_eq_zero_iff.1 he.symm
    subst this
    rw [step_same, idx_end, cond_false]
    rfl
  | cons x suf ih =>
    intro sug pre n hn hl he
    obtain ⟨n, rfl⟩ : ∃ k, n = k + 1 := ⟨n - 1, by omega⟩
    obtain ⟨y, sug, rfl⟩ : ∃ y s, sug = y :: s := by
      cases sug with
      | nil => simp at he
      | cons y s => exact ⟨y, s, rfl⟩
    have ih' := ih sug (pre ++ [x]) n (by simp at hn; omega) (by simpa using hl) (by simpa using he)
    rw [step_same]
    simp only [idx_lt, idx_ge, Bool.and_self, cond_true, idx_nat, idx_at, idx_next hl, spanEq]
    rw [← idx_step, ← idx_step] at ih'
    by_cases hxy : x = y
    · subst hxy
      simp only [decide_true, Bool.not_true, cond_false]
      rw [ih']
      simp [eqSpans]
    · simp only [hxy, decide_false, Bool.not_false, cond_true]
      simp [eqSpans, hxy]

theorem main_same (l0 l1 : List (Span)) (v5 : Int) (hg : (decide (l0.length ≤ 1048576) && (l0.length == l1.length && v5 == 0)) = true) : ∃ N d, I_same N d N (S_same l0 l1 v5) = some (altK Prod.mk [(eqSpans l0 l1, .exit 0, (X_same_1 l0 l1))] (.ret) (X_same_0 l0 l1)) := by
  simp only [Bool.and_eq_true, decide_eq_true_eq, beq_iff_eq] at hg
  obtain ⟨h1, h2, rfl⟩ := hg
  have := go_same l0 l1 0 (l0.length + 3) 0 l0 l1 [] (l0.length + 3) (by omega) (by simpa using h1) h2
  refine ⟨l0.length + 3, 3, ?_⟩
  simp only [List.nil_append, List.length_nil] at this
  rw [show ((0 : Nat) : Int) = 0 from rfl] at this
  rw [this]
  cases h : eqSpans l0 l1 <;> simp [altK, h]

theorem run_newelref13_Same (a0 : List Span) (a1 : List Span) (hg : smallSS a0 a1 = true) : ∃ F d, run k4 F d 13 Try.f13 s_newelref13_Same (a0, a1, ()) = some (r_newelref13_Same.enc (eqSpans a0 a1)) := by
  refine ⟨200, 6, ?_⟩
  rw [tree_newelref13_Same]
  simp only [smallSS, decide_eq_true_eq] at hg
  simp only [r_newelref13_Same, Res.bool, beqn, ble0, Bool.true_and, Bool.and_true, Bool.and_self, cond_true, cond_false, and_false', or_true', hg, decide_true]
  by_cases h : a0.length = a1.length
  · simp [h, eqSpans]
    by_cases e : a0 = a1 <;> simp [e]
  · have : a0 ≠ a1 := fun e => h (by rw [e])
    have hb : (((a0.length : Nat) : Int) != ((a1.length : Nat) : Int)) = true := by simp; omega
    rw [hb]
    simp [eqSpans, this]

theorem go_weight (l0 : List (Span)) (v1 v5 v10 v11 : Int) (F d : Nat) : ∀ (suf pre : List Span) (best : Int) (n : Nat), suf.length < n → (pre ++ suf).length ≤ 1048576 → -1 ≤ best → best < (pre.length : Int) →
    I_weight F (d + 3) n (S_weight (pre ++ suf) v1 best (((pre ++ suf).length : Nat) : Int) ((pre.length : Nat) : Int)) = some (.exit 0, (X_weight_0 (pre ++ suf) (wGo (pre ++ suf) v1 suf ((pre.length : Nat) : Int) best))) := by
  intro suf
  induction suf with
  | nil =>
    intro pre best n hn hl h1 h2
    obtain ⟨n, rfl⟩ : ∃ k, n = k + 1 := ⟨n - 1, by omega⟩
    rw [step_weight, idx_end, cond_false]
    rfl
  | cons x suf ih =>
    intro pre best n hn hl h1 h2
    obtain ⟨n, rfl⟩ : ∃ k, n = k + 1 := ⟨n - 1, by omega⟩
    have ih' := fun b h1 h2 => ih (pre ++ [x]) b n (by simp at hn; omega) (by simpa using hl) h1 h2
    rw [step_weight]
    simp only [idx_lt, idx_ge, Bool.and_self, cond_true, idx_nat, idx_at, idx_next hl]
    rw [← idx_step] at ih'
    have g1 : (decide (0 ≤ best) && decide (best < (((pre ++ x :: suf).length : Nat) : Int)) || !(inS x v1 && !decide (best < 0))) = true := by
      by_cases h : best < 0
      · simp [h]
      · have : 0 ≤ best ∧ best < (((pre ++ x :: suf).length : Nat) : Int) := ⟨by omega, by simp; omega⟩
        simp only [this.1, this.2, decide_true, Bool.and_self, Bool.true_or]
    have g2 : (decide (0 + Int.toNat best < (pre ++ x :: suf).length) || !(inS x v1 && !decide (best < 0))) = true := by
      by_cases h : best < 0
      · simp [h]
      · have : 0 + best.toNat < (pre ++ x :: suf).length := by simp; omega
        simp only [this, decide_true, Bool.true_or]
    rw [g1, cond_true, g2, cond_true]
    conv => rhs; unfold wGo
    simp only [and_false', or_true', Nat.zero_add]
    have es : (⟨0, 0, 0, 0⟩ : Span) = span0 := rfl
    simp only [es]
    have e3 : (((pre ++ [x]).length : Nat) : Int) = ((pre.length : Nat) : Int) + 1 := by simp
    cases (inS x v1 && (decide (best < 0) || !lessS x (List.getD (pre ++ x :: suf) best.toNat span0)))
    · rw [cond_false, cond_false, ih' best h1 (by rw [e3]; omega), e3]
    · rw [cond_true, cond_true, ih' _ (by omega) (by rw [e3]; omega), e3]

theorem main_weight (l0 : List (Span)) (v1 v5 v10 v11 : Int) (hg : (decide (l0.length ≤ 1048576) && (v10 == (l0.length : Int) && (v11 == 0 && v5 == -1))) = true) : ∃ N d, I_weight N d N (S_weight l0 v1 v5 v10 v11) = some (altK Prod.mk [] (.exit 0) (X_weight_0 l0 (weightI l0 v1))) := by
  simp only [Bool.and_eq_true, decide_eq_true_eq, beq_iff_eq] at hg
  obtain ⟨h1, rfl, rfl, rfl⟩ := hg
  have := go_weight l0 v1 (-1) 0 0 (l0.length + 3) 0 l0 [] (-1) (l0.length + 3) (by omega) (by simpa using h1) (by omega) (by simp)
  exact ⟨l0.length + 3, 3, by simpa [altK, weightI] using this⟩

theorem run_span_weightiest (a0 : List Span) (a1 : Int) (hg : smallST a0 a1 = true) : ∃ F d, run k6 F d 23 Try.f23 s_span_weightiest (a0, a1, ()) = some (r_span_weightiest.enc (weightI a0 a1)) := by
  refine ⟨200, 6, ?_⟩
  rw [tree_span_weightiest]
  simp only [smallST, smallS, decide_eq_true_eq] at hg
  simp only [beqn, hg, decide_true, Bool.true_and, Bool.and_true, Bool.and_self, beq_self_eq_true, cond_true]
  rfl

theorem go_atix (l0 : List (Span)) (v1_0 v2_0 v2_1 v2_2 v2_3 v7 v8 : Int) (F d : Nat) : ∀ (suf pre : List Span) (n : Nat), suf.length < n → (pre ++ suf).length ≤ 1048576 →
    I_atix F (d + 3) n (S_atix (pre ++ suf) v1_0 v2_0 v2_1 v2_2 v2_3 (((pre ++ suf).length : Nat) : Int) ((pre.length : Nat) : Int)) = cond (!anyIn suf v1_0) (some (.exit 0, (X_atix_1 (pre ++ suf) v1_0 v2_0 v2_1 v2_2 v2_3))) (some (.ret, (X_atix_0 (pre ++ suf) v1_0 v2_0 v2_1 v2_2 v2_3 ((pre.length + suf.findIdx (fun s => inS s v1_0) : Nat) : Int)))) := by
  intro suf
  induction suf with
  | nil =>
    intro pre n hn hl
    obtain ⟨n, rfl⟩ : ∃ k, n = k + 1 := ⟨n - 1, by omega⟩
    rw [step_atix, idx_end, cond_false]
    rfl
  | cons x suf ih =>
    intro pre n hn hl
    obtain ⟨n, rfl⟩ : ∃ k, n = k + 1 := ⟨n - 1, by omega⟩
    have ih' := ih (pre ++ [x]) n (by simp at hn; omega) (by simpa using hl)
    rw [step_atix]
    simp only [idx_lt, idx_ge, Bool.and_self, cond_true, idx_nat, idx_at, idx_next hl]
    rw [← idx_step] at ih'
    cases hw : inS x v1_0
    · rw [cond_false, ih']
      simp only [anyIn, List.any_cons, hw, Bool.false_or, List.findIdx_cons, cond_false, List.length_append, List.length_singleton]
      rw [show pre.length + 1 + suf.findIdx (fun s => inS s v1_0) = pre.length + (suf.findIdx (fun s => inS s v1_0) + 1) by omega]
    · simp [anyIn, hw, List.findIdx_cons]

theorem main_atix (l0 : List (Span)) (v1_0 v2_0 v2_1 v2_2 v2_3 v7 v8 : Int) (hg : (decide (l0.length ≤ 1048576) && (v7 == (l0.length : Int) && v8 == 0)) = true) : ∃ N d, I_atix N d N (S_atix l0 v1_0 v2_0 v2_1 v2_2 v2_3 v7 v8) = some (altK Prod.mk [(!anyIn l0 v1_0, .exit 0, (X_atix_1 l0 v1_0 v2_0 v2_1 v2_2 v2_3))] (.ret) (X_atix_0 l0 v1_0 v2_0 v2_1 v2_2 v2_3 (atIdx l0 v1_0))) := by
  simp only [Bool.and_eq_true, decide_eq_true_eq, beq_iff_eq] at hg
  obtain ⟨h1, rfl, rfl⟩ := hg
  have := go_atix l0 v1_0 v2_0 v2_1 v2_2 v2_3 0 0 (l0.length + 3) 0 l0 [] (l0.length + 3) (by omega) (by simpa using h1)
  refine ⟨l0.length + 3, 3, ?_⟩
  simp only [List.nil_append, List.length_nil, Nat.zero_add] at this
  rw [show ((0 : Nat) : Int) = 0 from rfl] at this
  rw [this]
  cases h : anyIn l0 v1_0 <;> simp [altK, h, atIdx]

theorem at_enc (a0 : List Span) (a1 : Int) (h : anyIn a0 a1 = true) : a0.getD (0 + Int.toNat (atIdx a0 a1)) { from_ := 0, to_ := 0, mode := 0, prio := 0 } = (findS a0 a1).1 ∧ (findS a0 a1).2 = true := by
  simp [findS, h, span0]

theorem run_span_At (a0 : List Span) (a1 : Int) (hg : smallST a0 a1 = true) : ∃ F d, run k8 F d 15 Try.f15 s_span_At (a0, a1, ()) = some (r_span_At.enc (findS a0 a1)) := by
  refine ⟨200, 6, ?_⟩
  rw [tree_span_At]
  simp only [smallST, smallS, decide_eq_true_eq] at hg
  simp only [beqn, hg, decide_true, Bool.true_and, Bool.and_true, Bool.and_self, beq_self_eq_true, cond_true]
  cases h : anyIn a0 a1
  · simp only [Bool.not_false, cond_true]
    simp only [findS, h, cond_false]
    rfl
  · obtain ⟨h1, h2⟩ := atIdx_lt h
    have e2 : 0 + (atIdx a0 a1).toNat < a0.length := by omega
    simp only [Bool.not_true, cond_false, h2, e2, decide_true, cond_true, (at_enc a0 a1 h).1]
    rw [show findS a0 a1 = ((findS a0 a1).1, true) from Prod.ext rfl (at_enc a0 a1 h).2]
    rfl

theorem go_rat (l0 : List (Span)) (v1_0 v1_1 v1_2 v1_3 v1 v6 : Int) (F d : Nat) : ∀ (suf pre : List Span) (n : Nat), suf.length < n → (pre ++ suf).length ≤ 1048576 →
    I_rat F (d + 3) n (S_rat (pre ++ suf) v1_0 v1_1 v1_2 v1_3 v1 ((pre.length : Nat) : Int)) = cond (!anyIn suf v1) (some (.exit 0, (X_rat_1 (pre ++ suf) v1_0 v1_1 v1_2 v1_3))) (some (.ret, (X_rat_0 (pre ++ suf) ((pre.length + suf.findIdx (fun s => inS s v1) : Nat) : Int)))) := by
  intro suf
  induction suf with
  | nil =>
    intro pre n hn hl
    obtain ⟨n, rfl⟩ : ∃ k, n = k + 1 := ⟨n - 1, by omega⟩
    rw [step_rat, idx_end, cond_false]
    rfl
  | cons x suf ih =>
    intro pre n hn hl
    obtain ⟨n, rfl⟩ : ∃ k, n = k + 1 := ⟨n - 1, by omega⟩
    have ih' := ih (pre ++ [x]) n (by simp at hn; omega) (by simpa using hl)
    rw [step_rat]
    simp only [idx_lt, idx_ge, Bool.and_self, cond_true, idx_nat, idx_at, idx_next hl, Bool.true_or, and_false']
    rw [← idx_step] at ih'
    have hi : (decide (v1 ≥ x.from_) && decide (v1 < x.to_)) = inS x v1 := rfl
    rw [hi]
    cases hw : inS x v1
    · rw [cond_false, ih']
      simp only [anyIn, List.any_cons, hw, Bool.false_or, List.findIdx_cons, cond_false, List.length_append, List.length_singleton]
      rw [show pre.length + 1 + suf.findIdx (fun s => inS s v1) = pre.length + (suf.findIdx (fun s => inS s v1) + 1) by omega]
    · simp [anyIn, hw, List.findIdx_cons]

theorem main_rat (l0 : List (Span)) (v1_0 v1_1 v1_2 v1_3 v1 v6 : Int) (hg : (decide (l0.length ≤ 1048576) && v6 == 0) = true) : ∃ N d, I_rat N d N (S_rat l0 v1_0 v1_1 v1_2 v1_3 v1 v6) = some (altK Prod.mk [(!anyIn l0 v1, .exit 0, (X_rat_1 l0 v1_0 v1_1 v1_2 v1_3))] (.ret) (X_rat_0 l0 (atIdx l0 v1))) := by
  simp only [Bool.and_eq_true, decide_eq_true_eq, beq_iff_eq] at hg
  obtain ⟨h1, rfl⟩ := hg
  have := go_rat l0 v1_0 v1_1 v1_2 v1_3 v1 0 (l0.length + 3) 0 l0 [] (l0.length + 3) (by omega) (by simpa using h1)
  refine ⟨l0.length + 3, 3, ?_⟩
  simp only [List.nil_append, List.length_nil, Nat.zero_add] at this
  rw [show ((0 : Nat) : Int) = 0 from rfl] at this
  rw [this]
  cases h : anyIn l0 v1 <;> simp [altK, h, atIdx]

theorem run_newelref13_At (a0 : List Span) (a1 : Int) (hg : smallST a0 a1 = true) : ∃ F d, run k10 F d 16 Try.f16 s_newelref13_At (a0, a1, ()) = some (r_newelref13_At.enc (findS a0 a1)) := by
  refine ⟨200, 6, ?_⟩
  rw [tree_newelref13_At]
  simp only [smallST, smallS, decide_eq_true_eq] at hg
  simp only [beqn, hg, decide_true, Bool.true_and, Bool.and_true, Bool.and_self, beq_self_eq_true, cond_true]
  cases h : anyIn a0 a1
  · simp only [Bool.not_false, cond_true]
    simp only [findS, h, cond_false]
    rfl
  · simp only [Bool.not_true, cond_false, (at_enc a0 a1 h).1]
    rw [show findS a0 a1 = ((findS a0 a1).1, true) from Prod.ext rfl (at_enc a0 a1 h).2]
    rfl

theorem go_cut (l0 l1 : List (Span)) (v1 v2 v11 v12 : Int) (F d : Nat) : ∀ (suf pre out : List Span) (n : Nat), suf.length < n → (pre ++ suf).length ≤ 1048576 → out.length ≤ pre.length →
    I_cut F (d + 3) n (S_cut (pre ++ suf) out v1 v2 (((pre ++ suf).length : Nat) : Int) ((pre.length : Nat) : Int)) = some (.exit 0, (X_cut_0 (pre ++ suf) (out ++ cutL suf v1 v2))) := by
  intro suf
  induction suf with
  | nil =>
    intro pre out n hn hl ho
    obtain ⟨n, rfl⟩ : ∃ k, n = k + 1 := ⟨n - 1, by omega⟩
    rw [step_cut, idx_end, cond_false]
    simp [cutL]
  | cons x suf ih =>
    intro pre out n hn hl ho
    obtain ⟨n, rfl⟩ : ∃ k, n = k + 1 := ⟨n - 1, by omega⟩
    have ih' := fun o ho => ih (pre ++ [x]) o n (by simp at hn; omega) (by simpa using hl) ho
    rw [step_cut]
    have hol : Nat.ble out.length 1048576 = true := by simp at hl ⊢; omega
    simp only [idx_lt, idx_ge, Bool.and_self, cond_true, idx_nat, idx_at, idx_next hl, beqn, hol, Bool.true_and, Bool.and_true]
    rw [← idx_step] at ih'
    conv => rhs; unfold cutL
    have hc : (⟨bif decide (v1 > x.from_) then v1 else x.from_, bif decide (v2 < x.to_) then v2 else x.to_, x.mode, x.prio⟩ : Span) = clipS x v1 v2 := rfl
    have hd : (decide ((bif decide (v1 > x.from_) then v1 else x.from_) < bif decide (v2 < x.to_) then v2 else x.to_)) = decide ((clipS x v1 v2).from_ < (clipS x v1 v2).to_) := rfl
    rw [hc, hd]
    cases decide ((clipS x v1 v2).from_ < (clipS x v1 v2).to_)
    · rw [cond_false, cond_false, ih' out (by simp; omega)]
    · rw [cond_true, cond_true, ih' (out ++ [clipS x v1 v2]) (by simp; omega)]
      simp

theorem main_cut (l0 l1 : List (Span)) (v1 v2 v11 v12 : Int) (hg : (decide (l0.length ≤ 1048576) && (v11 == (l0.length : Int) && (v12 == 0 && l1.length == 0))) = true) : ∃ N d, I_cut N d N (S_cut l0 l1 v1 v2 v11 v12) = some (altK Prod.mk [] (.exit 0) (X_cut_0 l0 (cutL l0 v1 v2))) := by
  simp only [Bool.and_eq_true, decide_eq_true_eq, beq_iff_eq] at hg
  obtain ⟨h1, rfl, rfl, h4⟩ := hg
  have h5 : l1 = [] := List.length_eq_zero_iff.1 h4
  subst h5
  have := go_cut l0 [] v1 v2 0 0 (l0.length + 3) 0 l0 [] [] (l0.length + 3) (by omega) (by simpa using h1) (by simp)
  exact ⟨l0.length + 3, 3, by simpa [altK] using this⟩

theorem run_span_Cut (a0 : List Span) (a1 : Int) (a2 : Int) (hg : smallSTT a0 a1 a2 = true) : ∃ F d, runO k12 F d 17 Try.f17 s_span_Cut r_span_Cut (a0, a1, a2, ()) = some (cutL a0 a1 a2) := by
  refine ⟨200, 6, ?_⟩
  rw [tree_span_Cut]
  simp only [smallSTT, smallS, decide_eq_true_eq] at hg
  simp only [beqn, hg, decide_true, Bool.true_and, Bool.and_true, Bool.and_self, beq_self_eq_true, cond_true]

theorem go_rcut (l0 l1 : List (Span)) (v1 v2 v8 : Int) (F d : Nat) : ∀ (suf pre out : List Span) (n : Nat), suf.length < n → (pre ++ suf).length ≤ 1048576 → out.length ≤ pre.length →
    I_rcut F (d + 3) n (S_rcut (pre ++ suf) out v1 v2 ((pre.length : Nat) : Int)) = some (.exit 0, (X_rcut_0 (pre ++ suf) (out ++ cutL suf v1 v2))) := by
  intro suf
  induction suf with
  | nil =>
    intro pre out n hn hl ho
    obtain ⟨n, rfl⟩ : ∃ k, n = k + 1 := ⟨n - 1, by omega⟩
    rw [step_rcut, idx_end, cond_false]
    simp [cutL]
  | cons x suf ih =>
    intro pre out n hn hl ho
    obtain ⟨n, rfl⟩ : ∃ k, n = k + 1 := ⟨n - 1, by omega⟩
    have ih' := fun o ho => ih (pre ++ [x]) o n (by simp at hn; omega) (by simpa using hl) ho
    rw [step_rcut]
    have hol : Nat.ble out.length 1048576 = true := by simp at hl ⊢; omega
    simp only [idx_lt, idx_ge, Bool.and_self, cond_true, idx_nat, idx_at, idx_next hl, beqn, hol, Bool.true_and, Bool.and_true]
    rw [← idx_step] at ih'
    conv => rhs; unfold cutL
    have e1 : decide (x.from_ < v1) = decide (v1 > x.from_) := rfl
    have e2 : decide (x.to_ > v2) = decide (v2 < x.to_) := rfl
    rw [e1]
    simp only [e2]
    have iht := ih' (out ++ [clipS x v1 v2]) (by simp; omega)
    have ihf := ih' out (by simp; omega)
    simp only [clipS] at iht ⊢
    by_cases h1 : v1 > x.from_ <;> by_cases h2 : v2 < x.to_ <;> simp only [h1, h2, decide_true, decide_false, cond_true, cond_false] at iht ⊢
    · by_cases h3 : v1 < v2 <;> simp only [h3, decide_true, decide_false, cond_true, cond_false]
      · refine iht.trans ?_; simp
      · exact ihf
    · by_cases h3 : v1 < x.to_ <;> simp only [h3, decide_true, decide_false, cond_true, cond_false]
      · refine iht.trans ?_; simp
      · exact ihf
    · by_cases h3 : x.from_ < v2 <;> simp only [h3, decide_true, decide_false, cond_true, cond_false]
      · refine iht.trans ?_; simp
      · exact ihf
    · by_cases h3 : x.from_ < x.to_ <;> simp only [h3, decide_true, decide_false, cond_true, cond_false]
      · refine iht.trans ?_; simp
      · exact ihf

theorem main_rcut (l0 l1 : List (Span)) (v1 v2 v8 : Int) (hg : (decide (l0.length ≤ 1048576) && (v8 == 0 && l1.length == 0)) = true) : ∃ N d, I_rcut N d N (S_rcut l0 l1 v1 v2 v8) = some (altK Prod.mk [] (.exit 0) (X_rcut_0 l0 (cutL l0 v1 v2))) := by
  simp only [Bool.and_eq_true, decide_eq_true_eq, beq_iff_eq] at hg
  obtain ⟨h1, rfl, h4⟩ := hg
  have h5 : l1 = [] := List.length_eq_zero_iff.1 h4
  subst h5
  have := go_rcut l0 [] v1 v2 0 (l0.length + 3) 0 l0 [] [] (l0.length + 3) (by omega) (by simpa using h1) (by simp)
  exact ⟨l0.length + 3, 3, by simpa [altK] using this⟩

theorem run_newelref13_Cut (a0 : List Span) (a1 : Int) (a2 : Int) (hg : smallSTT a0 a1 a2 = true) : ∃ F d, runO k14 F d 18 Try.f18 s_newelref13_Cut r_newelref13_Cut (a0, a1, a2, ()) = some (cutL a0 a1 a2) := by
  refine ⟨200, 6, ?_⟩
  rw [tree_newelref13_Cut]
  simp only [smallSTT, smallS, decide_eq_true_eq] at hg
  simp only [beqn, hg, decide_true, Bool.true_and, Bool.and_true, Bool.and_self, beq_self_eq_true, cond_true]

theorem go_oddix (l0 : List (Span)) (v7 v8 : Int) (F d : Nat) : ∀ (suf pre : List Span) (n : Nat), suf.length < n → (pre ++ suf).length ≤ 1048576 →
    I_oddix F (d + 3) n (S_oddix (pre ++ suf) (((pre ++ suf).length : Nat) : Int) ((pre.length : Nat) : Int)) = cond (suf.all fun s => !oddS s) (some (.exit 0, (X_oddix_1 (pre ++ suf)))) (some (.ret, (X_oddix_0 (pre ++ suf) ((pre.length + suf.findIdx oddS : Nat) : Int)))) := by
  intro suf
  induction suf with
  | nil =>
    intro pre n hn hl
    obtain ⟨n, rfl⟩ : ∃ k, n = k + 1 := ⟨n - 1, by omega⟩
    rw [step_oddix, idx_end, cond_false]
    rfl
  | cons x suf ih =>
    intro pre n hn hl
    obtain ⟨n, rfl⟩ : ∃ k, n = k + 1 := ⟨n - 1, by omega⟩
    have ih' := ih (pre ++ [x]) n (by simp at hn; omega) (by simpa using hl)
    rw [step_oddix]
    simp only [idx_lt, idx_ge, Bool.and_self, cond_true, idx_nat, idx_at, idx_next hl]
    rw [← idx_step] at ih'
    have hi : decide (x.from_ ≥ x.to_) = oddS x := rfl
    rw [hi]
    cases hw : oddS x
    · rw [cond_false, ih']
      simp only [List.all_cons, hw, Bool.not_false, Bool.true_and, List.findIdx_cons, cond_false, List.length_append, List.length_singleton]
      rw [show pre.length + 1 + suf.findIdx oddS = pre.length + (suf.findIdx oddS + 1) by omega]
    · simp [hw, List.findIdx_cons]

theorem main_oddix (l0 : List (Span)) (v7 v8 : Int) (hg : (decide (l0.length ≤ 1048576) && (v7 == (l0.length : Int) && v8 == 0)) = true) : ∃ N d, I_oddix N d N (S_oddix l0 v7 v8) = some (altK Prod.mk [(l0.all fun s => !oddS s, .exit 0, (X_oddix_1 l0))] (.ret) (X_oddix_0 l0 (oddIdx l0))) := by
  simp only [Bool.and_eq_true, decide_eq_true_eq, beq_iff_eq] at hg
  obtain ⟨h1, rfl, rfl⟩ := hg
  have := go_oddix l0 0 0 (l0.length + 3) 0 l0 [] (l0.length + 3) (by omega) (by simpa using h1)
  refine ⟨l0.length + 3, 3, ?_⟩
  simp only [List.nil_append, List.length_nil, Nat.zero_add] at this
  rw [show ((0 : Nat) : Int) = 0 from rfl] at this
  rw [this]
  cases h : (l0.all fun s => !oddS s) <;> simp [altK, h, oddIdx]

theorem go_ends (l0 : List (Span)) (l4 : List (Int)) (v7 v8 : Int) (F d : Nat) : ∀ (suf pre : List Span) (out : List Int) (n : Nat), suf.length < n → (pre ++ suf).length ≤ 1000 → out.length ≤ 2 * pre.length →
    I_ends F (d + 3) n (S_ends (pre ++ suf) out (((pre ++ suf).length : Nat) : Int) ((pre.length : Nat) : Int)) = some (.exit 0, (X_ends_0 (pre ++ suf) (out ++ endsS suf))) := by
  intro suf
  induction suf with
  | nil =>
    intro pre out n hn hl ho
    obtain ⟨n, rfl⟩ : ∃ k, n = k + 1 := ⟨n - 1, by omega⟩
    rw [step_ends, idx_end, cond_false]
    simp [endsS]
  | cons x suf ih =>
    intro pre out n hn hl ho
    obtain ⟨n, rfl⟩ : ∃ k, n = k + 1 := ⟨n - 1, by omega⟩
    have ih' := ih (pre ++ [x]) (out ++ [x.from_, x.to_]) n (by simp at hn; omega) (by simpa using hl) (by simp; omega)
    rw [step_ends]
    have hol : Nat.ble out.length 1048576 = true := by simp at hl ⊢; omega
    simp only [idx_lt, idx_ge, Bool.and_self, cond_true, idx_nat, idx_at, idx_next (Nat.le_trans hl (by omega)), beqn, hol, Bool.true_and, Bool.and_true]
    rw [← idx_step] at ih'
    rw [ih']
    simp [endsS]

theorem main_ends (l0 : List (Span)) (l4 : List (Int)) (v7 v8 : Int) (hg : (decide (l0.length ≤ 1000) && (v7 == (l0.length : Int) && (v8 == 0 && l4.length == 0))) = true) : ∃ N d, I_ends N d N (S_ends l0 l4 v7 v8) = some (altK Prod.mk [] (.exit 0) (X_ends_0 l0 (endsS l0))) := by
  simp only [Bool.and_eq_true, decide_eq_true_eq, beq_iff_eq] at hg
  obtain ⟨h1, rfl, rfl, h4⟩ := hg
  have h5 : l4 = [] := List.length_eq_zero_iff.1 h4
  subst h5
  have := go_ends l0 [] 0 0 (l0.length + 3) 0 l0 [] [] (l0.length + 3) (by omega) (by simpa using h1) (by simp)
  exact ⟨l0.length + 3, 3, by simpa [altK] using this⟩
end Go.Proofs.Ytdadgkgkdgnihaa.Px.PxV
