/- What is said of functions that other seats have, too. -/
import Derived.Test.YtfhepbbkggdlcaaGreatDoorPxTProofs4
import Derived.Test.YtfhepbbkggdlcaaGreatDoorPxSpecSpan
set_option linter.unusedVariables false
set_option linter.unusedSimpArgs false
namespace Go.Proofs.YtfhepbbkggdlcaaGreatDoor.Px.PxT
open Go Go.Proofs
theorem run_span_within (a0 : Span) (a1 : Int) : ∃ F d, run k64 F d 50 Tryz.f50 s_span_within (a0, a1, ()) = some (r_span_within.enc (inS a0 a1)) := by
 refine ⟨200, 6, ?_⟩
 rw [tree_span_within, and_false']
 rfl
theorem run_lessS (a0 : Span) (a1 : Span) : ∃ F d, run k65 F d 112 Tryz.f112 s_lessS (a0, a1, ()) = some (r_lessS.enc (lessS a0 a1)) := by
 refine ⟨200, 6, ?_⟩
 rw [tree_lessS, and_false', or_true']
 rfl
theorem go_weight (l0 : List (Span)) (v1 v5 v10 v11 : Int) (F d : Nat) : ∀ (suf pre : List Span) (best : Int) (n : Nat), suf.length < n → (pre ++ suf).length ≤ 1048576 → -1 ≤ best → best < (pre.length : Int) →
  I_weight F (d + 3) n (S_weight (pre ++ suf) v1 best (((pre ++ suf).length : Nat) : Int) ((pre.length : Nat) : Int)) = some (.exit 0, (X_weight_0 (pre ++ suf) (wGo (pre ++ suf) v1 suf ((pre.length : Nat) : Int) best))) := by
 intro suf
 induction suf with
 | nil =>
  intro pre best n hn hl h1 h2
  obtain ⟨n, rfl⟩ : ∃ k, n = k + 1 := ⟨n - 1, by omega⟩
  rw [step_weight, idx_end, cond_false]
  rfl
 | cons x suf ih =>
  intro pre best n hn hl h1 h2
  obtain ⟨n, rfl⟩ : ∃ k, n = k + 1 := ⟨n - 1, by omega⟩
  have ih' := fun b h1 h2 => ih (pre ++ [x]) b n (by simp at hn; omega) (by simpa using hl) h1 h2
  rw [step_weight]
  simp only [idx_lt, idx_ge, Bool.and_self, cond_true, idx_nat, idx_at, idx_next hl]
  rw [← idx_step] at ih'
  have g1 : (decide (0 ≤ best) && decide (best < (((pre ++ x :: suf).length : Nat) : Int)) || !(inS x v1 && !decide (best < 0))) = true := by
   by_cases h : best < 0
   ·simp [h]
   ·have : 0 ≤ best ∧ best < (((pre ++ x :: suf).length : Nat) : Int) := ⟨by omega, by simp; omega⟩
    simp only [this.1, this.2, decide_true, Bool.and_self, Bool.true_or]
  have g2 : (decide (0 + Int.toNat best < (pre ++ x :: suf).length) || !(inS x v1 && !decide (best < 0))) = true := by
   by_cases h : best < 0
   ·simp [h]
   ·have : 0 + best.toNat < (pre ++ x :: suf).length := by simp; omega
    simp only [this, decide_true, Bool.true_or]
  rw [g1, cond_true, g2, cond_true]
  conv => rhs; unfold wGo
  simp only [and_false', or_true', Nat.zero_add]
  have es : (⟨0, 0, 0, 0⟩ : Span) = span0 := rfl
  simp only [es]
  have e3 : (((pre ++ [x]).length : Nat) : Int) = ((pre.length : Nat) : Int) + 1 := by simp
  cases (inS x v1 && (decide (best < 0) || !lessS x (List.getD (pre ++ x :: suf) best.toNat span0)))
  ·rw [cond_false, cond_false, ih' best h1 (by rw [e3]; omega), e3]
  ·rw [cond_true, cond_true, ih' _ (by omega) (by rw [e3]; omega), e3]
theorem main_weight (l0 : List (Span)) (v1 v5 v10 v11 : Int) (hg : (decide (l0.length ≤ 1048576) && (v10 == (l0.length : Int) && (v11 == 0 && v5 == -1))) = true) : ∃ N d, I_weight N d N (S_weight l0 v1 v5 v10 v11) = some (altK Prod.mk [] (.exit 0) (X_weight_0 l0 (weightI l0 v1))) := by
 simp only [Bool.and_eq_true, decide_eq_true_eq, beq_iff_eq] at hg
 obtain ⟨h1, rfl, rfl, rfl⟩ := hg
 have := go_weight l0 v1 (-1) 0 0 (l0.length + 3) 0 l0 [] (-1) (l0.length + 3) (by omega) (by simpa using h1) (by omega) (by simp)
 exact ⟨l0.length + 3, 3, by simpa [altK, weightI] using this⟩
theorem run_span_weightiest (a0 : List Span) (a1 : Int) (hg : smallST a0 a1 = true) : ∃ F d, run k67 F d 97 Tryz.f97 s_span_weightiest (a0, a1, ()) = some (r_span_weightiest.enc (weightI a0 a1)) := by
 refine ⟨200, 6, ?_⟩
 rw [tree_span_weightiest]
 simp only [smallST, smallS, decide_eq_true_eq] at hg
 simp only [beqn, hg, decide_true, Bool.true_and, Bool.and_true, Bool.and_self, beq_self_eq_true, cond_true]
 rfl
theorem go_atix (l0 : List (Span)) (P0 Q0 Q1 Q2 Q3 v7 v8 : Int) (F d : Nat) : ∀ (suf pre : List Span) (n : Nat), suf.length < n → (pre ++ suf).length ≤ 1048576 →
  I_atix F (d + 3) n (S_atix (pre ++ suf) P0 Q0 Q1 Q2 Q3 (((pre ++ suf).length : Nat) : Int) ((pre.length : Nat) : Int)) = cond (!anyIn suf P0) (some (.exit 0, (X_atix_1 (pre ++ suf) P0 Q0 Q1 Q2 Q3))) (some (.ret, (X_atix_0 (pre ++ suf) P0 Q0 Q1 Q2 Q3 ((pre.length + suf.findIdx (fun s => inS s P0) : Nat) : Int)))) := by
 intro suf
 induction suf with
 | nil =>
  intro pre n hn hl
  obtain ⟨n, rfl⟩ : ∃ k, n = k + 1 := ⟨n - 1, by omega⟩
  rw [step_atix, idx_end, cond_false]
  rfl
 | cons x suf ih =>
  intro pre n hn hl
  obtain ⟨n, rfl⟩ : ∃ k, n = k + 1 := ⟨n - 1, by omega⟩
  have ih' := ih (pre ++ [x]) n (by simp at hn; omega) (by simpa using hl)
  rw [step_atix]
  simp only [idx_lt, idx_ge, Bool.and_self, cond_true, idx_nat, idx_at, idx_next hl]
  rw [← idx_step] at ih'
  cases hw : inS x P0
  ·rw [cond_false, ih']
   simp only [anyIn, List.any_cons, hw, Bool.false_or, List.findIdx_cons, cond_false, List.length_append, List.length_singleton]
   rw [show pre.length + 1 + suf.findIdx (fun s => inS s P0) = pre.length + (suf.findIdx (fun s => inS s P0) + 1) by omega]
  ·simp [anyIn, hw, List.findIdx_cons]
theorem main_atix (l0 : List (Span)) (P0 Q0 Q1 Q2 Q3 v7 v8 : Int) (hg : (decide (l0.length ≤ 1048576) && (v7 == (l0.length : Int) && v8 == 0)) = true) : ∃ N d, I_atix N d N (S_atix l0 P0 Q0 Q1 Q2 Q3 v7 v8) = some (altK Prod.mk [(!anyIn l0 P0, .exit 0, (X_atix_1 l0 P0 Q0 Q1 Q2 Q3))] (.ret) (X_atix_0 l0 P0 Q0 Q1 Q2 Q3 (atIdx l0 P0))) := by
 simp only [Bool.and_eq_true, decide_eq_true_eq, beq_iff_eq] at hg
 obtain ⟨h1, rfl, rfl⟩ := hg
 have := go_atix l0 P0 Q0 Q1 Q2 Q3 0 0 (l0.length + 3) 0 l0 [] (l0.length + 3) (by omega) (by simpa using h1)
 refine ⟨l0.length + 3, 3, ?_⟩
 simp only [List.nil_append, List.length_nil, Nat.zero_add] at this
 rw [show ((0 : Nat) : Int) = 0 from rfl] at this
 rw [this]
 cases h : anyIn l0 P0 <;> simp [altK, h, atIdx]
theorem at_enc (a0 : List Span) (a1 : Int) (h : anyIn a0 a1 = true) : a0.getD (0 + Int.toNat (atIdx a0 a1)) { from_ := 0, to_ := 0, mode := 0, prio := 0 } = (findS a0 a1).1 ∧ (findS a0 a1).2 = true := by
 simp [findS, h, span0]
theorem run_span_At (a0 : List Span) (a1 : Int) (hg : smallST a0 a1 = true) : ∃ F d, run k69 F d 23 Tryz.f23 s_span_At (a0, a1, ()) = some (r_span_At.enc (findS a0 a1)) := by
 refine ⟨200, 6, ?_⟩
 rw [tree_span_At]
 simp only [smallST, smallS, decide_eq_true_eq] at hg
 simp only [beqn, hg, decide_true, Bool.true_and, Bool.and_true, Bool.and_self, beq_self_eq_true, cond_true]
 cases h : anyIn a0 a1
 ·simp only [Bool.not_false, cond_true]
  simp only [findS, h, cond_false]
  rfl
 ·obtain ⟨h1, h2⟩ := atIdx_lt h
  have e2 : 0 + (atIdx a0 a1).toNat < a0.length := by omega
  simp only [Bool.not_true, cond_false, h2, e2, decide_true, cond_true, (at_enc a0 a1 h).1]
  rw [show findS a0 a1 = ((findS a0 a1).1, true) from Prod.ext rfl (at_enc a0 a1 h).2]
  rfl
theorem go_cut (l0 l1 : List (Span)) (v1 v2 v11 v12 : Int) (F d : Nat) : ∀ (suf pre out : List Span) (n : Nat), suf.length < n → (pre ++ suf).length ≤ 1048576 → out.length ≤ pre.length →
  I_cut F (d + 3) n (S_cut (pre ++ suf) out v1 v2 (((pre ++ suf).length : Nat) : Int) ((pre.length : Nat) : Int)) = some (.exit 0, (X_cut_0 (pre ++ suf) (out ++ cutL suf v1 v2))) := by
 intro suf
 induction suf with
 | nil =>
  intro pre out n hn hl ho
  obtain ⟨n, rfl⟩ : ∃ k, n = k + 1 := ⟨n - 1, by omega⟩
  rw [step_cut, idx_end, cond_false]
  simp [cutL]
 | cons x suf ih =>
  intro pre out n hn hl ho
  obtain ⟨n, rfl⟩ : ∃ k, n = k + 1 := ⟨n - 1, by omega⟩
  have ih' := fun o ho => ih (pre ++ [x]) o n (by simp at hn; omega) (by simpa using hl) ho
  rw [step_cut]
  have hol : Nat.ble out.length 1048576 = true := by simp at hl ⊢; omega
  simp only [idx_lt, idx_ge, Bool.and_self, cond_true, idx_nat, idx_at, idx_next hl, beqn, hol, Bool.true_and, Bool.and_true]
  rw [← idx_step] at ih'
  conv => rhs; unfold cutL
  have hc : (⟨bif decide (v1 > x.from_) then v1 else x.from_, bif decide (v2 < x.to_) then v2 else x.to_, x.mode, x.prio⟩ : Span) = clipS x v1 v2 := rfl
  have hd : (decide ((bif decide (v1 > x.from_) then v1 else x.from_) < bif decide (v2 < x.to_) then v2 else x.to_)) = decide ((clipS x v1 v2).from_ < (clipS x v1 v2).to_) := rfl
  rw [hc, hd]
  cases decide ((clipS x v1 v2).from_ < (clipS x v1 v2).to_)
  ·rw [cond_false, cond_false, ih' out (by simp; omega)]
  ·rw [cond_true, cond_true, ih' (out ++ [clipS x v1 v2]) (by simp; omega)]
   simp
theorem main_cut (l0 l1 : List (Span)) (v1 v2 v11 v12 : Int) (hg : (decide (l0.length ≤ 1048576) && (v11 == (l0.length : Int) && (v12 == 0 && l1.length == 0))) = true) : ∃ N d, I_cut N d N (S_cut l0 l1 v1 v2 v11 v12) = some (altK Prod.mk [] (.exit 0) (X_cut_0 l0 (cutL l0 v1 v2))) := by
 simp only [Bool.and_eq_true, decide_eq_true_eq, beq_iff_eq] at hg
 obtain ⟨h1, rfl, rfl, h4⟩ := hg
 have h5 : l1 = [] := List.length_eq_zero_iff.1 h4
 subst h5
 have := go_cut l0 [] v1 v2 0 0 (l0.length + 3) 0 l0 [] [] (l0.length + 3) (by omega) (by simpa using h1) (by simp)
 exact ⟨l0.length + 3, 3, by simpa [altK] using this⟩
theorem run_span_Cut (a0 : List Span) (a1 : Int) (a2 : Int) (hg : smallSTT a0 a1 a2 = true) : ∃ F d, runO k71 F d 29 Tryz.f29 s_span_Cut r_span_Cut (a0, a1, a2, ()) = some (cutL a0 a1 a2) := by
 refine ⟨200, 6, ?_⟩
 rw [tree_span_Cut]
 simp only [smallSTT, smallS, decide_eq_true_eq] at hg
 simp only [beqn, hg, decide_true, Bool.true_and, Bool.and_true, Bool.and_self, beq_self_eq_true, cond_true]
theorem go_oddix (l0 : List (Span)) (v7 v8 : Int) (F d : Nat) : ∀ (suf pre : List Span) (n : Nat), suf.length < n → (pre ++ suf).length ≤ 1048576 →
  I_oddix F (d + 3) n (S_oddix (pre ++ suf) (((pre ++ suf).length : Nat) : Int) ((pre.length : Nat) : Int)) = cond (suf.all fun s => !oddS s) (some (.exit 0, (X_oddix_1 (pre ++ suf)))) (some (.ret, (X_oddix_0 (pre ++ suf) ((pre.length + suf.findIdx oddS : Nat) : Int)))) := by
 intro suf
 induction suf with
 | nil =>
  intro pre n hn hl
  obtain ⟨n, rfl⟩ : ∃ k, n = k + 1 := ⟨n - 1, by omega⟩
  rw [step_oddix, idx_end, cond_false]
  rfl
 | cons x suf ih =>
  intro pre n hn hl
  obtain ⟨n, rfl⟩ : ∃ k, n = k + 1 := ⟨n - 1, by omega⟩
  have ih' := ih (pre ++ [x]) n (by simp at hn; omega) (by simpa using hl)
  rw [step_oddix]
  simp only [idx_lt, idx_ge, Bool.and_self, cond_true, idx_nat, idx_at, idx_next hl]
  rw [← idx_step] at ih'
  have hi : decide (x.from_ ≥ x.to_) = oddS x := rfl
  rw [hi]
  cases hw : oddS x
  ·rw [cond_false, ih']
   simp only [List.all_cons, hw, Bool.not_false, Bool.true_and, List.findIdx_cons, cond_false, List.length_append, List.length_singleton]
   rw [show pre.length + 1 + suf.findIdx oddS = pre.length + (suf.findIdx oddS + 1) by omega]
  ·simp [hw, List.findIdx_cons]
theorem main_oddix (l0 : List (Span)) (v7 v8 : Int) (hg : (decide (l0.length ≤ 1048576) && (v7 == (l0.length : Int) && v8 == 0)) = true) : ∃ N d, I_oddix N d N (S_oddix l0 v7 v8) = some (altK Prod.mk [(l0.all fun s => !oddS s, .exit 0, (X_oddix_1 l0))] (.ret) (X_oddix_0 l0 (oddIdx l0))) := by
 simp only [Bool.and_eq_true, decide_eq_true_eq, beq_iff_eq] at hg
 obtain ⟨h1, rfl, rfl⟩ := hg
 have := go_oddix l0 0 0 (l0.length + 3) 0 l0 [] (l0.length + 3) (by omega) (by simpa using h1)
 refine ⟨l0.length + 3, 3, ?_⟩
 simp only [List.nil_append, List.length_nil, Nat.zero_add] at this
 rw [show ((0 : Nat) : Int) = 0 from rfl] at this
 rw [this]
 cases h : (l0.all fun s => !oddS s) <;> simp [altK, h, oddIdx]
theorem go_ends (l0 : List (Span)) (l4 : List (Int)) (v7 v8 : Int) (F d : Nat) : ∀ (suf pre : List Span) (out : List Int) (n : Nat), suf.length < n → (pre ++ suf).length ≤ 1000 → out.length ≤ 2 * pre.length →
  I_ends F (d + 3) n (S_ends (pre ++ suf) out (((pre ++ suf).length : Nat) : Int) ((pre.length : Nat) : Int)) = some (.exit 0, (X_ends_0 (pre ++ suf) (out ++ endsS suf))) := by
 intro suf
 induction suf with
 | nil =>
  intro pre out n hn hl ho
  obtain ⟨n, rfl⟩ : ∃ k, n = k + 1 := ⟨n - 1, by omega⟩
  rw [step_ends, idx_end, cond_false]
  simp [endsS]
 | cons x suf ih =>
  intro pre out n hn hl ho
  obtain ⟨n, rfl⟩ : ∃ k, n = k + 1 := ⟨n - 1, by omega⟩
  have ih' := ih (pre ++ [x]) (out ++ [x.from_, x.to_]) n (by simp at hn; omega) (by simpa using hl) (by simp; omega)
  rw [step_ends]
  have hol : Nat.ble out.length 1048576 = true := by simp at hl ⊢; omega
  simp only [idx_lt, idx_ge, Bool.and_self, cond_true, idx_nat, idx_at, idx_next (Nat.le_trans hl (by omega)), beqn, hol, Bool.true_and, Bool.and_true]
  rw [← idx_step] at ih'
  rw [ih']
  simp [endsS]
theorem main_ends (l0 : List (Span)) (l4 : List (Int)) (v7 v8 : Int) (hg : (decide (l0.length ≤ 1000) && (v7 == (l0.length : Int) && (v8 == 0 && l4.length == 0))) = true) : ∃ N d, I_ends N d N (S_ends l0 l4 v7 v8) = some (altK Prod.mk [] (.exit 0) (X_ends_0 l0 (endsS l0))) := by
 simp only [Bool.and_eq_true, decide_eq_true_eq, beq_iff_eq] at hg
 obtain ⟨h1, rfl, rfl, h4⟩ := hg
 have h5 : l4 = [] := List.length_eq_zero_iff.1 h4
 subst h5
 have := go_ends l0 [] 0 0 (l0.length + 3) 0 l0 [] [] (l0.length + 3) (by omega) (by simpa using h1) (by simp)
 exact ⟨l0.length + 3, 3, by simpa [altK] using this⟩
theorem wrap_m1 : IntKind.wrap IntKind.i64 (((([] : List Span).length : Nat) : Int) - 1) = -1 := by rfl
theorem wrap_sn {q : List Span} {p : Span} (h : (q ++ [p]).length ≤ 1048576) : IntKind.wrap IntKind.i64 ((((q ++ [p]).length : Nat) : Int) - 1) = ((q.length : Nat) : Int) := by
 rw [IntWalk.i64_in _ (by simp at h ⊢; omega)]; simp
theorem get_sn {q : List Span} {p z : Span} : List.getD (q ++ [p]) (0 + Int.toNat ((q.length : Nat) : Int)) z = p := by simp
theorem set_sn {q : List Span} {p z : Span} : List.set (q ++ [p]) (0 + Int.toNat ((q.length : Nat) : Int)) z = q ++ [z] := by simp
theorem lt2_sn {q : List Span} {p : Span} : decide (((q.length : Nat) : Int) < (((q ++ [p]).length : Nat) : Int)) = true := by simp; omega
theorem lt_sn {q : List Span} {p : Span} : decide (0 + Int.toNat ((q.length : Nat) : Int) < (q ++ [p]).length) = true := by simp
theorem ge_sn {q : List Span} : decide (((q.length : Nat) : Int) ≥ 0) = true := by simp
theorem zz : (⟨0, 0, 0, 0⟩ : Span) = span0 := rfl
theorem go_pcs (l0 : List (Span)) (l4 : List (Int)) (l7 : List (Span)) (v3 : Int) (F d : Nat) (hL : l0.length ≤ 1048576) : ∀ (es pre : List Int) (a : Int) (out : List Span) (n : Nat), es.length < n → (pre ++ a :: es).length ≤ 1000 → out.length ≤ pre.length →
  I_pcs F (d + 3) n (S_pcs l0 (pre ++ a :: es) out ((pre.length + 1 : Nat) : Int)) = some (.exit 0, (X_pcs_0 l0 (pre ++ a :: es) (resGo l0 (a :: es) out))) := by
 intro es
 induction es with
 | nil =>
  intro pre a out n hn hl ho
  obtain ⟨n, rfl⟩ : ∃ k, n = k + 1 := ⟨n - 1, by omega⟩
  have : decide (((pre.length + 1 : Nat) : Int) < (((pre ++ [a]).length : Nat) : Int)) = false := by simp
  rw [step_pcs, this, cond_false]
  rfl
 | cons b es ih =>
  intro pre a out n hn hl ho
  obtain ⟨n, rfl⟩ : ∃ k, n = k + 1 := ⟨n - 1, by omega⟩
  have hpl : pre.length + (es.length + 1 + 1) ≤ 1000 := by simpa using hl
  have ih' := fun o ho => ih (pre ++ [a]) b o n (by simp at hn; omega) (by simpa using hl) ho
  have e0 : IntKind.wrap .i64 (((pre.length + 1 : Nat) : Int) - 1) = ((pre.length : Nat) : Int) := by rw [IntWalk.i64_in _ (by omega)]; simp
  have t1 : decide (((pre.length + 1 : Nat) : Int) < (((pre ++ a :: b :: es).length : Nat) : Int)) = true := by simp <;> omega
  have t3 : decide (0 + Int.toNat ((pre.length + 1 : Nat) : Int) < (pre ++ a :: b :: es).length) = true := by simp
  have gb : List.getD (pre ++ a :: b :: es) (0 + Int.toNat ((pre.length + 1 : Nat) : Int)) 0 = b := by
   simp
  have e4 : IntKind.wrap .i64 (((pre.length + 1 : Nat) : Int) + 1) = (((pre ++ [a]).length + 1 : Nat) : Int) := by rw [IntWalk.i64_in _ (by omega)]; simp
  rw [← idx_step] at ih'
  have hs : smallST l0 a = true := by simpa [smallST, smallS] using hL
  have hol : Nat.ble out.length 1048576 = true := by simp; omega
  rw [step_pcs]
  simp only [t1, t3, e0, gb, e4, idx_lt, idx_ge, Bool.and_self, cond_true, idx_nat, idx_at, beqn, ble0, hs, hol, Bool.and_true, Bool.true_and]
  have hgo : resGo l0 (a :: b :: es) out = resGo l0 (b :: es) (pieceS l0 out a b) := rfl
  rw [hgo]
  obtain ⟨w1, w2⟩ := weightI_range l0 a
  have ih2 := ih' (pieceS l0 out a b) (by have := pieceS_length l0 out a b; simp; omega)
  rw [← ih2]
  cases hw : decide (weightI l0 a < 0) with
  | true =>
   rw [cond_true]
   rcases nil_or_snoc out with rfl | ⟨q, p, rfl⟩
   ·rw [pieceS_nil, hw]; rfl
   ·rw [pieceS_snoc, hw]; rfl
  | false =>
   simp only [decide_eq_false_iff_not] at hw
   have i1 : (decide (0 ≤ weightI l0 a) && decide (weightI l0 a < ((l0.length : Nat) : Int))) = true := by simp; omega
   have i2 : decide (0 + Int.toNat (weightI l0 a) < l0.length) = true := by simp; omega
   have i3 : decide (weightI l0 a < 0) = false := by simpa using hw
   rw [cond_false]
   simp only [i1, i2, Bool.true_or, cond_true, and_false', zz]
   rcases nil_or_snoc out with rfl | ⟨q, p, rfl⟩
   ·simp only [wrap_m1, pieceS_nil, i3, cond_false]
    simp
   ·simp only [wrap_sn (Nat.le_trans ho (by omega)), get_sn, set_sn, lt2_sn, lt_sn, ge_sn, Bool.true_or, cond_true, Bool.true_and]
    simp only [pieceS_snoc, i3, cond_false, Nat.zero_add]
    cases hc : (p.to_ == a && p.mode == (l0.getD (weightI l0 a).toNat span0).mode)
    ·simp only [cond_false]
    ·simp only [cond_true, List.length_append, List.length_singleton, beqn]
theorem main_pcs (l0 : List (Span)) (l4 : List (Int)) (l7 : List (Span)) (v3 : Int) (hg : (decide (l0.length ≤ 1048576) && (decide (l4.length ≤ 1000) && (v3 == 1 && l7.length == 0))) = true) : ∃ N d, I_pcs N d N (S_pcs l0 l4 l7 v3) = some (altK Prod.mk [] (.exit 0) (X_pcs_0 l0 l4 (resGo l0 l4 []))) := by
 simp only [Bool.and_eq_true, decide_eq_true_eq, beq_iff_eq] at hg
 obtain ⟨h1, h2, rfl, h4⟩ := hg
 have h5 : l7 = [] := List.length_eq_zero_iff.1 h4
 subst h5
 cases l4 with
 | nil =>
  refine ⟨1, 3, ?_⟩
  rw [step_pcs]
  simp [altK, resGo]
 | cons a es =>
  have := go_pcs l0 [] [] 0 ((a :: es).length + 3) 0 h1 es [] a [] ((a :: es).length + 3) (by simp; omega) (by simpa using h2) (by simp)
  exact ⟨(a :: es).length + 3, 3, by simpa [altK] using this⟩
theorem run_span_Resolve (a0 : List Span) (hg : smallS a0 = true) : ∃ F d, runO k75 F d 64 Tryz.f64 s_span_Resolve r_span_Resolve (a0, ()) = some (span_Resolve a0) := by
 refine ⟨200, 6, ?_⟩
 rw [tree_span_Resolve]
 simp only [smallS, decide_eq_true_eq] at hg
 have hfin : ∀ (hl : a0.length ≤ 500), (Nat.ble (endsS a0).length 1048576 = true ∧ Nat.beq (endsS a0).length (sortI (endsS a0)).length = true ∧ Nat.ble (sortI (endsS a0)).length 1048576 = true ∧ decide ((compI (sortI (endsS a0))).length ≤ 1000) = true ∧ decide (a0.length ≤ 1000) = true) := by
  intro hl
  have := endsS_length a0
  have := sortI_length (endsS a0)
  have := piecesS_length a0
  unfold piecesS at this
  refine ⟨by simp; omega, by simp; omega, by simp; omega, by simp; omega, by simp; omega⟩
 by_cases hl : a0.length ≤ 500
 ·obtain ⟨k1, k2, k3, k4, k5⟩ := hfin hl
  have e1 : decide (((a0.length : Nat) : Int) > 500) = false := by simp; omega
  simp only [e1, Bool.not_false, Bool.not_true, cond_true, cond_false, beqn, ble0, hg, k1, k2, k3, k4, k5, decide_true, Bool.true_and, Bool.and_true, Bool.and_self, beq_self_eq_true]
  cases hc : (a0.all fun s => !oddS s)
  ·simp [span_Resolve, mayS, hc]
  ·simp [span_Resolve, mayS, hc, hl, resolveS, piecesS]
 ·have e1 : decide (((a0.length : Nat) : Int) > 500) = true := by simp; omega
  simp only [e1, Bool.not_false, Bool.not_true, cond_true, cond_false]
  simp [span_Resolve, mayS, hl]
theorem run_zone_check (a0 : Zone) (a1 : Int) : ∃ F d, run k62 F d 46 Tryz.f46 s_zone_check (a0, a1, ()) = some (r_zone_check.enc (checkG a0 a1)) := by
 refine ⟨200, 6, ?_⟩
 rw [tree_zone_check]
 simp only [r_zone_check, Res.int, checkG]
 cases zone_Check a0 != 0 <;> cases inB a1 576000 5258879999 <;> rfl
theorem local_in {z : Zone} {t : Int} (h : checkG z t = 0) : zone_Check z = 0 ∧ 576000 ≤ t ∧ t ≤ 5258879999 := by
 unfold checkG at h
 cases hz : zone_Check z != 0 with
 | true => rw [hz, cond_true] at h; rw [h] at hz; cases hz
 | false =>
  rw [hz, cond_false] at h
  cases hb : inB t 576000 5258879999 with
  | false => rw [hb] at h; simp at h
  | true => exact ⟨by simpa using hz, inB_iff.1 hb⟩
theorem shift_range {z : Zone} (t : Int) (hs : 0 ≤ z.shift ∧ z.shift ≤ 120) : 0 ≤ shiftG z t ∧ shiftG z t ≤ 120 := by
 unfold shiftG
 cases z.shift == 0
 ·cases sumB t (whenG z z.on (yearOf z t)) (whenG z z.off (yearOf z t))
  ·simp
  ·exact hs
 ·simp
theorem run_zone_Local (a0 : Zone) (a1 : Int) : ∃ F d, run k63 F d 22 Tryz.f22 s_zone_Local (a0, a1, ()) = some (r_zone_Local.enc (localG a0 a1)) := by
 refine ⟨200, 6, ?_⟩
 rw [tree_zone_Local]
 unfold localG
 cases hc : checkG a0 a1 != 0 with
 | true => rfl
 | false =>
  obtain ⟨hz, h1, h2⟩ := local_in (show checkG a0 a1 = 0 by simpa using hc)
  obtain ⟨hb, hs, ht, _⟩ := zone_facts hz
  have hr := shift_range (z := a0) a1 hs
  rw [show shiftOk a0 a1 = true by simp only [shiftOk, ht, mid, Bool.true_and, Bool.and_eq_true, decide_eq_true_eq]; omega]
  rw [wrI (n := a1 + a0.base) (by omega), wrI (n := a1 + a0.base + shiftG a0 a1) (by omega), Int.tdiv_eq_ediv_of_nonneg (by omega), Int.tmod_eq_emod_of_nonneg (by omega), wrI (by omega)]
  rfl
theorem local_told {z : Zone} {t : Int} (hz : zone_Check z = 0) (h1 : 576000 ≤ t) (h2 : t ≤ 5258879999) : localG z t = (toldG z t / 1440, toldG z t % 1440, 0) := by
 unfold localG
 rw [show checkG z t = 0 by unfold checkG; rw [hz, inB_true h1 h2]; rfl]
 rfl
theorem go_rwins (l0 : List (Int)) (l1 : List (Window)) (Q0 Q1 Q2 Q4 Q5 Q6 Q7 Q8 Q9 Q10 Q11 Q12 Q13 Q14 Q15 Q16 Q17 Q18 Q19 Q20 Q21 Q22 Q23 Q24 Q25 Q26 Q27 Q28 Q29 Q30 Q31 Q32 Q33 Q34 : Int) (Q35 : Bool) (v7 : Int) (F d : Nat) : ∀ (suf pre : List Window) (n : Nat), suf.length < n → (pre ++ suf).length ≤ 1048576 →
  I_rwins F (d + 3) n (S_rwins l0 (pre ++ suf) Q0 Q1 Q2 Q4 Q5 Q6 Q7 Q8 Q9 Q10 Q11 Q12 Q13 Q14 Q15 Q16 Q17 Q18 Q19 Q20 Q21 Q22 Q23 Q24 Q25 Q26 Q27 Q28 Q29 Q30 Q31 Q32 Q33 Q34 Q35 ((pre.length : Nat) : Int)) = cond (suf.all windowB) (some (.exit 0, (X_rwins_1 l0 (pre ++ suf) Q0 Q1 Q2 Q4 Q5 Q6 Q7 Q8 Q9 Q10 Q11 Q12 Q13 Q14 Q15 Q16 Q17 Q18 Q19 Q20 Q21 Q22 Q23 Q24 Q25 Q26 Q27 Q28 Q29 Q30 Q31 Q32 Q33 Q34 Q35))) (some (.ret, (X_rwins_0 l0 (pre ++ suf) Q0 Q1 Q2 Q4 Q5 Q6 Q7 Q8 Q9 Q10 Q11 Q12 Q13 Q14 Q15 Q16 Q17 Q18 Q19 Q20 Q21 Q22 Q23 Q24 Q25 Q26 Q27 Q28 Q29 Q30 Q31 Q32 Q33 Q34 Q35))) := by
 intro suf
 induction suf with
 | nil =>
  intro pre n hn hl
  obtain ⟨n, rfl⟩ : ∃ k, n = k + 1 := ⟨n - 1, by omega⟩
  rw [step_rwins, idx_end, cond_false]
  rfl
 | cons x suf ih =>
  intro pre n hn hl
  obtain ⟨n, rfl⟩ : ∃ k, n = k + 1 := ⟨n - 1, by omega⟩
  have ih' := ih (pre ++ [x]) n (by simp at hn; omega) (by simpa using hl)
  rw [step_rwins]
  simp only [idx_lt, idx_ge, Bool.and_self, cond_true, idx_nat, idx_at, idx_next hl]
  rw [← idx_step] at ih'
  cases hw : windowB x
  ·simp [hw]
  ·simp only [Bool.not_true, cond_false]
   rw [ih']
   simp only [List.all_cons, hw, Bool.true_and]
theorem main_rwins (l0 : List (Int)) (l1 : List (Window)) (Q0 Q1 Q2 Q4 Q5 Q6 Q7 Q8 Q9 Q10 Q11 Q12 Q13 Q14 Q15 Q16 Q17 Q18 Q19 Q20 Q21 Q22 Q23 Q24 Q25 Q26 Q27 Q28 Q29 Q30 Q31 Q32 Q33 Q34 : Int) (Q35 : Bool) (v7 : Int) (hg : (decide (l1.length ≤ 1048576) && v7 == 0) = true) : ∃ N d, I_rwins N d N (S_rwins l0 l1 Q0 Q1 Q2 Q4 Q5 Q6 Q7 Q8 Q9 Q10 Q11 Q12 Q13 Q14 Q15 Q16 Q17 Q18 Q19 Q20 Q21 Q22 Q23 Q24 Q25 Q26 Q27 Q28 Q29 Q30 Q31 Q32 Q33 Q34 Q35 v7) = some (altK Prod.mk [(l1.all windowB, .exit 0, (X_rwins_1 l0 l1 Q0 Q1 Q2 Q4 Q5 Q6 Q7 Q8 Q9 Q10 Q11 Q12 Q13 Q14 Q15 Q16 Q17 Q18 Q19 Q20 Q21 Q22 Q23 Q24 Q25 Q26 Q27 Q28 Q29 Q30 Q31 Q32 Q33 Q34 Q35))] (.ret) (X_rwins_0 l0 l1 Q0 Q1 Q2 Q4 Q5 Q6 Q7 Q8 Q9 Q10 Q11 Q12 Q13 Q14 Q15 Q16 Q17 Q18 Q19 Q20 Q21 Q22 Q23 Q24 Q25 Q26 Q27 Q28 Q29 Q30 Q31 Q32 Q33 Q34 Q35)) := by
 simp only [Bool.and_eq_true, decide_eq_true_eq, beq_iff_eq] at hg
 obtain ⟨h1, rfl⟩ := hg
 have := go_rwins l0 l1 Q0 Q1 Q2 Q4 Q5 Q6 Q7 Q8 Q9 Q10 Q11 Q12 Q13 Q14 Q15 Q16 Q17 Q18 Q19 Q20 Q21 Q22 Q23 Q24 Q25 Q26 Q27 Q28 Q29 Q30 Q31 Q32 Q33 Q34 Q35 0 (l1.length + 3) 0 l1 [] (l1.length + 3) (by omega) (by simpa using h1)
 refine ⟨l1.length + 3, 3, ?_⟩
 simp only [List.nil_append, List.length_nil] at this
 rw [show ((0 : Nat) : Int) = 0 from rfl] at this
 rw [this]
 cases h : l1.all windowB <;> simp [altK, h]
theorem run_newelref10_timed (a0 : Window) : ∃ F d, run k83 F d 69 Tryz.f69 s_newelref10_timed (a0, ()) = some (r_newelref10_timed.enc (timedB a0)) := by
 refine ⟨200, 6, ?_⟩
 rw [tree_newelref10_timed]
 simp only [r_newelref10_timed, Res.bool]
 refine congrArg (fun b => some (AV.bool b)) ?_
 rw [Bool.eq_iff_iff]
 simp [timedB, inB]
 try omega
theorem run_newelref10_tick (a0 : Int) : ∃ F d, run k84 F d 67 Tryz.f67 s_newelref10_tick (a0, ()) = some (r_newelref10_tick.enc (tickB a0)) := by
 refine ⟨200, 6, ?_⟩
 rw [tree_newelref10_tick]
 simp only [r_newelref10_tick, Res.bool]
 refine congrArg (fun b => some (AV.bool b)) ?_
 rw [Bool.eq_iff_iff]
 simp [tickB, inB]
 try omega
theorem run_newelref06_turn (a0 : Turn) : ∃ F d, run k85 F d 68 Tryz.f68 s_newelref06_turn (a0, ()) = some (r_newelref06_turn.enc (turnB a0)) := by
 refine ⟨200, 6, ?_⟩
 rw [tree_newelref06_turn]
 simp only [r_newelref06_turn, Res.bool]
 refine congrArg (fun b => some (AV.bool b)) ?_
 rw [Bool.eq_iff_iff]
 simp [turnB, inB]
 try omega
theorem run_newelref10_stops (a0 : Config) (hg : smallC a0 = true) : ∃ F d, run k91 F d 31 Tryz.f31 s_newelref10_stops (a0, ()) = some (r_newelref10_stops.enc (ref_stops a0)) := by
 refine ⟨200, 6, ?_⟩
 rw [tree_newelref10_stops]
 simp only [smallC, Bool.and_eq_true, decide_eq_true_eq] at hg
 simp only [beqn, ble0, Bool.true_and, Bool.and_true, Bool.and_self, cond_true, cond_false, and_false', or_true', hg.1, decide_true, BEq.rfl]
 simp only [r_newelref10_stops, Res.bool, ref_stops]
 cases h : chkR a0.floors none a0.stops <;> simp
 omega
theorem run_newelref10_Window (a0 : Window) : ∃ F d, run k86 F d 35 Tryz.f35 s_newelref10_Window (a0, ()) = some (r_newelref10_Window.enc (windowB a0)) := by
 refine ⟨200, 6, ?_⟩
 rw [tree_newelref10_Window]
 simp only [r_newelref10_Window, Res.bool, windowB, timedB, inB, and_false', or_true', some_false, dlt, dgt, dge, Bool.not_or, Bool.not_not]
 cases a0.kind == 1 <;> cases a0.kind == 2 <;> cases a0.kind == 3 <;> simp only [cond_true, cond_false, some_false, Bool.not_or, Bool.not_not, Bool.and_assoc, Bool.not_and, Bool.or_assoc]
theorem run_newelref10_times (a0 : Config) : ∃ F d, run k89 F d 32 Tryz.f32 s_newelref10_times (a0, ()) = some (r_newelref10_times.enc (timesC a0)) := by
 refine ⟨200, 6, ?_⟩
 rw [tree_newelref10_times]
 simp only [r_newelref10_times, Res.bool, timesC, tickB, inB, and_false', or_true', some_false, dlt, dgt, dge, Bool.not_or, Bool.not_not, Bool.and_assoc]
theorem run_newelref10_Check (a0 : Config) (hg : smallC a0 = true) : ∃ F d, run k93 F d 14 Tryz.f14 s_newelref10_Check (a0, ()) = some (r_newelref10_Check.enc (ref_Check a0)) := by
 refine ⟨200, 6, ?_⟩
 rw [tree_newelref10_Check]
 have hg' := hg
 simp only [smallC, Bool.and_eq_true, decide_eq_true_eq] at hg
 simp only [beqn, ble0, Bool.true_and, Bool.and_true, Bool.and_self, cond_true, cond_false, and_false', or_true', hg', hg.2, decide_true, BEq.rfl, Bool.true_or, Bool.or_true]
 simp only [r_newelref10_Check, Res.int, ref_Check, orE, ref_size, inB, dlt, dgt, dge, bne, errIf, config_windows, Bool.not_not, Bool.not_and, Bool.not_or]
 have hS : ∀ a b c d e f : Bool, (!a || !b || !c || !d || !e || f) = !(a && b && (c && d) && (e && !f)) := by decide
 rw [hS]
 generalize (decide (2 ≤ a0.floors) && decide (a0.floors ≤ 64) && (decide (1 ≤ a0.cars) && decide (a0.cars ≤ 8)) && (decide (0 ≤ a0.park) && !decide (a0.floors ≤ a0.park))) = S
 have hW : (!decide (((a0.windows.length : Nat) : Int) ≤ 16)) = decide (a0.windows.length > 16) := by rw [Bool.eq_iff_iff]; simp; omega
 rw [hW]
 simp only [config_times, errIf]
 cases S
 ·rfl
 cases ref_stops a0
 ·rfl
 cases timesC a0
 ·rfl
 cases hz : (zone_Check a0.zone == 0)
 ·rfl
 cases hu : (sunset_Check a0.sun == 0)
 ·rfl
 cases decide (a0.windows.length > 16)
 ·cases a0.windows.all windowB <;> rfl
 ·rfl
theorem run_newelref06_Check (a0 : Zone) : ∃ F d, run k87 F d 33 Tryz.f33 s_newelref06_Check (a0, ()) = some (r_newelref06_Check.enc (zone_Check a0)) := by
 refine ⟨200, 6, ?_⟩
 rw [tree_newelref06_Check]
 simp only [r_newelref06_Check, Res.int, zone_Check, turnsB, turn_eq0, out_in]
 cases h1 : inB a0.base (-720) 840
 ·rfl
 cases h2 : inB a0.shift 0 120
 ·rfl
 cases h3 : a0.shift == 0
 ·cases g1 : turnB a0.on
  ·cases decide (IntKind.wrap IntKind.i64 (a0.on.month - a0.off.month) < 0) <;> rfl
  cases g2 : turnB a0.off
  ·cases decide (IntKind.wrap IntKind.i64 (a0.on.month - a0.off.month) < 0) <;> rfl
  have b1 : inB a0.on.month 1 12 = true := by simp only [turnB, Bool.and_eq_true] at g1; exact g1.1.1.1
  have b2 : inB a0.off.month 1 12 = true := by simp only [turnB, Bool.and_eq_true] at g2; exact g2.1.1.1
  rw [wrap_sub b2 b1 (by omega) (by omega)]
  have b1' := inB_iff.1 b1
  have b2' := inB_iff.1 b2
  unfold apart
  by_cases h : a0.on.month ≤ a0.off.month
  ·by_cases h' : a0.on.month = a0.off.month
   ·simp [h', inB]
   ·rw [if_pos h, IntWalk.i64_in (0 - (a0.on.month - a0.off.month)) (by omega), show decide (a0.on.month - a0.off.month < 0) = true by simp; omega, show 0 - (a0.on.month - a0.off.month) = a0.off.month - a0.on.month by omega]
    simp only [Bool.not_true, cond_true, cond_false, out_in, Bool.true_and]
    cases inB (a0.off.month - a0.on.month) 2 10 <;> rfl
  ·rw [if_neg h, show decide (a0.on.month - a0.off.month < 0) = false by simp; omega]
   simp only [Bool.not_true, cond_true, cond_false, out_in, Bool.true_and]
   cases inB (a0.on.month - a0.off.month) 2 10 <;> rfl
 ·cases decide (a0.on = turn0) <;> cases decide (a0.off = turn0) <;> rfl
theorem run_newelref07_Check (a0 : Sun) : ∃ F d, run k88 F d 34 Tryz.f34 s_newelref07_Check (a0, ()) = some (r_newelref07_Check.enc (sunset_Check a0)) := by
 refine ⟨200, 6, ?_⟩
 rw [tree_newelref07_Check]
 simp only [r_newelref07_Check, Res.int, sunset_Check, sunL, List.all_cons, List.all_nil, stepsB, List.cons_append, List.nil_append, out_in, two0, two1]
 cases h0 : inB a0.m0 900 1320
 ·rfl
 cases h1 : inB a0.m1 900 1320
 ·rfl
 cases h2 : inB a0.m2 900 1320
 ·rfl
 cases h3 : inB a0.m3 900 1320
 ·rfl
 cases h4 : inB a0.m4 900 1320
 ·rfl
 cases h5 : inB a0.m5 900 1320
 ·rfl
 cases h6 : inB a0.m6 900 1320
 ·rfl
 cases h7 : inB a0.m7 900 1320
 ·rfl
 cases h8 : inB a0.m8 900 1320
 ·rfl
 cases h9 : inB a0.m9 900 1320
 ·rfl
 cases h10 : inB a0.m10 900 1320
 ·rfl
 cases h11 : inB a0.m11 900 1320
 ·rfl
 simp only [ wrap_sub h0 h1 (by omega) (by omega), wrap_sub h1 h2 (by omega) (by omega), wrap_sub h2 h3 (by omega) (by omega), wrap_sub h3 h4 (by omega) (by omega), wrap_sub h4 h5 (by omega) (by omega), wrap_sub h5 h6 (by omega) (by omega), wrap_sub h6 h7 (by omega) (by omega), wrap_sub h7 h8 (by omega) (by omega), wrap_sub h8 h9 (by omega) (by omega), wrap_sub h9 h10 (by omega) (by omega), wrap_sub h10 h11 (by omega) (by omega), wrap_sub h11 h0 (by omega) (by omega), out_in']
 cases inB (a0.m1 - a0.m0) (-120) 120
 ·rfl
 cases inB (a0.m2 - a0.m1) (-120) 120
 ·rfl
 cases inB (a0.m3 - a0.m2) (-120) 120
 ·rfl
 cases inB (a0.m4 - a0.m3) (-120) 120
 ·rfl
 cases inB (a0.m5 - a0.m4) (-120) 120
 ·rfl
 cases inB (a0.m6 - a0.m5) (-120) 120
 ·rfl
 cases inB (a0.m7 - a0.m6) (-120) 120
 ·rfl
 cases inB (a0.m8 - a0.m7) (-120) 120
 ·rfl
 cases inB (a0.m9 - a0.m8) (-120) 120
 ·rfl
 cases inB (a0.m10 - a0.m9) (-120) 120
 ·rfl
 cases inB (a0.m11 - a0.m10) (-120) 120
 ·rfl
 cases inB (a0.m0 - a0.m11) (-120) 120
 ·rfl
 rfl
theorem go_rstops (l0 : List (Int)) (l1 : List (Window)) (Q0 Q1 Q2 Q4 Q5 Q6 Q7 Q8 Q9 Q10 Q11 Q12 Q13 Q14 Q15 Q16 Q17 Q18 Q19 Q20 Q21 Q22 Q23 Q24 Q25 Q26 Q27 Q28 Q29 Q30 Q31 Q32 Q33 Q34 : Int) (Q35 : Bool) (v3 : Int) (F d : Nat) : ∀ (suf pre : List Int) (n : Nat), suf.length < n → (pre ++ suf).length ≤ 1048576 →
  I_rstops F (d + 3) n (S_rstops (pre ++ suf) l1 Q0 Q1 Q2 Q4 Q5 Q6 Q7 Q8 Q9 Q10 Q11 Q12 Q13 Q14 Q15 Q16 Q17 Q18 Q19 Q20 Q21 Q22 Q23 Q24 Q25 Q26 Q27 Q28 Q29 Q30 Q31 Q32 Q33 Q34 Q35 ((pre.length : Nat) : Int)) = cond (chkR Q0 pre.getLast? suf) (some (.exit 0, (X_rstops_1 (pre ++ suf) l1 Q0 Q1 Q2 Q4 Q5 Q6 Q7 Q8 Q9 Q10 Q11 Q12 Q13 Q14 Q15 Q16 Q17 Q18 Q19 Q20 Q21 Q22 Q23 Q24 Q25 Q26 Q27 Q28 Q29 Q30 Q31 Q32 Q33 Q34 Q35))) (some (.ret, (X_rstops_0 (pre ++ suf) l1 Q0 Q1 Q2 Q4 Q5 Q6 Q7 Q8 Q9 Q10 Q11 Q12 Q13 Q14 Q15 Q16 Q17 Q18 Q19 Q20 Q21 Q22 Q23 Q24 Q25 Q26 Q27 Q28 Q29 Q30 Q31 Q32 Q33 Q34 Q35))) := by
 intro suf
 induction suf with
 | nil =>
  intro pre n hn hl
  obtain ⟨n, rfl⟩ : ∃ k, n = k + 1 := ⟨n - 1, by omega⟩
  rw [step_rstops, idx_end, cond_false]
  cases pre.getLast? <;> rfl
 | cons x suf ih =>
  intro pre n hn hl
  obtain ⟨n, rfl⟩ : ∃ k, n = k + 1 := ⟨n - 1, by omega⟩
  have ih' := ih (pre ++ [x]) n (by simp at hn; omega) (by simpa using hl)
  have hpl : pre.length + (suf.length + 1) ≤ 1048576 := by simpa using hl
  rw [step_rstops]
  simp only [idx_lt, idx_ge, Bool.and_self, cond_true, idx_nat, idx_at, idx_next hl, Bool.true_or]
  rw [← idx_step] at ih'
  have hout : (bif decide (x < 0) then true else decide (x ≥ Q0)) = !(decide (0 ≤ x) && decide (x < Q0)) := by
   rw [Bool.eq_iff_iff]; simp; try omega
  rw [hout]
  rcases nil_or_snoc pre with rfl | ⟨q, p, rfl⟩
  ·simp only [List.length_nil, show decide (((0 : Nat) : Int) > 0) = false from rfl, Bool.and_false, Bool.not_false, Bool.or_true, cond_true, cond_false, or_true', Bool.or_false, List.getLast?_nil]
   rw [show chkR Q0 none (x :: suf) = ((decide (0 ≤ x) && decide (x < Q0)) && chkR Q0 (some x) suf) from rfl]
   cases (decide (0 ≤ x) && decide (x < Q0))
   ·rfl
   ·simp only [Bool.not_true, Bool.true_and, cond_false]
    simpa using ih'
  ·have hw : IntKind.wrap IntKind.i64 ((((q ++ [p]).length : Nat) : Int) - 1) = (((q ++ [p]).length : Nat) : Int) - 1 := IntWalk.i64_in _ (by simp at hpl ⊢; omega)
   have g1 : (decide (0 ≤ (((q ++ [p]).length : Nat) : Int) - 1) && decide ((((q ++ [p]).length : Nat) : Int) - 1 < (((q ++ [p] ++ x :: suf).length : Nat) : Int))) = true := by simp; omega
   have g2 : decide (0 + Int.toNat ((((q ++ [p]).length : Nat) : Int) - 1) < (q ++ [p] ++ x :: suf).length) = true := by simp
   have g3 : decide ((((q ++ [p]).length : Nat) : Int) > 0) = true := by simp; try omega
   rw [hw]
   simp only [g1, g2, g3, idx_last, Bool.true_or, cond_true]
   rw [show (q ++ [p]).getLast? = some p by simp, show chkR Q0 (some p) (x :: suf) = ((decide (0 ≤ x) && decide (x < Q0)) && decide (p < x) && chkR Q0 (some x) suf) from rfl]
   cases (decide (0 ≤ x) && decide (x < Q0))
   ·rfl
   ·have hd : decide (x ≤ p) = !decide (p < x) := by rw [Bool.eq_iff_iff]; simp
    rw [hd]
    cases decide (p < x)
    ·rfl
    ·simp only [Bool.not_true, Bool.true_and, cond_false, Bool.and_true]
     simpa using ih'
theorem main_rstops (l0 : List (Int)) (l1 : List (Window)) (Q0 Q1 Q2 Q4 Q5 Q6 Q7 Q8 Q9 Q10 Q11 Q12 Q13 Q14 Q15 Q16 Q17 Q18 Q19 Q20 Q21 Q22 Q23 Q24 Q25 Q26 Q27 Q28 Q29 Q30 Q31 Q32 Q33 Q34 : Int) (Q35 : Bool) (v3 : Int) (hg : (decide (l0.length ≤ 1048576) && v3 == 0) = true) : ∃ N d, I_rstops N d N (S_rstops l0 l1 Q0 Q1 Q2 Q4 Q5 Q6 Q7 Q8 Q9 Q10 Q11 Q12 Q13 Q14 Q15 Q16 Q17 Q18 Q19 Q20 Q21 Q22 Q23 Q24 Q25 Q26 Q27 Q28 Q29 Q30 Q31 Q32 Q33 Q34 Q35 v3) = some (altK Prod.mk [(chkR Q0 none l0, .exit 0, (X_rstops_1 l0 l1 Q0 Q1 Q2 Q4 Q5 Q6 Q7 Q8 Q9 Q10 Q11 Q12 Q13 Q14 Q15 Q16 Q17 Q18 Q19 Q20 Q21 Q22 Q23 Q24 Q25 Q26 Q27 Q28 Q29 Q30 Q31 Q32 Q33 Q34 Q35))] (.ret) (X_rstops_0 l0 l1 Q0 Q1 Q2 Q4 Q5 Q6 Q7 Q8 Q9 Q10 Q11 Q12 Q13 Q14 Q15 Q16 Q17 Q18 Q19 Q20 Q21 Q22 Q23 Q24 Q25 Q26 Q27 Q28 Q29 Q30 Q31 Q32 Q33 Q34 Q35)) := by
 simp only [Bool.and_eq_true, decide_eq_true_eq, beq_iff_eq] at hg
 obtain ⟨h1, rfl⟩ := hg
 have := go_rstops l0 l1 Q0 Q1 Q2 Q4 Q5 Q6 Q7 Q8 Q9 Q10 Q11 Q12 Q13 Q14 Q15 Q16 Q17 Q18 Q19 Q20 Q21 Q22 Q23 Q24 Q25 Q26 Q27 Q28 Q29 Q30 Q31 Q32 Q33 Q34 Q35 0 (l0.length + 3) 0 l0 [] (l0.length + 3) (by omega) (by simpa using h1)
 refine ⟨l0.length + 3, 3, ?_⟩
 simp only [List.nil_append, List.length_nil, List.getLast?_nil] at this
 rw [show ((0 : Nat) : Int) = 0 from rfl] at this
 rw [this]
 cases h : chkR Q0 none l0 <;> simp [altK, h]
theorem chkG_congr {f g : Int → Bool} (h : ∀ x, f x = g x) : ∀ (l : List Int) (p : Option Int), chkG f p l = chkG g p l
 | [], p => by cases p <;> rfl
 | x :: l, none => by simp only [chkG, h, chkG_congr h l]
 | x :: l, some p => by simp only [chkG, h, chkG_congr h l]
theorem ref_Check_eq (c : Config) : ref_Check c = config_Check c := by
 unfold ref_Check config_Check
 by_cases hf : 2 ≤ c.floors ∧ c.floors ≤ 64
 ·have hw : IntKind.i64.wrap (c.floors - 1) = c.floors - 1 := IntWalk.i64_in _ (by omega)
  have h1 : ref_size c = sizeB c := by
   unfold ref_size sizeB
   rw [hw]
   congr 1
   rw [Bool.eq_iff_iff]
   simp [inB]
   omega
  have h2 : ref_stops c = stopsB c := by
   unfold ref_stops stopsB chkR chkS
   rw [hw]
   congr 1
   refine chkG_congr (fun x => ?_) _ _
   rw [Bool.eq_iff_iff]
   simp [inB]
   omega
  rw [h1, h2]
  rfl
 ·have h0 : inB c.floors 2 64 = false := by
   rw [Bool.eq_false_iff]
   intro h
   exact hf (inB_iff.1 h)
  have h1 : ref_size c = false := by simp [ref_size, h0]
  have h2 : sizeB c = false := by simp [sizeB, h0]
  simp [config_size, h1, h2, errIf, orE]
end Go.Proofs.YtfhepbbkggdlcaaGreatDoor.Px.PxT
