/- The law AutoTells. -/
import Derived.Test.YtdpdmjjpdebpeaaPxQProofs5
set_option linter.unusedVariables false
set_option linter.unusedSimpArgs false
namespace Go.Proofs.Ytdpdmjjpdebpeaa.Px.PxQ
open Go Go.Proofs
set_option linter.unusedSimpArgs false
set_option linter.unusedVariables false

theorem go_same (l0 : List (Int)) (l1 : List (Int)) (v5 : Int) (F d : Nat) : ∀ (suf sug pre : List Int) (n : Nat), suf.length < n → (pre ++ suf).length ≤ 1048576 → suf.length = sug.length →
    I_same F (d + 3) n (S_same (pre ++ suf) (pre ++ sug) ((pre.length : Nat) : Int)) = cond (eqInts suf sug) (some (.exit 0, (X_same_1 (pre ++ suf) (pre ++ sug)))) (some (.ret, (X_same_0 (pre ++ suf) (pre ++ sug)))) := by
  intro suf
  induction suf with
  | nil =>
    intro sug pre n hn hl he
    obtain ⟨n, rfl⟩ : ∃ k, n = k + 1 := ⟨n - 1, by omega⟩
    have : sug = [] := List.length_eq_zero_iff.1 he.symm
    subst this
    rw [step_same, idx_end, cond_false]
    rfl
  | cons x suf ih =>
    intro sug pre n hn hl he
    obtain ⟨n, rfl⟩ : ∃ k, n = k + 1 := ⟨n - 1, by omega⟩
    obtain ⟨y, sug, rfl⟩ : ∃ y s, sug = y :: s := by
      cases sug with
      | nil => simp at he
      | cons y s => exact ⟨y, s, rfl⟩
    have ih' := ih sug (pre ++ [x]) n (by simp at hn; omega) (by simpa using hl) (by simpa using he)
    rw [step_same]
    simp only [idx_lt, idx_ge, Bool.and_self, cond_true, idx_nat, idx_at, idx_next hl]
    rw [← idx_step, ← idx_step] at ih'
    by_cases hxy : x = y
    · subst hxy
      have hne : (x != x) = false := by simp
      rw [hne, cond_false, ih']
      simp [eqInts]
    · have hne : (x != y) = true := by
        simpa using hxy
      rw [hne, cond_true]
      simp [eqInts, hxy]

theorem main_same (l0 : List (Int)) (l1 : List (Int)) (v5 : Int) (hg : (decide (l0.length ≤ 1048576) && (l0.length == l1.length && v5 == 0)) = true) : ∃ N d, I_same N d N (S_same l0 l1 v5) = some (altK Prod.mk [(eqInts l0 l1, .exit 0, (X_same_1 l0 l1))] (.ret) (X_same_0 l0 l1)) := by
  simp only [Bool.and_eq_true, decide_eq_true_eq, beq_iff_eq] at hg
  obtain ⟨h1, h2, rfl⟩ := hg
  have := go_same l0 l1 0 (l0.length + 3) 0 l0 l1 [] (l0.length + 3) (by omega) (by simpa using h1) h2
  refine ⟨l0.length + 3, 3, ?_⟩
  simp only [List.nil_append, List.length_nil] at this
  rw [show ((0 : Nat) : Int) = 0 from rfl] at this
  rw [this]
  cases h : eqInts l0 l1 <;> simp [altK, h]

theorem go_rtells (l0 : List (Int)) (l1 : List (Window)) (l3 : List (Int)) (l4 : List (Window)) (l6 : List (Int)) (l7 : List (Window)) (l8 : List (Int)) (l9 : List (Window)) (l10 : List (Int)) (l14 : List (Int)) (v2_0 : Int) (v2_1 : Int) (v2_2 : Int) (v2_4 : Int) (v2_5 : Int) (v2_6 : Int) (v2_7 : Int) (v2_8 : Int) (v2_9 : Int) (v2_10 : Int) (v2_11 : Int) (v2_12 : Int) (v2_13 : Int) (v2_14 : Int) (v2_15 : Int) (v2_16 : Int) (v2_17 : Int) (v2_18 : Int) (v2_19 : Int) (v2_20 : Int) (v2_21 : Int) (v2_22 : Int) (v2_23 : Int) (v2_24 : Int) (v2_25 : Int) (v2_26 : Int) (v2_27 : Int) (v2_28 : Int) (v2_29 : Int) (v2_30 : Int) (v2_31 : Int) (v2_32 : Int) (v2_33 : Int) (v2_34 : Int) (v2_35 : Bool) (v5_0 : Int) (v5_1 : Int) (v5_2 : Int) (v5_3 : Int) (v5_4 : Int) (v5_5 : Int) (v5_6 : Int) (v5_7 : Int) (v5_8 : Int) (v5_9 : Int) (v11_1 : Int) (v11_2 : Int) (v12_0 : Int) (v12_1 : Int) (v12_2 : Int) (v12_4 : Int) (v12_5 : Int) (v12_6 : Int) (v12_7 : Int) (v12_8 : Int) (v12_9 : Int) (v12_10 : Int) (v12_11 : Int) (v12_12 : Int) (v12_13 : Int) (v12_14 : Int) (v12_15 : Int) (v12_16 : Int) (v12_17 : Int) (v12_18 : Int) (v12_19 : Int) (v12_20 : Int) (v12_21 : Int) (v12_22 : Int) (v12_23 : Int) (v12_24 : Int) (v12_25 : Int) (v12_26 : Int) (v12_27 : Int) (v12_28 : Int) (v12_29 : Int) (v12_30 : Int) (v12_31 : Int) (v12_32 : Int) (v12_33 : Int) (v12_34 : Int) (v12_35 : Bool) (v13_1 : Int) (v13_2 : Int) (v2 : Int) (v8 : Int) (F d : Nat) (hv : v12_0 ≤ 1048576) : ∀ (k i n : Nat), k < n → i + k = v12_0.toNat → I_rtells F (d + 3) n (S_rtells l0 l1 l3 l4 l6 l7 l8 l9 l10 (floorsL ((i : Nat) : Int)) v2_0 v2_1 v2_2 v2_4 v2_5 v2_6 v2_7 v2_8 v2_9 v2_10 v2_11 v2_12 v2_13 v2_14 v2_15 v2_16 v2_17 v2_18 v2_19 v2_20 v2_21 v2_22 v2_23 v2_24 v2_25 v2_26 v2_27 v2_28 v2_29 v2_30 v2_31 v2_32 v2_33 v2_34 v2_35 v5_0 v5_1 v5_2 v5_3 v5_4 v5_5 v5_6 v5_7 v5_8 v5_9 v11_1 v11_2 v12_0 v12_1 v12_2 v12_4 v12_5 v12_6 v12_7 v12_8 v12_9 v12_10 v12_11 v12_12 v12_13 v12_14 v12_15 v12_16 v12_17 v12_18 v12_19 v12_20 v12_21 v12_22 v12_23 v12_24 v12_25 v12_26 v12_27 v12_28 v12_29 v12_30 v12_31 v12_32 v12_33 v12_34 v12_35 v13_1 v13_2 v2 ((i : Nat) : Int)) = some (.exit 0, (X_rtells_0 l0 l1 l3 l4 l6 l7 l8 l9 l10 (floorsL v12_0) v2_0 v2_1 v2_2 v2_4 v2_5 v2_6 v2_7 v2_8 v2_9 v2_10 v2_11 v2_12 v2_13 v2_14 v2_15 v2_16 v2_17 v2_18 v2_19 v2_20 v2_21 v2_22 v2_23 v2_24 v2_25 v2_26 v2_27 v2_28 v2_29 v2_30 v2_31 v2_32 v2_33 v2_34 v2_35 v5_0 v5_1 v5_2 v5_3 v5_4 v5_5 v5_6 v5_7 v5_8 v5_9 v11_1 v11_2 v12_0 v12_1 v12_2 v12_4 v12_5 v12_6 v12_7 v12_8 v12_9 v12_10 v12_11 v12_12 v12_13 v12_14 v12_15 v12_16 v12_17 v12_18 v12_19 v12_20 v12_21 v12_22 v12_23 v12_24 v12_25 v12_26 v12_27 v12_28 v12_29 v12_30 v12_31 v12_32 v12_33 v12_34 v12_35 v13_1 v13_2 v2)) := by
  intro k
  induction k with
  | zero =>
    intro i n hn hi
    obtain ⟨n, rfl⟩ : ∃ k, n = k + 1 := ⟨n - 1, by omega⟩
    have e1 : decide (((i : Nat) : Int) < v12_0) = false := by simp; omega
    rw [step_rtells, e1, cond_false, floorsL_at (by omega)]
  | succ k ih =>
    intro i n hn hi
    obtain ⟨n, rfl⟩ : ∃ k, n = k + 1 := ⟨n - 1, by omega⟩
    have e1 : decide (((i : Nat) : Int) < v12_0) = true := by simp; omega
    have e2 : Nat.ble (floorsL ((i : Nat) : Int)).length 1048576 = true := by rw [floorsL_length]; simp; omega
    have e3 : IntKind.wrap IntKind.i64 (((i : Nat) : Int) + 1) = ((i + 1 : Nat) : Int) := by rw [IntWalk.i64_in _ (by omega)]; simp
    rw [step_rtells]
    simp only [e1, e2, e3, beqn, Bool.and_self, Bool.and_true, cond_true, floorsL_next]
    exact ih (i + 1) n (by omega) (by omega)

theorem main_rtells (l0 : List (Int)) (l1 : List (Window)) (l3 : List (Int)) (l4 : List (Window)) (l6 : List (Int)) (l7 : List (Window)) (l8 : List (Int)) (l9 : List (Window)) (l10 : List (Int)) (l14 : List (Int)) (v2_0 : Int) (v2_1 : Int) (v2_2 : Int) (v2_4 : Int) (v2_5 : Int) (v2_6 : Int) (v2_7 : Int) (v2_8 : Int) (v2_9 : Int) (v2_10 : Int) (v2_11 : Int) (v2_12 : Int) (v2_13 : Int) (v2_14 : Int) (v2_15 : Int) (v2_16 : Int) (v2_17 : Int) (v2_18 : Int) (v2_19 : Int) (v2_20 : Int) (v2_21 : Int) (v2_22 : Int) (v2_23 : Int) (v2_24 : Int) (v2_25 : Int) (v2_26 : Int) (v2_27 : Int) (v2_28 : Int) (v2_29 : Int) (v2_30 : Int) (v2_31 : Int) (v2_32 : Int) (v2_33 : Int) (v2_34 : Int) (v2_35 : Bool) (v5_0 : Int) (v5_1 : Int) (v5_2 : Int) (v5_3 : Int) (v5_4 : Int) (v5_5 : Int) (v5_6 : Int) (v5_7 : Int) (v5_8 : Int) (v5_9 : Int) (v11_1 : Int) (v11_2 : Int) (v12_0 : Int) (v12_1 : Int) (v12_2 : Int) (v12_4 : Int) (v12_5 : Int) (v12_6 : Int) (v12_7 : Int) (v12_8 : Int) (v12_9 : Int) (v12_10 : Int) (v12_11 : Int) (v12_12 : Int) (v12_13 : Int) (v12_14 : Int) (v12_15 : Int) (v12_16 : Int) (v12_17 : Int) (v12_18 : Int) (v12_19 : Int) (v12_20 : Int) (v12_21 : Int) (v12_22 : Int) (v12_23 : Int) (v12_24 : Int) (v12_25 : Int) (v12_26 : Int) (v12_27 : Int) (v12_28 : Int) (v12_29 : Int) (v12_30 : Int) (v12_31 : Int) (v12_32 : Int) (v12_33 : Int) (v12_34 : Int) (v12_35 : Bool) (v13_1 : Int) (v13_2 : Int) (v2 : Int) (v8 : Int) (hg : (v8 == 0 && (l14.length == 0 && decide (v12_0 ≤ 1048576))) = true) : ∃ N d, I_rtells N d N (S_rtells l0 l1 l3 l4 l6 l7 l8 l9 l10 l14 v2_0 v2_1 v2_2 v2_4 v2_5 v2_6 v2_7 v2_8 v2_9 v2_10 v2_11 v2_12 v2_13 v2_14 v2_15 v2_16 v2_17 v2_18 v2_19 v2_20 v2_21 v2_22 v2_23 v2_24 v2_25 v2_26 v2_27 v2_28 v2_29 v2_30 v2_31 v2_32 v2_33 v2_34 v2_35 v5_0 v5_1 v5_2 v5_3 v5_4 v5_5 v5_6 v5_7 v5_8 v5_9 v11_1 v11_2 v12_0 v12_1 v12_2 v12_4 v12_5 v12_6 v12_7 v12_8 v12_9 v12_10 v12_11 v12_12 v12_13 v12_14 v12_15 v12_16 v12_17 v12_18 v12_19 v12_20 v12_21 v12_22 v12_23 v12_24 v12_25 v12_26 v12_27 v12_28 v12_29 v12_30 v12_31 v12_32 v12_33 v12_34 v12_35 v13_1 v13_2 v2 v8) = some (altK Prod.mk [] (.exit 0) (X_rtells_0 l0 l1 l3 l4 l6 l7 l8 l9 l10 (floorsL v12_0) v2_0 v2_1 v2_2 v2_4 v2_5 v2_6 v2_7 v2_8 v2_9 v2_10 v2_11 v2_12 v2_13 v2_14 v2_15 v2_16 v2_17 v2_18 v2_19 v2_20 v2_21 v2_22 v2_23 v2_24 v2_25 v2_26 v2_27 v2_28 v2_29 v2_30 v2_31 v2_32 v2_33 v2_34 v2_35 v5_0 v5_1 v5_2 v5_3 v5_4 v5_5 v5_6 v5_7 v5_8 v5_9 v11_1 v11_2 v12_0 v12_1 v12_2 v12_4 v12_5 v12_6 v12_7 v12_8 v12_9 v12_10 v12_11 v12_12 v12_13 v12_14 v12_15 v12_16 v12_17 v12_18 v12_19 v12_20 v12_21 v12_22 v12_23 v12_24 v12_25 v12_26 v12_27 v12_28 v12_29 v12_30 v12_31 v12_32 v12_33 v12_34 v12_35 v13_1 v13_2 v2)) := by
  simp only [Bool.and_eq_true, decide_eq_true_eq, beq_iff_eq] at hg
  obtain ⟨rfl, h1, h2⟩ := hg
  have hl : l14 = floorsL (((0 : Nat) : Nat) : Int) := by
    have := List.length_eq_zero_iff.1 h1
    rw [this]; rfl
  subst hl
  exact ⟨v12_0.toNat + 1, 3, go_rtells l0 l1 l3 l4 l6 l7 l8 l9 l10 [] v2_0 v2_1 v2_2 v2_4 v2_5 v2_6 v2_7 v2_8 v2_9 v2_10 v2_11 v2_12 v2_13 v2_14 v2_15 v2_16 v2_17 v2_18 v2_19 v2_20 v2_21 v2_22 v2_23 v2_24 v2_25 v2_26 v2_27 v2_28 v2_29 v2_30 v2_31 v2_32 v2_33 v2_34 v2_35 v5_0 v5_1 v5_2 v5_3 v5_4 v5_5 v5_6 v5_7 v5_8 v5_9 v11_1 v11_2 v12_0 v12_1 v12_2 v12_4 v12_5 v12_6 v12_7 v12_8 v12_9 v12_10 v12_11 v12_12 v12_13 v12_14 v12_15 v12_16 v12_17 v12_18 v12_19 v12_20 v12_21 v12_22 v12_23 v12_24 v12_25 v12_26 v12_27 v12_28 v12_29 v12_30 v12_31 v12_32 v12_33 v12_34 v12_35 v13_1 v13_2 v2 0 (v12_0.toNat + 1) 0 h2 v12_0.toNat 0 (v12_0.toNat + 1) (by omega) (by omega)⟩


theorem run_newelref06_Same (a0 : List Int) (a1 : List Int) (hg : smallI a0 a1 = true) : ∃ F d, run k82 F d 20 Try.f20 s_newelref06_Same (a0, a1, ()) = some (r_newelref06_Same.enc (eqInts a0 a1)) := by
  refine ⟨200, 6, ?_⟩
  rw [tree_newelref06_Same]
  simp only [smallI, decide_eq_true_eq] at hg
  simp only [r_newelref06_Same, Res.bool, beqn, ble0, Bool.true_and, Bool.and_true, Bool.and_self, cond_true, cond_false, and_false', or_true', hg, decide_true]
  by_cases h : a0.length = a1.length
  · simp [h, eqInts]
    by_cases e : a0 = a1 <;> simp [e]
  · have : a0 ≠ a1 := fun e => h (by rw [e])
    have hb : (((a0.length : Nat) : Int) != ((a1.length : Nat) : Int)) = true := by simp; omega
    rw [hb]
    simp [eqInts, this]

theorem gear_bad {c : Config} {mode e : Int} (h : errGear c mode = e) (he : e ≠ 0) : auto_Gear c mode = (gear0, e) := by
  have : (errGear c mode == 0) = false := by rw [h]; simpa using he
  unfold auto_Gear
  rw [this, h]
  rfl

theorem home_bad {c : Config} {mode nth e : Int} (h : errHome c mode nth = e) (he : e ≠ 0) : auto_Home c mode nth = (0, plan0, e) := by
  have : (errHome c mode nth == 0) = false := by rw [h]; simpa using he
  unfold auto_Home
  rw [this, h]
  rfl

theorem eq_self (l : List Int) : eqInts l l = true := by simp [eqInts]

theorem run_newellaw23_AutoTells (a0 : Config) (a1 : Int) (a2 : Int) (hg : s_newellaw23_AutoTells.wf (a0, a1, a2, ())) : ∃ F d, run k84 F d 3 Try.f3 s_newellaw23_AutoTells (a0, a1, a2, ()) = some (AV.bool true) := by
  refine ⟨200, 6, ?_⟩
  rw [tree_newellaw23_AutoTells]
  simp only [beqn, ble0, Bool.true_and, Bool.and_true, Bool.and_self, cond_true, cond_false]
  cases hf : few10 a0 with
  | false => rfl
  | true =>
    have hsc : smallC a0 = true := (few_small hf).1
    have hcm : smallCM a0 a1 = true := hsc
    have hcn : smallCMN a0 a1 a2 = true := hsc
    simp only [hsc, hcm, hcn, ref_Check_eq, bne_not, Bool.not_true, Bool.not_false, Bool.not_not, Bool.true_or, cond_true, cond_false]
    cases hc : (config_Check a0 == 0) with
    | false =>
      have hne : config_Check a0 ≠ 0 := by simpa using hc
      rw [gear_bad (e := config_Check a0) (by unfold errGear; rw [hc]; rfl) hne, home_bad (e := config_Check a0) (by unfold errHome; rw [hc]; rfl) hne]
      have e2 : auto_Settle a0 = (0, config_Check a0) := by unfold auto_Settle; rw [hc]; rfl
      rw [e2]
      simp only [beq_self_eq_true, Bool.not_false, cond_true]
      rfl
    | true =>
      have hck : config_Check a0 = 0 := by simpa using hc
      have e2 : auto_Settle a0 = (settleO a0, 0) := by unfold auto_Settle; rw [hc]; rfl
      have hco : confOk a0 = true := by simp [confOk, hck, hsc]
      rw [e2]
      simp only [hco, beq_self_eq_true, Bool.not_true, Bool.true_or, cond_true, cond_false]
      by_cases m0 : a1 < 0 ∨ a1 > 5
      · have b0 : (bif decide (a1 < 0) then true else decide (a1 > 5)) = true := by
          rcases m0 with h | h
          · simp [h]
          · have : decide (a1 > 5) = true := by simpa using h
            rw [this]; cases decide (a1 < 0) <;> rfl
        have b1 : (decide (a1 < 0) || decide (a1 > 5)) = true := by simpa using m0
        have b2 : (decide (a1 < 1) || decide (a1 > 5)) = true := by simp; omega
        rw [b0, gear_bad (e := 231) (by unfold errGear; rw [hc, b1]; rfl) (by decide), home_bad (e := 231) (by unfold errHome; rw [hc, b2]; rfl) (by decide)]
        rfl
      · have b0 : (bif decide (a1 < 0) then true else decide (a1 > 5)) = false := by
          have h1 : decide (a1 < 0) = false := by simp; omega
          have h2 : decide (a1 > 5) = false := by simp; omega
          rw [h1, h2]; rfl
        have b1 : (decide (a1 < 0) || decide (a1 > 5)) = false := by simp; omega
        have eg : auto_Gear a0 a1 = (gearO a0 a1, 0) := by
          have : errGear a0 a1 = 0 := by unfold errGear; rw [hc, b1]; rfl
          unfold auto_Gear
          rw [this]; rfl
        rw [b0, eg]
        have hge : ((gearO a0 a1).floors == a0.floors && ((gearO a0 a1).times.travel == a0.times.travel && ((gearO a0 a1).times.level == a0.times.level && ((gearO a0 a1).times.open_ == a0.times.open_ && ((gearO a0 a1).times.dwell == a0.times.dwell && ((gearO a0 a1).times.lead == a0.times.lead && ((gearO a0 a1).times.close == a0.times.close && ((gearO a0 a1).times.hold == a0.times.hold && (((gearO a0 a1).dwell == bif a1 == 1 then a0.rest else bif a1 == 2 then a0.pater else a0.times.dwell) && ((gearO a0 a1).most == bif deafM a1 then 0 else a0.times.hold)))))))))) = true := by
          simp only [gearO, beq_self_eq_true, Bool.and_self]
        simp only [hge, beq_self_eq_true, Bool.not_true, Bool.true_or, cond_true, cond_false]
        by_cases mz : a1 = 0
        · subst mz
          rw [home_bad (e := 231) (by unfold errHome; rw [hc]; rfl) (by decide)]
          rfl
        · have bz : (a1 == 0) = false := by simpa using mz
          have b2 : (decide (a1 < 1) || decide (a1 > 5)) = false := by simp; omega
          rw [bz]
          simp only [cond_false]
          by_cases n0 : a2 < 0 ∨ a2 ≥ a0.cars
          · have d0 : (bif decide (a2 < 0) then true else decide (a2 ≥ a0.cars)) = true := by
              rcases n0 with h | h
              · simp [h]
              · have : decide (a2 ≥ a0.cars) = true := by simpa using h
                rw [this]; cases decide (a2 < 0) <;> rfl
            have d1 : (decide (a2 < 0) || decide (a2 ≥ a0.cars)) = true := by simpa using n0
            rw [d0, home_bad (e := 230) (by unfold errHome; rw [hc, b2, d1]; rfl) (by decide)]
            rfl
          · have d0 : (bif decide (a2 < 0) then true else decide (a2 ≥ a0.cars)) = false := by
              have h1 : decide (a2 < 0) = false := by simp; omega
              have h2 : decide (a2 ≥ a0.cars) = false := by simp; omega
              rw [h1, h2]; rfl
            have d1 : (decide (a2 < 0) || decide (a2 ≥ a0.cars)) = false := by
              have h1 : decide (a2 < 0) = false := by simp; omega
              have h2 : decide (a2 ≥ a0.cars) = false := by simp; omega
              rw [h1, h2]; rfl
            have eh : errHome a0 a1 a2 = 0 := by unfold errHome; rw [hc, b2, d1]; rfl
            have hho : homeOk a0 a1 a2 = true := by simp [homeOk, eh, hsc]
            have eH : auto_Home a0 a1 a2 = (homeO a0 a1 a2, planO a0 a1 a2, 0) := by unfold auto_Home; rw [eh]; rfl
            have hfl : decide (a0.floors ≤ 1048576) = true := by
              have := (conf_facts hck).1
              simp; omega
            have hlen : (planO a0 a1 a2).stops.length ≤ 64 := by
              cases hp : plannedM a1 with
              | true => exact (plan_may hck hp (by omega) (by omega)).2.1
              | false => rw [plan_none hp]; decide
            have hsi : ∀ l, smallI (planO a0 a1 a2).stops l = true := fun l => by simp only [smallI, decide_eq_true_eq]; omega
            rw [d0, eH]
            simp only [hho, hfl, hsi, beqn, ble0, beq_self_eq_true, Bool.true_and, Bool.and_true, Bool.and_self, Bool.not_true, Bool.true_or, cond_true, cond_false]
            cases m1 : (a1 == 1) with
            | true =>
              have hp : planO a0 a1 a2 = ⟨a0.stops, a0.cars, a2⟩ := by simp [planO, m1]
              rw [hp]
              simp only [eq_self, beq_self_eq_true, cond_true]
            | false =>
              cases m2 : (a1 == 2) with
              | true =>
                have hp : planO a0 a1 a2 = ⟨floorsL a0.floors, a0.cars, a2⟩ := by simp [planO, m1, m2]
                rw [hp]
                simp only [eq_self, beq_self_eq_true, cond_true, cond_false, Bool.not_true]
              | false =>
                have hp : planO a0 a1 a2 = plan0 := by simp [planO, m1, m2]
                rw [hp]
                rfl

end Go.Proofs.Ytdpdmjjpdebpeaa.Px.PxQ
