/- The document's turns, clocks and instants. -/
import Derived.Test.YtgfinnhojeghhaaDoorPxWProofs5
set_option linter.unusedVariables false
set_option linter.unusedSimpArgs false
namespace Go.Proofs.YtgfinnhojeghhaaDoor.Px.PxW
open Go Go.Proofs
set_option linter.unusedSimpArgs false
set_option linter.unusedVariables false

def metI (o i : Int) : Int := (i + 6 - o) / 7
def lastI (f o i : Int) : Int := if metI o i = 0 then 0 else f + o + 7 * (metI o i - 1)
theorem met_hit {f w o i : Int} (ho : o = (w - f % 7) % 7) (hw : 0 ≤ w ∧ w ≤ 6) (hi : 0 ≤ i) (h : (f + i) % 7 = w) : metI o (i + 1) = metI o i + 1 ∧ lastI f o (i + 1) = f + i ∧ 0 ≤ metI o i ∧ i = o + 7 * metI o i := by
  have h0 : 0 ≤ o ∧ o ≤ 6 := by omega
  have h1 : (i - o) % 7 = 0 := by omega
  have h2 : o ≤ i := by omega
  have e : metI o (i + 1) = metI o i + 1 := by unfold metI; omega
  refine ⟨e, ?_, ?_, ?_⟩
  · unfold lastI
    rw [e]
    unfold metI
    split <;> omega
  · unfold metI; omega
  · unfold metI; omega
theorem met_miss {f w o i : Int} (ho : o = (w - f % 7) % 7) (hw : 0 ≤ w ∧ w ≤ 6) (hi : 0 ≤ i) (h : (f + i) % 7 ≠ w) : metI o (i + 1) = metI o i ∧ lastI f o (i + 1) = lastI f o i := by
  have h0 : 0 ≤ o ∧ o ≤ 6 := by omega
  have h1 : (i - o) % 7 ≠ 0 := by omega
  have e : metI o (i + 1) = metI o i := by unfold metI; omega
  exact ⟨e, by unfold lastI; rw [e]⟩

theorem go_rnthE (v0 v1 v2 v3 v10 v11 v12 v13 : Int) (F d : Nat) (hm : monthB v0 v1 = true) (hf : v10 = firstG v0 v1) (hw : 0 ≤ v2 ∧ v2 ≤ 6) (o : Int) (ho : o = (v2 - v10 % 7) % 7) (hk : v3 = -1 ∨ v3 > metI o (daysG v0 v1)) : ∀ (m : Nat) (i : Int) (n : Nat), 0 ≤ i → i + m = daysG v0 v1 → m < n →
    I_rnth F (d + 3) n (S_rnth v0 v1 v2 v3 v10 (metI o i) (lastI v10 o i) i) = some (.exit 0, (X_rnth_1 v3 (lastI v10 o (daysG v0 v1)))) := by
  have hd := days_month hm
  have hr := first_range hm
  intro m
  induction m with
  | zero =>
    intro i n hi hm' hn
    obtain ⟨n, rfl⟩ : ∃ k, n = k + 1 := ⟨n - 1, by omega⟩
    have : i = daysG v0 v1 := by omega
    subst this
    rw [step_rnth, show decide (daysG v0 v1 < daysG v0 v1) = false by simp, cond_false]
  | succ m ih =>
    intro i n hi hm' hn
    obtain ⟨n, rfl⟩ : ∃ k, n = k + 1 := ⟨n - 1, by omega⟩
    have hq : 0 ≤ o ∧ o ≤ 6 := by omega
    have hmi : 0 ≤ metI o i ∧ metI o i ≤ 5 ∧ metI o i ≤ metI o (daysG v0 v1) := by unfold metI; omega
    have hl := ih (i + 1) n (by omega) (by omega) (by omega)
    rw [step_rnth, show decide (i < daysG v0 v1) = true by simp; omega, cond_true, wrI (n := v10 + i) (by omega), wrI (n := i + 1) (by omega), wrI (n := metI o i + 1) (by omega)]
    rw [show midW (v10 + i) = true by simp only [midW, mid, Bool.and_eq_true, decide_eq_true_eq]; omega, Bool.and_self, cond_true]
    by_cases hc : (v10 + i) % 7 = v2
    · obtain ⟨e1, e2, e3, e4⟩ := met_hit ho hw hi hc
      rw [e1, e2] at hl
      have hmo : metI o (i + 1) ≤ metI o (daysG v0 v1) := by unfold metI; omega
      rw [show (rWeekday (v10 + i) != v2) = false by simp [rWeekday, hc], cond_false, show (metI o i + 1 == v3) = false by rw [beq_eq_false_iff_ne]; omega, cond_false]
      exact hl
    · obtain ⟨e1, e2⟩ := met_miss ho hw hi hc
      rw [e1, e2] at hl
      rw [show (rWeekday (v10 + i) != v2) = true by simp [rWeekday, hc], cond_true]
      exact hl

theorem go_rnthK (v0 v1 v2 v3 v10 v11 v12 v13 : Int) (F d : Nat) (hm : monthB v0 v1 = true) (hf : v10 = firstG v0 v1) (hw : 0 ≤ v2 ∧ v2 ≤ 6) (o : Int) (ho : o = (v2 - v10 % 7) % 7) (hk : 1 ≤ v3 ∧ v3 ≤ metI o (daysG v0 v1)) : ∀ (m : Nat) (i : Int) (n : Nat), 0 ≤ i → i + m = o + 7 * (v3 - 1) → m < n →
    I_rnth F (d + 3) n (S_rnth v0 v1 v2 v3 v10 (metI o i) (lastI v10 o i) i) = some (.ret, (X_rnth_0 v3 v10 (o + 7 * (v3 - 1)))) := by
  have hd := days_month hm
  have hr := first_range hm
  have hq : 0 ≤ o ∧ o ≤ 6 := by omega
  have hlt : o + 7 * (v3 - 1) < daysG v0 v1 := by have := hk.2; unfold metI at this; omega
  intro m
  induction m with
  | zero =>
    intro i n hi hm' hn
    obtain ⟨n, rfl⟩ : ∃ k, n = k + 1 := ⟨n - 1, by omega⟩
    have : i = o + 7 * (v3 - 1) := by omega
    subst this
    have hc : (v10 + (o + 7 * (v3 - 1))) % 7 = v2 := by omega
    obtain ⟨e1, e2, e3, e4⟩ := met_hit ho hw hi hc
    rw [step_rnth, show decide (o + 7 * (v3 - 1) < daysG v0 v1) = true by simp; omega, cond_true, wrI (n := v10 + (o + 7 * (v3 - 1))) (by omega), wrI (n := metI o (o + 7 * (v3 - 1)) + 1) (by omega)]
    rw [show midW (v10 + (o + 7 * (v3 - 1))) = true by simp only [midW, mid, Bool.and_eq_true, decide_eq_true_eq]; omega, Bool.and_self, cond_true]
    rw [show (rWeekday (v10 + (o + 7 * (v3 - 1))) != v2) = false by simp [rWeekday, hc], cond_false, show (metI o (o + 7 * (v3 - 1)) + 1 == v3) = true by rw [beq_iff_eq]; omega, cond_true]
  | succ m ih =>
    intro i n hi hm' hn
    obtain ⟨n, rfl⟩ : ∃ k, n = k + 1 := ⟨n - 1, by omega⟩
    have hmi : 0 ≤ metI o i ∧ metI o i ≤ 5 ∧ metI o i < v3 := by unfold metI; omega
    have hl := ih (i + 1) n (by omega) (by omega) (by omega)
    rw [step_rnth, show decide (i < daysG v0 v1) = true by simp; omega, cond_true, wrI (n := v10 + i) (by omega), wrI (n := i + 1) (by omega), wrI (n := metI o i + 1) (by omega)]
    rw [show midW (v10 + i) = true by simp only [midW, mid, Bool.and_eq_true, decide_eq_true_eq]; omega, Bool.and_self, cond_true]
    by_cases hc : (v10 + i) % 7 = v2
    · obtain ⟨e1, e2, e3, e4⟩ := met_hit ho hw hi hc
      rw [e1, e2] at hl
      rw [show (rWeekday (v10 + i) != v2) = false by simp [rWeekday, hc], cond_false, show (metI o i + 1 == v3) = false by rw [beq_eq_false_iff_ne]; omega, cond_false]
      exact hl
    · obtain ⟨e1, e2⟩ := met_miss ho hw hi hc
      rw [e1, e2] at hl
      rw [show (rWeekday (v10 + i) != v2) = true by simp [rWeekday, hc], cond_true]
      exact hl

theorem nth_good {w k : Int} (h : nthBad w k = false) : (0 ≤ w ∧ w ≤ 6) ∧ (k = -1 ∨ (1 ≤ k ∧ k ≤ 5)) := by
  simp only [nthBad, Bool.or_eq_false_iff, Bool.and_eq_false_iff, decide_eq_false_iff_not, bne_eq_false_iff_eq] at h
  obtain ⟨⟨w0, w1⟩, hk⟩ := h
  refine ⟨by omega, ?_⟩
  rcases hk with h | ⟨h1, h2⟩
  · exact .inl h
  · exact .inr (by omega)

theorem main_rnth (v0 v1 v2 v3 v10 v11 v12 v13 : Int) (hg : (v10 == firstG v0 v1 && (monthB v0 v1 && (!nthBad v2 v3 && (v11 == 0 && (v12 == 0 && v13 == 0))))) = true) : ∃ N d, I_rnth N d N (S_rnth v0 v1 v2 v3 v10 v11 v12 v13) = some (altK Prod.mk [(endN v3 (cntN v0 v1 v2), .exit 0, (X_rnth_1 v3 (fromG v0 v1 v2 + 7 * (cntN v0 v1 v2 - 1))))] (.ret) (X_rnth_0 v3 v10 (fromG v0 v1 v2 + 7 * (v3 - 1) - v10))) := by
  simp only [Bool.and_eq_true, beq_iff_eq, Bool.not_eq_true'] at hg
  obtain ⟨rfl, hm, hb, rfl, rfl, rfl⟩ := hg
  obtain ⟨hw, hk⟩ := nth_good hb
  have hd := days_month hm
  let o : Int := (v2 - firstG v0 v1 % 7) % 7
  have ho : o = (v2 - firstG v0 v1 % 7) % 7 := rfl
  have hq : 0 ≤ o ∧ o ≤ 6 := by omega
  have h0 : metI o 0 = 0 := by unfold metI; omega
  have hl0 : lastI (firstG v0 v1) o 0 = 0 := by unfold lastI; rw [if_pos h0]
  have hfr : fromG v0 v1 v2 = firstG v0 v1 + o := rfl
  have hcn : cntN v0 v1 v2 = metI o (daysG v0 v1) := by unfold cntN metI; rw [hfr]; omega
  have hme : 4 ≤ metI o (daysG v0 v1) := by unfold metI; omega
  refine ⟨200, 3, ?_⟩
  cases he : endN v3 (cntN v0 v1 v2) with
  | true =>
    have hk' : v3 = -1 ∨ v3 > metI o (daysG v0 v1) := by
      rw [hcn] at he
      simpa [endN] using he
    have := go_rnthE v0 v1 v2 v3 (firstG v0 v1) 0 0 0 200 0 hm rfl hw o ho hk' (daysG v0 v1).toNat 0 200 (by omega) (by omega) (by omega)
    rw [h0, hl0] at this
    rw [this]
    have hle : lastI (firstG v0 v1) o (daysG v0 v1) = fromG v0 v1 v2 + 7 * (cntN v0 v1 v2 - 1) := by unfold lastI; rw [if_neg (by omega), hcn, hfr]
    simp [altK, hle]
  | false =>
    have hk' : 1 ≤ v3 ∧ v3 ≤ metI o (daysG v0 v1) := by
      rw [hcn] at he
      simp [endN] at he
      omega
    have := go_rnthK v0 v1 v2 v3 (firstG v0 v1) 0 0 0 200 0 hm rfl hw o ho hk' (o + 7 * (v3 - 1)).toNat 0 200 (by omega) (by omega) (by omega)
    rw [h0, hl0] at this
    rw [this]
    simp [altK, hfr, show firstG v0 v1 + o + 7 * (v3 - 1) - firstG v0 v1 = o + 7 * (v3 - 1) by omega]

theorem run_newelref02_Nth (a0 : Int) (a1 : Int) (a2 : Int) (a3 : Int) : ∃ F d, run k28 F d 77 Tryd.f77 s_newelref02_Nth (a0, a1, a2, a3, ()) = some (r_newelref02_Nth.enc (nthG a0 a1 a2 a3)) := by
  refine ⟨200, 6, ?_⟩
  rw [tree_newelref02_Nth]
  unfold nthG
  cases hd : daysG a0 a1 == 0 with
  | true => rfl
  | false =>
    have hd0 : daysG a0 a1 ≠ 0 := by simpa using hd
    obtain ⟨y1, y2, m1, m2⟩ := (daysG_range a0 a1).2.2 hd0
    have hm : monthB a0 a1 = true := by simp only [monthB, Bool.and_eq_true, decide_eq_true_eq]; omega
    rw [cond_false, cond_false]
    rw [show (bif bif decide (a2 < 0) then true else decide (a2 > 6) then true else bif a3 != -1 then bif decide (a3 < 1) then true else decide (a3 > 5) else false) = nthBad a2 a3 by
      unfold nthBad
      cases decide (a2 < 0) <;> cases decide (a2 > 6) <;> cases (a3 != -1) <;> cases decide (a3 < 1) <;> rfl]
    cases hb : nthBad a2 a3 with
    | true => rfl
    | false =>
      obtain ⟨hw, hk⟩ := nth_good hb
      have hdm := days_month hm
      have hr := first_range hm
      have hf : rDay { year := a0, month := a1, day := 1 } = firstG a0 a1 := by unfold rDay firstG; simp only; omega
      have hfr : firstG a0 a1 ≤ fromG a0 a1 a2 ∧ fromG a0 a1 a2 ≤ firstG a0 a1 + 6 := by unfold fromG; omega
      rw [hf, show dateOk { year := a0, month := a1, day := 1 } = true by simp only [dateOk, hm, lit, Bool.true_and]; rfl, hm]
      simp only [beq_self_eq_true, Bool.not_false, Bool.and_self, cond_true, cond_false]
      have hc : (firstG a0 a1 + daysG a0 a1 - 1 - fromG a0 a1 a2) / 7 = cntN a0 a1 a2 - 1 := by unfold cntN; omega
      rcases hk with rfl | hk
      · rw [show endN (-1) (cntN a0 a1 a2) = true from rfl, cond_true, show ((-1 : Int) == -1) = true from rfl, cond_true, cond_true, hc, show 7 * (cntN a0 a1 a2 - 1) = (cntN a0 a1 a2 - 1) * 7 by omega]
        rfl
      · rw [show (a3 == -1) = false by rw [beq_eq_false_iff_ne]; omega]
        simp only [cond_false]
        have hcc : decide (fromG a0 a1 a2 + 7 * (a3 - 1) ≥ firstG a0 a1 + daysG a0 a1) = decide (a3 > cntN a0 a1 a2) := by
          rw [Bool.eq_iff_iff, decide_eq_true_eq, decide_eq_true_eq]; unfold cntN; omega
        rw [show endN a3 (cntN a0 a1 a2) = decide (a3 > cntN a0 a1 a2) by unfold endN; rw [show (a3 == -1) = false by rw [beq_eq_false_iff_ne]; omega, Bool.false_or], hcc]
        cases decide (a3 > cntN a0 a1 a2) with
        | true => rfl
        | false =>
          rw [cond_false, cond_false, show firstG a0 a1 + (fromG a0 a1 a2 + 7 * (a3 - 1) - firstG a0 a1) = fromG a0 a1 a2 + 7 * (a3 - 1) by omega, wrI (by omega)]
          rfl

theorem run_newelref06_turn (a0 : Turn) : ∃ F d, run k29 F d 21 Tryd.f21 s_newelref06_turn (a0, ()) = some (r_newelref06_turn.enc (turnB a0)) := by
  refine ⟨200, 6, ?_⟩
  rw [tree_newelref06_turn]
  simp only [r_newelref06_turn, Res.bool, turnB, inB, ge_iff_le]
  cases decide (1 ≤ a0.month) <;> cases decide (a0.month ≤ 12) <;> cases decide (1 ≤ a0.week) <;> cases decide (a0.week ≤ 5) <;> cases decide (0 ≤ a0.weekday) <;> cases decide (a0.weekday ≤ 6) <;> cases decide (0 ≤ a0.minute) <;> cases decide (a0.minute ≤ 1439) <;> rfl

theorem run_newelref06_Check (a0 : Zone) : ∃ F d, run k30 F d 9 Tryd.f9 s_newelref06_Check (a0, ()) = some (r_newelref06_Check.enc (zone_Check a0)) := by
  refine ⟨200, 6, ?_⟩
  rw [tree_newelref06_Check]
  simp only [r_newelref06_Check, Res.int, zone_Check, turnsB, turn_eq0, out_in]
  cases h1 : inB a0.base (-720) 840
  · rfl
  cases h2 : inB a0.shift 0 120
  · rfl
  cases h3 : a0.shift == 0
  · cases g1 : turnB a0.on
    · cases decide (IntKind.wrap IntKind.i64 (a0.on.month - a0.off.month) < 0) <;> rfl
    cases g2 : turnB a0.off
    · cases decide (IntKind.wrap IntKind.i64 (a0.on.month - a0.off.month) < 0) <;> rfl
    have b1 : inB a0.on.month 1 12 = true := by simp only [turnB, Bool.and_eq_true] at g1; exact g1.1.1.1
    have b2 : inB a0.off.month 1 12 = true := by simp only [turnB, Bool.and_eq_true] at g2; exact g2.1.1.1
    rw [wrap_sub b2 b1 (by omega) (by omega)]
    have b1' := inB_iff.1 b1
    have b2' := inB_iff.1 b2
    unfold apart
    by_cases h : a0.on.month ≤ a0.off.month
    · by_cases h' : a0.on.month = a0.off.month
      · simp [h', inB]
      · rw [if_pos h, IntWalk.i64_in (0 - (a0.on.month - a0.off.month)) (by omega), show decide (a0.on.month - a0.off.month < 0) = true by simp; omega, show 0 - (a0.on.month - a0.off.month) = a0.off.month - a0.on.month by omega]
        simp only [Bool.not_true, cond_true, cond_false, out_in, Bool.true_and]
        cases inB (a0.off.month - a0.on.month) 2 10 <;> rfl
    · rw [if_neg h, show decide (a0.on.month - a0.off.month < 0) = false by simp; omega]
      simp only [Bool.not_true, cond_true, cond_false, out_in, Bool.true_and]
      cases inB (a0.on.month - a0.off.month) 2 10 <;> rfl
  · cases decide (a0.on = turn0) <;> cases decide (a0.off = turn0) <;> rfl

theorem run_newelref06_When (a0 : Zone) (a1 : Turn) (a2 : Int) (hg : whenOk a0 a1 a2 = true) : ∃ F d, run k31 F d 65 Tryd.f65 s_newelref06_When (a0, a1, a2, ()) = some (r_newelref06_When.enc (whenG a0 a1 a2)) := by
  refine ⟨200, 6, ?_⟩
  rw [tree_newelref06_When]
  simp only [whenOk, lit, Bool.and_eq_true, decide_eq_true_eq] at hg
  simp only [r_newelref06_When, Res.int, whenG]
  have w : ∀ k, IntKind.wrap IntKind.i64 (IntKind.wrap IntKind.i64 (IntKind.wrap IntKind.i64 ((nthG a2 a1.month a1.weekday k).1 * 1440) + a1.minute) - a0.base) = (nthG a2 a1.month a1.weekday k).1 * 1440 + a1.minute - a0.base := fun k => by
    have := nth_range a2 a1.month a1.weekday k
    rw [wrI (n := (nthG a2 a1.month a1.weekday k).1 * 1440) (by omega), wrI (n := (nthG a2 a1.month a1.weekday k).1 * 1440 + a1.minute) (by omega), wrI (by omega)]
  rw [w, w]
  cases a1.week == 5 <;> rfl

theorem run_newelref06_Summer (a0 : Zone) (a1 : Int) (hg : summerOk a0 a1 = true) : ∃ F d, run k32 F d 50 Tryd.f50 s_newelref06_Summer (a0, a1, ()) = some (r_newelref06_Summer.enc (summerR a0 a1)) := by
  refine ⟨200, 6, ?_⟩
  rw [tree_newelref06_Summer]
  simp only [summerOk, shiftOk, turnsOk, Bool.and_eq_true] at hg
  obtain ⟨⟨⟨b1, b2, b3⟩, b4⟩, b5, b6⟩ := hg
  have b1' := b1
  simp only [lit, mid, Bool.and_eq_true, decide_eq_true_eq] at b1' b4
  simp only [r_newelref06_Summer, Res.bool, summerR]
  cases h0 : a0.shift == 0 with
  | true => rfl
  | false =>
    have w : IntKind.wrap IntKind.i64 (a1 + a0.base) = a1 + a0.base := wrI (by omega)
    have ho : divOk (a1 + a0.base) 1440 = true := by simp only [divOk, byB, big, Bool.and_eq_true, decide_eq_true_eq]; omega
    have k1 : ∀ y, whenOk a0 a0.on y = true := fun y => by simp only [whenOk, b1, b2, Bool.and_self]
    have k2 : ∀ y, whenOk a0 a0.off y = true := fun y => by simp only [whenOk, b1, b3, Bool.and_self]
    have hdv : rDiv (a1 + a0.base) 1440 = (a1 + a0.base) / 1440 := rfl
    have hy : (rOf ((a1 + a0.base) / 1440)).year = yearOf a0 a1 := rfl
    simp only [w, ho, hdv, b6, k1, k2, hy, Bool.and_self, Bool.true_and, cond_true, cond_false, ge_iff_le]
    cases decide (whenG a0 a0.on (yearOf a0 a1) < whenG a0 a0.off (yearOf a0 a1)) <;> cases decide (whenG a0 a0.on (yearOf a0 a1) ≤ a1) <;> cases decide (whenG a0 a0.off (yearOf a0 a1) ≤ a1) <;> rfl

theorem run_newelref06_Told (a0 : Zone) (a1 : Int) (hg : summerOk a0 a1 = true) : ∃ F d, run k33 F d 34 Tryd.f34 s_newelref06_Told (a0, a1, ()) = some (r_newelref06_Told.enc (toldR a0 a1)) := by
  refine ⟨200, 6, ?_⟩
  rw [tree_newelref06_Told]
  have hg' := hg
  simp only [summerOk, shiftOk, turnsOk, lit, mid, Bool.and_eq_true, decide_eq_true_eq] at hg'
  rw [hg]
  simp only [r_newelref06_Told, Res.int, toldR, Bool.and_self, cond_true]
  rw [wrI (n := a1 + a0.base) (by omega), wrI (n := a1 + a0.base + a0.shift) (by omega)]
  cases summerR a0 a1 <;> rfl

theorem run_newelref06_Instants (a0 : Zone) (a1 : Int) (a2 : Int) (hg : instRok a0 a1 a2 = true) : ∃ F d, runO k34 F d 23 Tryd.f23 s_newelref06_Instants r_newelref06_Instants (a0, a1, a2, ()) = some (instR a0 a1 a2) := by
  refine ⟨200, 6, ?_⟩
  rw [tree_newelref06_Instants]
  simp only [instRok, Bool.and_eq_true, decide_eq_true_eq] at hg
  obtain ⟨p3, p1, p1', p2, p2', g1, g2, g3, g4⟩ := hg
  unfold instR
  have w1 : IntKind.wrap IntKind.i64 (a1 * 1440) = a1 * 1440 := wrI (by omega)
  have w2 : IntKind.wrap IntKind.i64 (a1 * 1440 + a2) = a1 * 1440 + a2 := wrI (by omega)
  have w3 : IntKind.wrap IntKind.i64 (a1 * 1440 + a2 - a0.base) = a1 * 1440 + a2 - a0.base := wrI (by omega)
  have w4 : IntKind.wrap IntKind.i64 (a1 * 1440 + a2 - a0.base - a0.shift) = a1 * 1440 + a2 - a0.base - a0.shift := wrI (by omega)
  have hs : lit a0.shift = true := by simp only [lit, Bool.and_eq_true, decide_eq_true_eq]; omega
  have o1 : summerOk a0 (a1 * 1440 + a2 - a0.base) = true := by
    simp only [summerOk, shiftOk, p3, hs, mid, Bool.true_and, Bool.and_eq_true, decide_eq_true_eq, dayOk]; omega
  have o2 : summerOk a0 (a1 * 1440 + a2 - a0.base - a0.shift) = true := by
    simp only [summerOk, shiftOk, p3, hs, mid, Bool.true_and, Bool.and_eq_true, decide_eq_true_eq, dayOk]; omega
  simp only [w1, w2, w3, w4, o1, o2, Bool.and_self, Bool.true_and, Bool.true_or, cond_true]
  rw [show (bif decide (a0.shift > 0) then toldR a0 (a1 * 1440 + a2 - a0.base - a0.shift) == a1 * 1440 + a2 else false) = (decide (a0.shift > 0) && (toldR a0 (a1 * 1440 + a2 - a0.base - a0.shift) == a1 * 1440 + a2)) by cases decide (a0.shift > 0) <;> rfl]
  cases (decide (a0.shift > 0) && (toldR a0 (a1 * 1440 + a2 - a0.base - a0.shift) == a1 * 1440 + a2)) <;> cases toldR a0 (a1 * 1440 + a2 - a0.base) == a1 * 1440 + a2 <;> rfl

theorem run_newelref14_Day (a0 : Int) : ∃ F d, run k35 F d 10 Tryd.f10 s_newelref14_Day (a0, ()) = some (r_newelref14_Day.enc (day14 a0)) := by
  refine ⟨200, 6, ?_⟩
  rw [tree_newelref14_Day]
  simp only [r_newelref14_Day, Res.bool, day14]
  cases decide (a0 ≥ 402) <;> rfl
end Go.Proofs.YtgfinnhojeghhaaDoor.Px.PxW
