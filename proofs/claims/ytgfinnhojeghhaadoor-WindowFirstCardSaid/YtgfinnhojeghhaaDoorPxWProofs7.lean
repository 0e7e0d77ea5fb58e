/- Minutes' moments. -/
import Derived.Test.YtgfinnhojeghhaaDoorPxWProofs6
set_option linter.unusedVariables false
set_option linter.unusedSimpArgs false
namespace Go.Proofs.YtgfinnhojeghhaaDoor.Px.PxW
open Go Go.Proofs
set_option linter.unusedSimpArgs false
set_option linter.unusedVariables false

theorem whole (z : Zone) : (⟨z.base, z.shift, ⟨z.on.month, z.on.week, z.on.weekday, z.on.minute⟩, ⟨z.off.month, z.off.week, z.off.weekday, z.off.minute⟩⟩ : Zone) = z := rfl
theorem told_div {t : Int} (h : 0 ≤ t) (h2 : t ≤ 5258868000) : IntKind.wrap IntKind.i64 (Int.tdiv t 1440) = t / 1440 ∧ Int.tmod t 1440 = t % 1440 := by
  rw [Int.tdiv_eq_ediv_of_nonneg h, Int.tmod_eq_emod_of_nonneg h]
  exact ⟨wrI (by omega), rfl⟩

theorem len_pos {α : Type} (l : List α) : decide (((l.length : Nat) : Int) > 0) = !l.isEmpty ∧ decide (0 < ((l.length : Nat) : Int)) = !l.isEmpty ∧ decide (0 < l.length) = !l.isEmpty ∧ (((l.length : Nat) : Int) == 0) = l.isEmpty := by
  cases l with
  | nil => exact ⟨rfl, rfl, rfl, rfl⟩
  | cons x l =>
    refine ⟨by simp, by simp, by simp, ?_⟩
    simp only [List.isEmpty_cons, List.length_cons, beq_eq_false_iff_ne]
    omega

theorem go_wmom (v0_0 v0_1 v0_2 v0_3 v0_4 v0_5 v0_6 v0_7 v0_8 v0_9 v9 : Int) (F d : Nat) (z : Zone) (hz : z = (⟨v0_0, v0_1, ⟨v0_2, v0_3, v0_4, v0_5⟩, ⟨v0_6, v0_7, v0_8, v0_9⟩⟩ : Zone)) : ∀ (k : Nat) (t : Int) (n : Nat), 0 ≤ t → t + k ≤ 5258868000 → reachIn (rowG z) k t = true → k < n →
    I_wmom F (d + 3) n (S_wmom v0_0 v0_1 v0_2 v0_3 v0_4 v0_5 v0_6 v0_7 v0_8 v0_9 t) = some (.ret, (X_wmom_0 v0_0 v0_1 v0_2 v0_3 v0_4 v0_5 v0_6 v0_7 v0_8 v0_9 (whereIn (rowG z) k t))) := by
  have step : ∀ (t : Int) (n : Nat), 0 ≤ t → t ≤ 5258868000 → I_wmom F (d + 3) (n + 1) (S_wmom v0_0 v0_1 v0_2 v0_3 v0_4 v0_5 v0_6 v0_7 v0_8 v0_9 t) = cond (rowG z t).isEmpty (I_wmom F (d + 3) n (S_wmom v0_0 v0_1 v0_2 v0_3 v0_4 v0_5 v0_6 v0_7 v0_8 v0_9 (t + 1))) (some (.ret, (X_wmom_0 v0_0 v0_1 v0_2 v0_3 v0_4 v0_5 v0_6 v0_7 v0_8 v0_9 t))) := by
    intro t n h0 h1
    obtain ⟨d1, d2⟩ := told_div h0 h1
    have hl := len_pos (rowG z t)
    unfold rowG at hl ⊢
    rw [step_wmom, d1, d2, ← hz, hl.1, hl.2.2.1, wrI (n := t + 1) (by omega)]
    cases ((instG z (t / 1440) (t % 1440)).1).isEmpty <;> rfl
  intro k
  induction k with
  | zero =>
    intro t n h0 h1 hr hn
    obtain ⟨n, rfl⟩ : ∃ k, n = k + 1 := ⟨n - 1, by omega⟩
    rw [step t n h0 (by omega)]
    simp only [reachIn, Bool.not_eq_true'] at hr
    rw [hr]
    rfl
  | succ k ih =>
    intro t n h0 h1 hr hn
    obtain ⟨n, rfl⟩ : ∃ k, n = k + 1 := ⟨n - 1, by omega⟩
    rw [step t n h0 (by omega)]
    simp only [reachIn, Bool.or_eq_true, Bool.not_eq_true'] at hr
    simp only [whereIn]
    cases he : (rowG z t).isEmpty with
    | false => rfl
    | true =>
      rw [he] at hr
      rw [cond_true, cond_true]
      refine ih (t + 1) n (by omega) (by omega) ?_ (by omega)
      rcases hr with h | h
      · cases h
      · exact h

theorem main_wmom (v0_0 v0_1 v0_2 v0_3 v0_4 v0_5 v0_6 v0_7 v0_8 v0_9 v9 : Int) (hg : (zone_Check (⟨v0_0, v0_1, ⟨v0_2, v0_3, v0_4, v0_5⟩, ⟨v0_6, v0_7, v0_8, v0_9⟩⟩ : Zone) == 0 && (toldOk v9 && reachIn (rowG (⟨v0_0, v0_1, ⟨v0_2, v0_3, v0_4, v0_5⟩, ⟨v0_6, v0_7, v0_8, v0_9⟩⟩ : Zone)) 200 v9)) = true) : ∃ N d, I_wmom N d N (S_wmom v0_0 v0_1 v0_2 v0_3 v0_4 v0_5 v0_6 v0_7 v0_8 v0_9 v9) = some (altK Prod.mk [] (.ret) (X_wmom_0 v0_0 v0_1 v0_2 v0_3 v0_4 v0_5 v0_6 v0_7 v0_8 v0_9 (whereIn (rowG (⟨v0_0, v0_1, ⟨v0_2, v0_3, v0_4, v0_5⟩, ⟨v0_6, v0_7, v0_8, v0_9⟩⟩ : Zone)) 200 v9))) := by
  simp only [Bool.and_eq_true, beq_iff_eq] at hg
  obtain ⟨h1, h2, h3⟩ := hg
  simp only [toldOk, Bool.and_eq_true, decide_eq_true_eq] at h2
  exact ⟨300, 3, go_wmom v0_0 v0_1 v0_2 v0_3 v0_4 v0_5 v0_6 v0_7 v0_8 v0_9 v9 300 0 _ rfl 200 v9 300 (by omega) (by omega) h3 (by omega)⟩

theorem run_window_Moment (a0 : Zone) (a1 : Int) (a2 : Int) : ∃ F d, run k38 F d 8 Tryd.f8 s_window_Moment (a0, a1, a2, ()) = some (r_window_Moment.enc (momG a0 a1 a2)) := by
  refine ⟨200, 6, ?_⟩
  rw [tree_window_Moment]
  unfold momG
  cases hz : zone_Check a0 != 0 with
  | true => rfl
  | false =>
    have hz0 : zone_Check a0 = 0 := by simpa using hz
    rw [cond_false, cond_false]
    have hc : (bif bif !recG a1 then true else decide (a2 < 0) then true else decide (a2 ≥ 1440)) = !momOk a1 a2 := by
      unfold momOk
      rw [show decide (a2 < 0) = !decide (0 ≤ a2) by rw [Bool.eq_iff_iff]; simp, show decide (a2 ≥ 1440) = !decide (a2 < 1440) by rw [Bool.eq_iff_iff]; simp]
      cases recG a1 <;> cases decide (0 ≤ a2) <;> cases decide (a2 < 1440) <;> rfl
    rw [hc]
    cases hm : momOk a1 a2 with
    | false => rfl
    | true =>
      have ht := told_ok hm
      have hr := reach_G hz0 ht
      have ht' := ht
      simp only [toldOk, Bool.and_eq_true, decide_eq_true_eq] at ht'
      have hd : 402 ≤ a1 ∧ a1 ≤ 3651990 := by
        simp only [momOk, Bool.and_eq_true] at hm
        have := hm.1
        unfold recG at this
        cases h : decide (402 ≤ a1)
        · rw [h] at this; cases this
        · rw [h, cond_true] at this; simp at h this; omega
      rw [wrI (n := a1 * 1440) (by omega), wrI (n := a1 * 1440 + a2) (by omega)]
      rw [hz0, ht, hr]
      obtain ⟨d1, d2⟩ := told_div (t := whereIn (rowG a0) 200 (a1 * 1440 + a2)) (by have := where_range (rowG a0) 200 (a1 * 1440 + a2); omega) (by have := where_range (rowG a0) 200 (a1 * 1440 + a2); omega)
      rw [d1, d2]
      rfl

theorem go_rmom (l2 : List (Int)) (v0_0 v0_1 v0_2 v0_3 v0_4 v0_5 v0_6 v0_7 v0_8 v0_9 v7 : Int) (F d : Nat) (z : Zone) (hz : z = (⟨v0_0, v0_1, ⟨v0_2, v0_3, v0_4, v0_5⟩, ⟨v0_6, v0_7, v0_8, v0_9⟩⟩ : Zone)) (hc : zone_Check z = 0) : ∀ (k : Nat) (t : Int) (n : Nat), 578880 ≤ t → t + k ≤ 5258868000 → reachIn (rowR z) k t = true → k < n →
    I_rmom F (d + 3) n (S_rmom (rowR z t) v0_0 v0_1 v0_2 v0_3 v0_4 v0_5 v0_6 v0_7 v0_8 v0_9 t) = some (.exit 0, (X_rmom_0 (rowR z (whereIn (rowR z) k t)) v0_0 v0_1 v0_2 v0_3 v0_4 v0_5 v0_6 v0_7 v0_8 v0_9)) := by
  obtain ⟨z1, z2, z3, _⟩ := zone_facts hc
  have step : ∀ (t : Int) (n : Nat), 578880 ≤ t → t ≤ 5258868000 → I_rmom F (d + 3) (n + 1) (S_rmom (rowR z t) v0_0 v0_1 v0_2 v0_3 v0_4 v0_5 v0_6 v0_7 v0_8 v0_9 t) = cond (rowR z t).isEmpty (I_rmom F (d + 3) n (S_rmom (rowR z (t + 1)) v0_0 v0_1 v0_2 v0_3 v0_4 v0_5 v0_6 v0_7 v0_8 v0_9 (t + 1))) (some (.exit 0, (X_rmom_0 (rowR z t) v0_0 v0_1 v0_2 v0_3 v0_4 v0_5 v0_6 v0_7 v0_8 v0_9))) := by
    intro t n h0 h1
    have hl := len_pos (rowR z t)
    rw [step_rmom, hl.2.2.2, wrI (n := t + 1) (by omega)]
    have d3 := told_div (t := t + 1) (by omega)
    cases (rowR z t).isEmpty with
    | false => rfl
    | true =>
      rw [cond_true, cond_true]
      have e1 : IntKind.wrap IntKind.i64 (Int.tdiv (t + 1) 1440) = (t + 1) / 1440 := by
        rw [Int.tdiv_eq_ediv_of_nonneg (by omega)]; exact wrI (by omega)
      have e2 : Int.tmod (t + 1) 1440 = (t + 1) % 1440 := Int.tmod_eq_emod_of_nonneg (by omega)
      rw [e1, e2, ← hz]
      rw [show instRok z ((t + 1) / 1440) ((t + 1) % 1440) = true by simp only [instRok, z3, Bool.true_and, Bool.and_eq_true, decide_eq_true_eq]; omega]
      rw [show Nat.beq (instR z ((t + 1) / 1440) ((t + 1) % 1440)).length (instR z ((t + 1) / 1440) ((t + 1) % 1440)).length = true by simp]
      rfl
  intro k
  induction k with
  | zero =>
    intro t n h0 h1 hr hn
    obtain ⟨n, rfl⟩ : ∃ k, n = k + 1 := ⟨n - 1, by omega⟩
    rw [step t n h0 (by omega)]
    simp only [reachIn, Bool.not_eq_true'] at hr
    rw [hr]
    rfl
  | succ k ih =>
    intro t n h0 h1 hr hn
    obtain ⟨n, rfl⟩ : ∃ k, n = k + 1 := ⟨n - 1, by omega⟩
    rw [step t n h0 (by omega)]
    simp only [reachIn, Bool.or_eq_true, Bool.not_eq_true'] at hr
    simp only [whereIn]
    cases he : (rowR z t).isEmpty with
    | false => rfl
    | true =>
      rw [he] at hr
      rw [cond_true, cond_true]
      refine ih (t + 1) n (by omega) (by omega) ?_ (by omega)
      rcases hr with h | h
      · cases h
      · exact h

theorem main_rmom (l2 : List (Int)) (v0_0 v0_1 v0_2 v0_3 v0_4 v0_5 v0_6 v0_7 v0_8 v0_9 v7 : Int) (hg : (zone_Check (⟨v0_0, v0_1, ⟨v0_2, v0_3, v0_4, v0_5⟩, ⟨v0_6, v0_7, v0_8, v0_9⟩⟩ : Zone) == 0 && (toldOk v7 && (sameI l2 (rowR (⟨v0_0, v0_1, ⟨v0_2, v0_3, v0_4, v0_5⟩, ⟨v0_6, v0_7, v0_8, v0_9⟩⟩ : Zone) v7) && reachIn (rowR (⟨v0_0, v0_1, ⟨v0_2, v0_3, v0_4, v0_5⟩, ⟨v0_6, v0_7, v0_8, v0_9⟩⟩ : Zone)) 200 v7))) = true) : ∃ N d, I_rmom N d N (S_rmom l2 v0_0 v0_1 v0_2 v0_3 v0_4 v0_5 v0_6 v0_7 v0_8 v0_9 v7) = some (altK Prod.mk [] (.exit 0) (X_rmom_0 (rowR (⟨v0_0, v0_1, ⟨v0_2, v0_3, v0_4, v0_5⟩, ⟨v0_6, v0_7, v0_8, v0_9⟩⟩ : Zone) (whereIn (rowR (⟨v0_0, v0_1, ⟨v0_2, v0_3, v0_4, v0_5⟩, ⟨v0_6, v0_7, v0_8, v0_9⟩⟩ : Zone)) 200 v7)) v0_0 v0_1 v0_2 v0_3 v0_4 v0_5 v0_6 v0_7 v0_8 v0_9)) := by
  simp only [Bool.and_eq_true, beq_iff_eq, sameI, decide_eq_true_eq] at hg
  obtain ⟨h1, h2, rfl, h3⟩ := hg
  simp only [toldOk, Bool.and_eq_true, decide_eq_true_eq] at h2
  exact ⟨300, 3, go_rmom (rowR (⟨v0_0, v0_1, ⟨v0_2, v0_3, v0_4, v0_5⟩, ⟨v0_6, v0_7, v0_8, v0_9⟩⟩ : Zone) v7) v0_0 v0_1 v0_2 v0_3 v0_4 v0_5 v0_6 v0_7 v0_8 v0_9 v7 300 0 _ rfl h1 200 v7 300 (by omega) (by omega) h3 (by omega)⟩

theorem run_newelref14_Moment (a0 : Zone) (a1 : Int) (a2 : Int) (hg : momRok a0 a1 a2 = true) : ∃ F d, run k40 F d 12 Tryd.f12 s_newelref14_Moment (a0, a1, a2, ()) = some (r_newelref14_Moment.enc (momR a0 a1 a2)) := by
  refine ⟨200, 6, ?_⟩
  rw [tree_newelref14_Moment]
  simp only [momRok, Bool.and_eq_true, beq_iff_eq] at hg
  obtain ⟨hz, hm⟩ := hg
  obtain ⟨z1, z2, z3, _⟩ := zone_facts hz
  have ht := told_ok hm
  obtain ⟨hr, _, _⟩ := same_R hz ht
  have hf := where_found hr
  have ht' := ht
  simp only [toldOk, Bool.and_eq_true, decide_eq_true_eq] at ht'
  have hm' : 0 ≤ a2 ∧ a2 < 1440 := by
    simp only [momOk, Bool.and_eq_true, decide_eq_true_eq] at hm
    exact hm.2
  rw [wrI (n := a1 * 1440) (by omega), wrI (n := a1 * 1440 + a2) (by omega)]
  obtain ⟨d1, d2⟩ := told_div (t := a1 * 1440 + a2) (by omega) (by omega)
  rw [d1, d2]
  have hl := len_pos (rowR a0 (whereIn (rowR a0) 200 (a1 * 1440 + a2)))
  rw [show instRok a0 ((a1 * 1440 + a2) / 1440) ((a1 * 1440 + a2) % 1440) = true by simp only [instRok, z3, Bool.true_and, Bool.and_eq_true, decide_eq_true_eq]; omega]
  rw [show instR a0 ((a1 * 1440 + a2) / 1440) ((a1 * 1440 + a2) % 1440) = rowR a0 (a1 * 1440 + a2) from rfl, hz, ht, hr, hl.2.1, hl.2.2.1, hf]
  simp only [sameI, decide_true, beq_self_eq_true, Bool.and_self, Bool.not_false, cond_true]
  rw [show Nat.beq (rowR a0 (a1 * 1440 + a2)).length (rowR a0 (a1 * 1440 + a2)).length = true by simp]
  rfl

theorem run_greg_Weekday (a0 : Int) (hg : midW a0 = true) : ∃ F d, run k42 F d 44 Tryd.f44 s_greg_Weekday (a0, ()) = some (r_greg_Weekday.enc (rWeekday a0)) := by
  refine ⟨200, 6, ?_⟩
  rw [tree_greg_Weekday]
  have h' := hg
  simp only [midW, mid, Bool.and_eq_true, decide_eq_true_eq] at h'
  rw [show divOk a0 7 = true by simp only [divOk, big, byB, Bool.and_eq_true, decide_eq_true_eq]; omega]
  rfl

theorem run_window_of (a0 : Window) (hg : kind1 a0 = true) : ∃ F d, run k41 F d 26 Tryd.f26 s_window_of (a0, ()) = some (r_window_of.enc (noneW a0)) := by
  refine ⟨200, 6, ?_⟩
  rw [tree_window_of]
  rw [show (a0.kind == 1) = true from hg]
  rfl

theorem run_window_weekly_open (a0 : Unit) (a1 : Config) (a2 : Window) (a3 : Int) (hg : weekOk a0 a1 a2 a3 = true) : ∃ F d, run k44 F d 103 Tryd.f103 s_window_weekly_open (a0, a1, a2, a3, ()) = some (r_window_weekly_open.enc (weekOpen a0 a1 a2 a3)) := by
  refine ⟨200, 6, ?_⟩
  rw [tree_window_weekly_open]
  have h' : midW a3 = true := hg
  have h0 : decide (0 ≤ rWeekday a3) = true := by unfold rWeekday; simp; omega
  have b1 : Nat.beq a1.stops.length a1.stops.length = true := by simp
  have b2 : Nat.ble (0 + a1.stops.length) a1.stops.length = true := by simp
  have b3 : Nat.beq a1.windows.length a1.windows.length = true := by simp
  have b4 : Nat.ble (0 + a1.windows.length) a1.windows.length = true := by simp
  rw [h', h0, b1, b2, b3, b4]
  rfl

theorem run_window_Span (a0 : Config) (a1 : Window) (a2 : Int) (hg : plainOk a0 a1 a2 = true) : ∃ F d, run k45 F d 14 Tryd.f14 s_window_Span (a0, a1, a2, ()) = some (r_window_Span.enc (plainSpan a0 a1 a2)) := by
  obtain ⟨rfl, rfl, rfl⟩ := plain_eq hg
  exact ⟨200, 12, by kernel_rfl⟩
end Go.Proofs.YtgfinnhojeghhaaDoor.Px.PxW
