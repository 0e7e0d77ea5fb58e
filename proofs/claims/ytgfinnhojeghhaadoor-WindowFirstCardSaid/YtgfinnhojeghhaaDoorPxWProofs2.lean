/- Zones. -/
import Derived.Test.YtgfinnhojeghhaaDoorPxWProofs
import Derived.Test.YtgfinnhojeghhaaDoorPxSpecGreg
set_option linter.unusedVariables false
set_option linter.unusedSimpArgs false
namespace Go.Proofs.YtgfinnhojeghhaaDoor.Px.PxW
open Go Go.Proofs
set_option linter.unusedSimpArgs false
set_option linter.unusedVariables false

theorem out_in (x a b : Int) : (bif decide (x < a) then true else decide (x > b)) = !inB x a b := by
  rw [Bool.eq_iff_iff]; simp [inB]; try omega
theorem out_in' (x a b : Int) : (bif decide (x > b) then true else decide (x < a)) = !inB x a b := by
  rw [Bool.eq_iff_iff]; simp [inB]; try omega
theorem wrap_sub {x y a b : Int} (hx : inB x a b = true) (hy : inB y a b = true) (h : -10000 ≤ a) (h' : b ≤ 10000) : IntKind.wrap IntKind.i64 (y - x) = y - x := by
  rw [inB_iff] at hx hy
  exact IntWalk.i64_in _ (by omega)
theorem two0 (x y : Int) : List.getD [x, y] 0 0 = x := rfl
theorem two1 (x y : Int) : List.getD [x, y] 1 0 = y := rfl
theorem turn_eq0 (x : Turn) : (Turn.month x == 0 && (Turn.week x == 0 && (Turn.weekday x == 0 && (Turn.minute x == 0 && true)))) = decide (x = turn0) := by
  cases x; rw [Bool.eq_iff_iff]; simp [turn0]
theorem turn_eq (x y : Turn) : (Turn.month x == Turn.month y && (Turn.week x == Turn.week y && (Turn.weekday x == Turn.weekday y && (Turn.minute x == Turn.minute y && true)))) = decide (x = y) := by
  cases x; cases y; rw [Bool.eq_iff_iff]; simp
theorem max_min {x y : Int} (hx : inB x 1 12 = true) (hy : inB y 1 12 = true) : inB (IntKind.wrap IntKind.i64 ((bif decide (y > x) then y else x) - bif decide (y < x) then y else x)) 2 10 = inB (apart x y) 2 10 := by
  rw [inB_iff] at hx hy
  unfold apart
  by_cases h : x ≤ y
  · by_cases h2 : y ≤ x
    · have : x = y := by omega
      subst this
      simp [IntKind.wrap, IntKind.bits, IntKind.signed, inB]
    · simp only [show y > x by omega, show ¬ y < x by omega, decide_true, decide_false, cond_true, cond_false, if_pos h]
      rw [IntWalk.i64_in _ (by omega)]
  · simp only [show ¬ y > x by omega, show y < x by omega, decide_true, decide_false, cond_true, cond_false, if_neg h]
    rw [IntWalk.i64_in _ (by omega)]

theorem run_zone_Check (a0 : Zone) : ∃ F d, run k11 F d 19 Tryd.f19 s_zone_Check (a0, ()) = some (r_zone_Check.enc (zone_Check a0)) := by
  refine ⟨200, 6, ?_⟩
  rw [tree_zone_Check]
  simp only [r_zone_Check, Res.int, zone_Check, turnsB, turnB, turn_eq0]
  cases h1 : inB a0.base (-720) 840
  · rfl
  cases h2 : inB a0.shift 0 120
  · rfl
  have h2' := inB_iff.1 h2
  by_cases h3 : a0.shift = 0
  · simp only [h3, show decide ((0 : Int) > 0) = false from rfl, show ((0 : Int) == 0) = true from rfl]
    cases decide (a0.on = turn0) <;> cases decide (a0.off = turn0) <;> rfl
  · have e1 : decide (a0.shift > 0) = true := by simp; omega
    have e2 : (a0.shift == 0) = false := by simp; omega
    rw [e1, e2]
    cases g1 : inB a0.on.month 1 12
    · rfl
    cases g2 : inB a0.on.week 1 5
    · rfl
    cases g3 : inB a0.on.weekday 0 6
    · rfl
    cases g4 : inB a0.on.minute 0 1439
    · rfl
    cases g5 : inB a0.off.month 1 12
    · rfl
    cases g6 : inB a0.off.week 1 5
    · rfl
    cases g7 : inB a0.off.weekday 0 6
    · rfl
    cases g8 : inB a0.off.minute 0 1439
    · rfl
    rw [max_min g1 g5]
    cases inB (apart a0.on.month a0.off.month) 2 10 <;> rfl
end Go.Proofs.YtgfinnhojeghhaaDoor.Px.PxW


namespace Go.Proofs.YtgfinnhojeghhaaDoor.Px.PxW
open Go Go.Proofs
set_option linter.unusedSimpArgs false
set_option linter.unusedVariables false

theorem run_greg_Of (a0 : Int) : ∃ F d, run k9 F d 47 Tryd.f47 s_greg_Of (a0, ()) = some (r_greg_Of.enc (ofG a0)) := by
  refine ⟨200, 6, ?_⟩
  rw [tree_greg_Of]
  unfold ofG
  rw [show (bif decide (a0 < 1) then true else decide (a0 > 3652059)) = (decide (a0 < 1) || decide (a0 > 3652059)) by cases decide (a0 < 1) <;> rfl]
  cases hb : (decide (a0 < 1) || decide (a0 > 3652059)) with
  | true => rfl
  | false =>
    simp only [Bool.or_eq_false_iff, decide_eq_false_iff_not] at hb
    obtain ⟨y1, y2, l1, l2, _⟩ := of_spec (n := a0) (by omega) (by omega)
    have w : ∀ s : Int, (0 ≤ s ∧ s ≤ 1000) → IntKind.wrap IntKind.i64 (IntKind.wrap IntKind.i64 (lfG a0 - s) + 1) = lfG a0 - s + 1 := fun s hs => by
      rw [wrI (n := lfG a0 - s) (by omega), wrI (by omega)]
    have hs : ∀ k : Nat, k ≤ 12 → 0 ≤ sumG (yrG a0) k ∧ sumG (yrG a0) k ≤ 1000 := fun k hk => by have := sumG_range (yrG a0) k; omega
    simp only [w 0 (by omega), w _ (hs 1 (by omega)), w _ (hs 2 (by omega)), w _ (hs 3 (by omega)), w _ (hs 4 (by omega)), w _ (hs 5 (by omega)), w _ (hs 6 (by omega)), w _ (hs 7 (by omega)), w _ (hs 8 (by omega)), w _ (hs 9 (by omega)), w _ (hs 10 (by omega)), w _ (hs 11 (by omega)), cond_false]
    unfold monG
    simp only [monGo]
    cases h1 : decide (lfG a0 < sumG (yrG a0) 1) with
    | true => simp only [h1, cond_true, cond_false, cond_true]; rfl
    | false =>
      cases h2 : decide (lfG a0 < sumG (yrG a0) 2) with
      | true => simp only [h2, cond_true, cond_false, h1]; rfl
      | false =>
        cases h3 : decide (lfG a0 < sumG (yrG a0) 3) with
        | true => simp only [h3, cond_true, cond_false, h1, h2]; rfl
        | false =>
          cases h4 : decide (lfG a0 < sumG (yrG a0) 4) with
          | true => simp only [h4, cond_true, cond_false, h1, h2, h3]; rfl
          | false =>
            cases h5 : decide (lfG a0 < sumG (yrG a0) 5) with
            | true => simp only [h5, cond_true, cond_false, h1, h2, h3, h4]; rfl
            | false =>
              cases h6 : decide (lfG a0 < sumG (yrG a0) 6) with
              | true => simp only [h6, cond_true, cond_false, h1, h2, h3, h4, h5]; rfl
              | false =>
                cases h7 : decide (lfG a0 < sumG (yrG a0) 7) with
                | true => simp only [h7, cond_true, cond_false, h1, h2, h3, h4, h5, h6]; rfl
                | false =>
                  cases h8 : decide (lfG a0 < sumG (yrG a0) 8) with
                  | true => simp only [h8, cond_true, cond_false, h1, h2, h3, h4, h5, h6, h7]; rfl
                  | false =>
                    cases h9 : decide (lfG a0 < sumG (yrG a0) 9) with
                    | true => simp only [h9, cond_true, cond_false, h1, h2, h3, h4, h5, h6, h7, h8]; rfl
                    | false =>
                      cases h10 : decide (lfG a0 < sumG (yrG a0) 10) with
                      | true => simp only [h10, cond_true, cond_false, h1, h2, h3, h4, h5, h6, h7, h8, h9]; rfl
                      | false =>
                        cases h11 : decide (lfG a0 < sumG (yrG a0) 11) with
                        | true => simp only [h11, cond_true, cond_false, h1, h2, h3, h4, h5, h6, h7, h8, h9, h10]; rfl
                        | false =>
                          simp only [h1, h2, h3, h4, h5, h6, h7, h8, h9, h10, h11, cond_true, cond_false]; rfl

theorem nth_ok {y m : Int} (h : daysG y m ≠ 0) : dayG ⟨y, m, 1⟩ = (firstG y m, 0) ∧ 1 ≤ firstG y m ∧ firstG y m ≤ 3800000 ∧ 1 ≤ daysG y m ∧ daysG y m ≤ 31 := by
  obtain ⟨r1, r2, r3⟩ := daysG_range y m
  obtain ⟨y1, y2, m1, m2⟩ := r3 h
  have hbf := beforeG_range (y := y) y1 (by omega)
  have hs := sumG_range y (m - 1).toNat
  have e1 : decide ((1 : Int) < 1) = false := rfl
  have e2 : decide ((1 : Int) > daysG y m) = false := by simp; omega
  refine ⟨?_, by unfold firstG; omega, by unfold firstG; omega, by omega, r2⟩
  unfold dayG
  simp only [e1, e2, Bool.or_self, cond_false, firstG]

theorem from_range {y m w : Int} (h : daysG y m ≠ 0) (hw0 : 0 ≤ w) (hw1 : w ≤ 6) : firstG y m ≤ fromG y m w ∧ fromG y m w ≤ firstG y m + 6 := by
  have := next_rest (a := firstG y m) (b := 7) (r := w) (by omega) hw0 (by omega)
  unfold fromG
  omega

theorem run_greg_Nth (a0 : Int) (a1 : Int) (a2 : Int) (a3 : Int) : ∃ F d, run k10 F d 62 Tryd.f62 s_greg_Nth (a0, a1, a2, a3, ()) = some (r_greg_Nth.enc (nthG a0 a1 a2 a3)) := by
  refine ⟨200, 6, ?_⟩
  rw [tree_greg_Nth]
  unfold nthG
  cases hd : daysG a0 a1 == 0 with
  | true => rfl
  | false =>
    have hd0 : daysG a0 a1 ≠ 0 := by simpa using hd
    obtain ⟨f0, f1, f2, f3, f4⟩ := nth_ok hd0
    rw [cond_false, cond_false]
    rw [show (bif bif decide (a2 < 0) then true else decide (a2 > 6) then true else bif a3 != -1 then bif decide (a3 < 1) then true else decide (a3 > 5) else false) = nthBad a2 a3 by
      unfold nthBad
      cases decide (a2 < 0) <;> cases decide (a2 > 6) <;> cases (a3 != -1) <;> cases decide (a3 < 1) <;> rfl]
    cases hb : nthBad a2 a3 with
    | true => rfl
    | false =>
      simp only [nthBad, Bool.or_eq_false_iff, Bool.and_eq_false_iff, decide_eq_false_iff_not, bne_eq_false_iff_eq] at hb
      obtain ⟨⟨w0, w1⟩, hk⟩ := hb
      have hk' : a3 = -1 ∨ (1 ≤ a3 ∧ a3 ≤ 5) := by
        rcases hk with h | ⟨h1, h2⟩
        · exact .inl h
        · exact .inr (by omega)
      obtain ⟨g1, g2⟩ := from_range hd0 (w := a2) (by omega) (by omega)
      have ho : nextOk (firstG a0 a1) 7 a2 = true := by simp only [nextOk, divOk, byB, big, Bool.and_eq_true, decide_eq_true_eq]; omega
      have hfr : firstG a0 a1 + (a2 - firstG a0 a1 % 7) % 7 = fromG a0 a1 a2 := rfl
      simp only [f0, ho, hfr, Bool.and_self, Bool.true_and, cond_true, cond_false]
      cases h1 : a3 == -1 with
      | true =>
        rw [cond_true, cond_true]
        rw [wrI (n := firstG a0 a1 + daysG a0 a1) (by omega), wrI (n := firstG a0 a1 + daysG a0 a1 - 1) (by omega), wrI (n := firstG a0 a1 + daysG a0 a1 - 1 - fromG a0 a1 a2) (by omega)]
        have hq : Int.tdiv (firstG a0 a1 + daysG a0 a1 - 1 - fromG a0 a1 a2) 7 = (firstG a0 a1 + daysG a0 a1 - 1 - fromG a0 a1 a2) / 7 := by
          apply Int.tdiv_eq_ediv_of_nonneg
          have := daysG_least hd0
          omega
        rw [hq, wrI (n := (firstG a0 a1 + daysG a0 a1 - 1 - fromG a0 a1 a2) / 7) (by omega), wrI (n := (firstG a0 a1 + daysG a0 a1 - 1 - fromG a0 a1 a2) / 7 * 7) (by omega), wrI (by omega)]
        rfl
      | false =>
        have hk2 : 1 ≤ a3 ∧ a3 ≤ 5 := by
          rcases hk' with h | h
          · rw [h] at h1; cases h1
          · exact h
        rw [cond_false, cond_false]
        rw [wrI (n := a3 - 1) (by omega), wrI (n := 7 * (a3 - 1)) (by omega), wrI (n := fromG a0 a1 a2 + 7 * (a3 - 1)) (by omega), wrI (n := firstG a0 a1 + daysG a0 a1) (by omega)]
        cases decide (fromG a0 a1 a2 + 7 * (a3 - 1) ≥ firstG a0 a1 + daysG a0 a1) <;> rfl

theorem nth_range (y m w k : Int) : 0 ≤ (nthG y m w k).1 ∧ (nthG y m w k).1 ≤ 4000000 := by
  unfold nthG
  cases hd : daysG y m == 0 with
  | true => simp
  | false =>
    have hd0 : daysG y m ≠ 0 := by simpa using hd
    obtain ⟨f0, f1, f2, f3, f4⟩ := nth_ok hd0
    rw [cond_false]
    cases hb : nthBad w k with
    | true => simp
    | false =>
      simp only [nthBad, Bool.or_eq_false_iff, Bool.and_eq_false_iff, decide_eq_false_iff_not, bne_eq_false_iff_eq] at hb
      obtain ⟨⟨w0, w1⟩, hk⟩ := hb
      obtain ⟨g1, g2⟩ := from_range hd0 (w := w) (by omega) (by omega)
      rw [cond_false]
      cases h1 : k == -1 with
      | true =>
        have := daysG_least hd0
        simp only [cond_true]
        omega
      | false =>
        have hk2 : 1 ≤ k ∧ k ≤ 5 := by
          rcases hk with h | ⟨h1', h2⟩
          · rw [h] at h1; cases h1
          · omega
        simp only [cond_false]
        cases decide (fromG y m w + 7 * (k - 1) ≥ firstG y m + daysG y m)
        · simp only [cond_false]; omega
        · simp

theorem run_zone_when (a0 : Zone) (a1 : Turn) (a2 : Int) (hg : whenOk a0 a1 a2 = true) : ∃ F d, run k12 F d 48 Tryd.f48 s_zone_when (a0, a1, a2, ()) = some (r_zone_when.enc (whenG a0 a1 a2)) := by
  refine ⟨200, 6, ?_⟩
  rw [tree_zone_when]
  simp only [whenOk, lit, Bool.and_eq_true, decide_eq_true_eq] at hg
  simp only [r_zone_when, Res.int, whenG]
  have w : ∀ k, IntKind.wrap IntKind.i64 (IntKind.wrap IntKind.i64 (IntKind.wrap IntKind.i64 ((nthG a2 a1.month a1.weekday k).1 * 1440) + a1.minute) - a0.base) = (nthG a2 a1.month a1.weekday k).1 * 1440 + a1.minute - a0.base := fun k => by
    have := nth_range a2 a1.month a1.weekday k
    rw [wrI (n := (nthG a2 a1.month a1.weekday k).1 * 1440) (by omega), wrI (n := (nthG a2 a1.month a1.weekday k).1 * 1440 + a1.minute) (by omega), wrI (by omega)]
  rw [w, w]
  cases a1.week == 5 <;> rfl
end Go.Proofs.YtgfinnhojeghhaaDoor.Px.PxW


namespace Go.Proofs.YtgfinnhojeghhaaDoor.Px.PxW
open Go Go.Proofs
set_option linter.unusedSimpArgs false
set_option linter.unusedVariables false

theorem sum_bif (t a b : Int) : (bif bif bif bif decide (a < b) then decide (a ≤ t) else false then decide (t < b) else false then true else bif decide (b < a) then bif decide (t < b) then true else decide (a ≤ t) else false then true else false) = sumB t a b := by
  unfold sumB
  cases decide (a < b) <;> cases decide (a ≤ t) <;> cases decide (t < b) <;> cases decide (b < a) <;> rfl
theorem sum_bif' (t a b : Int) : (bif bif bif decide (a < b) then decide (a ≤ t) else false then decide (t < b) else false then true else bif decide (b < a) then bif decide (t < b) then true else decide (a ≤ t) else false) = sumB t a b := by
  unfold sumB
  cases decide (a < b) <;> cases decide (a ≤ t) <;> cases decide (t < b) <;> cases decide (b < a) <;> rfl

theorem run_zone_shift (a0 : Zone) (a1 : Int) (hg : shiftOk a0 a1 = true) : ∃ F d, run k13 F d 30 Tryd.f30 s_zone_shift (a0, a1, ()) = some (r_zone_shift.enc (shiftG a0 a1)) := by
  refine ⟨200, 6, ?_⟩
  rw [tree_zone_shift]
  simp only [shiftOk, turnsOk, Bool.and_eq_true] at hg
  obtain ⟨⟨b1, b2, b3⟩, b4⟩ := hg
  have b1' := b1
  simp only [lit, mid, Bool.and_eq_true, decide_eq_true_eq] at b1' b4
  simp only [r_zone_shift, Res.int, shiftG]
  cases h0 : a0.shift == 0 with
  | true => rfl
  | false =>
    have w : IntKind.wrap IntKind.i64 (a1 + a0.base) = a1 + a0.base := wrI (by omega)
    have ho : divOk (a1 + a0.base) 1440 = true := by simp only [divOk, byB, big, Bool.and_eq_true, decide_eq_true_eq]; omega
    have k1 : ∀ y, whenOk a0 a0.on y = true := fun y => by simp only [whenOk, b1, b2, Bool.and_self]
    have k2 : ∀ y, whenOk a0 a0.off y = true := fun y => by simp only [whenOk, b1, b3, Bool.and_self]
    have hy : (ofG ((a1 + a0.base) / 1440)).1.year = yearOf a0 a1 := rfl
    simp only [w, ho, k1, k2, hy, Bool.and_self, Bool.true_and, cond_true, cond_false, sum_bif']
    cases sumB a1 (whenG a0 a0.on (yearOf a0 a1)) (whenG a0 a0.off (yearOf a0 a1)) <;> rfl

theorem zone_parts {z : Zone} (h : zone_Check z = 0) : (-720 ≤ z.base ∧ z.base ≤ 840) ∧ (0 ≤ z.shift ∧ z.shift ≤ 120) ∧ turnsOk z = true ∧ (z.shift ≠ 0 → turnsB z = true) := by
  unfold zone_Check at h
  cases h1 : inB z.base (-720) 840 with
  | false => rw [h1] at h; simp at h
  | true =>
    rw [h1, cond_true] at h
    cases h2 : inB z.shift 0 120 with
    | false => rw [h2] at h; simp at h
    | true =>
      rw [h2, cond_true] at h
      rw [inB_iff] at h1 h2
      by_cases h3 : z.shift = 0
      · rw [h3] at h
        simp only [beq_self_eq_true, cond_true] at h
        cases h4 : (decide (z.on = turn0) && decide (z.off = turn0)) with
        | false => rw [h4] at h; simp at h
        | true =>
          simp only [Bool.and_eq_true, decide_eq_true_eq] at h4
          refine ⟨h1, h2, ?_, fun hne => absurd h3 hne⟩
          simp only [turnsOk, lit, h4.1, h4.2, turn0, Bool.and_eq_true, decide_eq_true_eq]
          omega
      · have e : (z.shift == 0) = false := by rw [beq_eq_false_iff_ne]; exact h3
        rw [e, cond_false] at h
        cases h4 : turnsB z with
        | false => rw [h4] at h; simp at h
        | true =>
          refine ⟨h1, h2, ?_, fun _ => rfl⟩
          simp only [turnsB, turnB, Bool.and_eq_true, inB_iff] at h4
          simp only [turnsOk, lit, Bool.and_eq_true, decide_eq_true_eq]
          omega

theorem run_zone_Instants (a0 : Zone) (a1 : Int) (a2 : Int) : ∃ F d, runO k14 F d 18 Tryd.f18 s_zone_Instants r_zone_Instants (a0, a1, a2, ()) = some (instG a0 a1 a2) := by
  refine ⟨200, 6, ?_⟩
  rw [tree_zone_Instants]
  unfold instG
  cases hz : zone_Check a0 != 0 with
  | true => rfl
  | false =>
    have hz0 : zone_Check a0 = 0 := by simpa using hz
    obtain ⟨p1, p2, p3, _⟩ := zone_parts hz0
    rw [cond_false, cond_false]
    rw [show (bif !inB a1 401 3651998 then true else !inB a2 0 1439) = (!inB a1 401 3651998 || !inB a2 0 1439) by cases inB a1 401 3651998 <;> rfl]
    cases hb : (!inB a1 401 3651998 || !inB a2 0 1439) with
    | true => rfl
    | false =>
      simp only [Bool.or_eq_false_iff, Bool.not_eq_false'] at hb
      rw [inB_iff, inB_iff] at hb
      rw [cond_false, cond_false]
      have w1 : IntKind.wrap IntKind.i64 (a1 * 1440) = a1 * 1440 := wrI (by omega)
      have w2 : IntKind.wrap IntKind.i64 (a1 * 1440 + a2) = a1 * 1440 + a2 := wrI (by omega)
      have w3 : IntKind.wrap IntKind.i64 (a1 * 1440 + a2 - a0.base) = a1 * 1440 + a2 - a0.base := wrI (by omega)
      have w4 : IntKind.wrap IntKind.i64 (a1 * 1440 + a2 - a0.base - a0.shift) = a1 * 1440 + a2 - a0.base - a0.shift := wrI (by omega)
      have o1 : shiftOk a0 (a1 * 1440 + a2 - a0.base) = true := by simp only [shiftOk, p3, mid, Bool.true_and, Bool.and_eq_true, decide_eq_true_eq]; omega
      have o2 : shiftOk a0 (a1 * 1440 + a2 - a0.base - a0.shift) = true := by simp only [shiftOk, p3, mid, Bool.true_and, Bool.and_eq_true, decide_eq_true_eq]; omega
      simp only [w1, w2, w3, w4, o1, o2, Bool.and_self, Bool.true_and, Bool.true_or, cond_true]
      rw [show (bif decide (a0.shift > 0) then decide (shiftG a0 (a1 * 1440 + a2 - a0.base - a0.shift) > 0) else false) = (decide (a0.shift > 0) && decide (shiftG a0 (a1 * 1440 + a2 - a0.base - a0.shift) > 0)) by cases decide (a0.shift > 0) <;> rfl]
      cases (decide (a0.shift > 0) && decide (shiftG a0 (a1 * 1440 + a2 - a0.base - a0.shift) > 0)) <;> cases shiftG a0 (a1 * 1440 + a2 - a0.base) == 0 <;> rfl
end Go.Proofs.YtgfinnhojeghhaaDoor.Px.PxW
