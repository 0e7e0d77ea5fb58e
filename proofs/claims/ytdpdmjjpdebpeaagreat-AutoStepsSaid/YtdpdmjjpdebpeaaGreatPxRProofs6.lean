/- The document's round. -/
import Derived.Test.YtdpdmjjpdebpeaaGreatPxRProofs5
import Derived.Test.YtdpdmjjpdebpeaaGreatPxSpecCycle
set_option linter.unusedVariables false
set_option linter.unusedSimpArgs false
namespace Go.Proofs.YtdpdmjjpdebpeaaGreat.Px.PxR
open Go Go.Proofs
set_option linter.unusedSimpArgs false
set_option linter.unusedVariables false

theorem run_newelref22_Begin (a0 : Plan) (hg : placeROk a0 = true) : ∃ F d, run k66 F d 78 Tryz.f78 s_newelref22_Begin (a0, ()) = some (r_newelref22_Begin.enc (beginR a0)) := by
  refine ⟨200, 6, ?_⟩
  rw [tree_newelref22_Begin]
  have hg' := hg
  simp only [placeROk, Bool.and_eq_true, decide_eq_true_eq] at hg'
  obtain ⟨hz, c1, c2, c3, c4⟩ := hg'
  have hz' := hz
  rw [sizeP_iff] at hz'
  obtain ⟨_, p1, p2⟩ := place_wrap hz'.1 hz'.2 c1 c3 c4
  have hso : stopROk a0 (placeR a0) = true := by
    rw [stopROk, hz, Bool.true_and, Bool.and_eq_true, decide_eq_true_eq, decide_eq_true_eq]
    exact ⟨p1, by unfold placeR; omega⟩
  simp only [hg, hso, beqn, ble0, Bool.and_self, Bool.and_true, Bool.true_and, cond_true]
  rfl

theorem run_newelref22_told (a0 : Plan) (a1 : Going) (hg : toldOk a0 a1 = true) : ∃ F d, run k67 F d 97 Tryz.f97 s_newelref22_told (a0, a1, ()) = some (r_newelref22_told.enc (toldR a0 a1)) := by
  refine ⟨200, 6, ?_⟩
  rw [tree_newelref22_told]
  have hso : stopROk a0 a1.next = true := hg
  simp only [hso, beqn, ble0, Bool.and_self, Bool.and_true, Bool.true_and, cond_true]
  simp only [r_newelref22_told, Res.agg, toldR, toldCmd, cGoing_enc]
  rw [show (a1.c.phase != 0) = !(a1.c.phase == 0) from rfl]
  cases hp : (a1.c.phase == 0)
  · rfl
  · simp only [Bool.not_true, cond_false, cond_true]
    by_cases h1 : a1.c.floor = stopR a0 a1.next
    · have e1 : (a1.c.floor == stopR a0 a1.next) = true := by simpa using h1
      have e2 : decide (a1.c.floor < stopR a0 a1.next) = false := by simp; omega
      have e3 : decide (a1.c.floor > stopR a0 a1.next) = false := by simp; omega
      simp only [e1, e2, e3, cond_true, cond_false]
    · have e1 : (a1.c.floor == stopR a0 a1.next) = false := by simpa using h1
      by_cases h2 : a1.c.floor < stopR a0 a1.next
      · have e2 : decide (a1.c.floor < stopR a0 a1.next) = true := by simpa using h2
        have e3 : decide (a1.c.floor > stopR a0 a1.next) = false := by simp; omega
        simp only [e1, e2, e3, cond_true, cond_false]
      · have e2 : decide (a1.c.floor < stopR a0 a1.next) = false := by simpa using h2
        have e3 : decide (a1.c.floor > stopR a0 a1.next) = true := by simp; omega
        simp only [e1, e2, e3, cond_true, cond_false]

theorem run_newelref22_Step (a0 : Gear) (a1 : Plan) (a2 : Going) (hg : stepROk a0 a1 a2 = true) : ∃ F d, run k68 F d 79 Tryz.f79 s_newelref22_Step (a0, a1, a2, ()) = some (r_newelref22_Step.enc (stepR a0 a1 a2)) := by
  refine ⟨200, 6, ?_⟩
  rw [tree_newelref22_Step]
  simp only [stepROk, Bool.and_eq_true, decide_eq_true_eq] at hg
  obtain ⟨hz, n0, n1, hok⟩ := hg
  have w := IntWalk.i64_in (a2.next + 1) (by omega)
  have t1 : ∀ c cmd, toldOk a1 ⟨c, a2.next + 1, cmd⟩ = true := fun c cmd => by
    simp only [toldOk, hz, Bool.true_and, Bool.and_eq_true, decide_eq_true_eq]; omega
  have t2 : ∀ c cmd, toldOk a1 ⟨c, a2.next, cmd⟩ = true := fun c cmd => by
    simp only [toldOk, hz, Bool.true_and, Bool.and_eq_true, decide_eq_true_eq]; omega
  simp only [hok, w, t1, t2, beqn, ble0, Bool.and_self, Bool.and_true, Bool.true_and, cond_true]
  have hc : (stepC a0 a2.c ⟨a2.cmd, false, false⟩).c = tickC a0 (begunC a0 a2.c a2.cmd) false := rfl
  simp only [r_newelref22_Step, Res.agg, stepR, stepGo, toldR, hc, cGoing_enc]
  cases (a2.c.phase == 3)
  · rfl
  · cases ((tickC a0 (begunC a0 a2.c a2.cmd) false).phase == 0) <;> rfl

theorem planOk_facts {g : Gear} {p : Plan} (h : planOk g p = true) : planB g p = true ∧ smallP p = true ∧ gearB g = true ∧ 2 ≤ p.stops.length ∧ p.stops.length ≤ 70 ∧ (1 ≤ p.cars ∧ p.cars ≤ 8 ∧ 0 ≤ p.car ∧ p.car < p.cars) ∧ chkR g.floors none p.stops = true ∧ sizeP p = true ∧ placeROk p = true ∧ 0 ≤ placeP p p.car ∧ placeP p p.car < ((rowP p).length : Int) ∧ (rowP p).length = 2 * p.stops.length - 2 := by
  simp only [planOk, Bool.and_eq_true] at h
  obtain ⟨hp, hs⟩ := h
  obtain ⟨hG, h2, h70, hL, hpl, p1, p2, hall, hlo⟩ := plan_facts hs hp
  have hp' := hp
  rw [planB_iff] at hp'
  obtain ⟨_, q1, q2, q3, q4, hr, _⟩ := hp'
  have hz : sizeP p = true := sizeP_iff.2 ⟨h70, h2⟩
  refine ⟨hp, hs, hG, h2, h70, ⟨q1, q2, q3, q4⟩, hr, hz, ?_, p1, p2, hL⟩
  simp only [placeROk, hz, Bool.true_and, Bool.and_eq_true, decide_eq_true_eq]
  omega

theorem go_rlen (l0 : List (Int)) (v1_0 v1_1 v1_2 v1_3 v1_4 v1_5 v1_6 v1_7 v1_8 v1_9 v2_1 v2_2 v5 v6 : Int) (F d : Nat) (hpo : planOk (⟨v1_0, ⟨v1_1, v1_2, v1_3, v1_4, v1_5, v1_6, v1_7⟩, v1_8, v1_9⟩ : Gear) (⟨l0, v2_1, v2_2⟩ : Plan) = true) : ∀ (m i n : Nat), i + m = (rowP (⟨l0, v2_1, v2_2⟩ : Plan)).length → m < n →
    I_rlen F (d + 3) n (S_rlen l0 v1_0 v1_1 v1_2 v1_3 v1_4 v1_5 v1_6 v1_7 v1_8 v1_9 v2_1 v2_2 (legT0 (⟨v1_0, ⟨v1_1, v1_2, v1_3, v1_4, v1_5, v1_6, v1_7⟩, v1_8, v1_9⟩ : Gear) (rowP (⟨l0, v2_1, v2_2⟩ : Plan)) 0 i) ((i : Nat) : Int)) = some (.exit 0, (X_rlen_0 l0 v1_0 v1_1 v1_2 v1_3 v1_4 v1_5 v1_6 v1_7 v1_8 v1_9 v2_1 v2_2 (lenP (⟨v1_0, ⟨v1_1, v1_2, v1_3, v1_4, v1_5, v1_6, v1_7⟩, v1_8, v1_9⟩ : Gear) (⟨l0, v2_1, v2_2⟩ : Plan)))) := by
  obtain ⟨hp, hs, hG, h2, h70, _, hr, hz, _, _, _, hN⟩ := planOk_facts hpo
  have hL := legAt_floors h2 hr
  have hfl : v1_0 ≤ 64 := by simp only [gearB_iff] at hG; omega
  obtain ⟨s1, s2, s3, s4⟩ := stopG_pos hG
  obtain ⟨g1, g2, g3, g4, g5, g6, g7, g8⟩ := gear_facts hG
  have hb := lenP_bounds hG h2 h70 hr
  have hall := legT0_all (g := (⟨v1_0, ⟨v1_1, v1_2, v1_3, v1_4, v1_5, v1_6, v1_7⟩, v1_8, v1_9⟩ : Gear)) h2 hr 0
  have hst : stopG (⟨v1_0, ⟨v1_1, v1_2, v1_3, v1_4, v1_5, v1_6, v1_7⟩, v1_8, v1_9⟩ : Gear) = v1_2 + v1_3 + v1_8 + v1_6 := rfl
  simp only at hN s3 s4 g1 g2 g3 g4 g5 g6 g7 g8 h2 h70
  have hmany : manyP (⟨l0, v2_1, v2_2⟩ : Plan) = (((rowP (⟨l0, v2_1, v2_2⟩ : Plan)).length : Nat) : Int) := by rw [hN]; unfold manyP; simp only; omega
  intro m
  induction m with
  | zero =>
    intro i n him hn
    obtain ⟨n, rfl⟩ : ∃ k, n = k + 1 := ⟨n - 1, by omega⟩
    rw [step_rlen]
    have e : decide (((i : Nat) : Int) < manyP (⟨l0, v2_1, v2_2⟩ : Plan)) = false := by rw [hmany]; simp; omega
    have hi : i = (rowP (⟨l0, v2_1, v2_2⟩ : Plan)).length := by omega
    simp only [hs, e, beqn, ble0, Bool.and_self, Bool.and_true, Bool.true_and, cond_true, cond_false]
    rw [hi, hall]
  | succ m ih =>
    intro i n him hn
    obtain ⟨n, rfl⟩ : ∃ k, n = k + 1 := ⟨n - 1, by omega⟩
    rw [step_rlen]
    have e : decide (((i : Nat) : Int) < manyP (⟨l0, v2_1, v2_2⟩ : Plan)) = true := by rw [hmany]; simp; omega
    have w1 : IntKind.wrap IntKind.i64 (((i : Nat) : Int) + 1) = ((i + 1 : Nat) : Int) := by rw [IntWalk.i64_in _ (by omega)]; omega
    have o1 : stopROk (⟨l0, v2_1, v2_2⟩ : Plan) ((i + 1 : Nat) : Int) = true := by
      rw [stopROk, hz, Bool.true_and, Bool.and_eq_true, decide_eq_true_eq, decide_eq_true_eq]; omega
    have o2 : stopROk (⟨l0, v2_1, v2_2⟩ : Plan) ((i : Nat) : Int) = true := by
      rw [stopROk, hz, Bool.true_and, Bool.and_eq_true, decide_eq_true_eq, decide_eq_true_eq]; omega
    have r1 : stopR (⟨l0, v2_1, v2_2⟩ : Plan) ((i + 1 : Nat) : Int) = legAt (rowP (⟨l0, v2_1, v2_2⟩ : Plan)) (i + 1) := rfl
    have r2 : stopR (⟨l0, v2_1, v2_2⟩ : Plan) ((i : Nat) : Int) = legAt (rowP (⟨l0, v2_1, v2_2⟩ : Plan)) i := rfl
    simp only [hs, e, w1, o1, o2, r1, r2, beqn, ble0, Bool.and_self, Bool.and_true, Bool.true_and, cond_true, cond_false]
    obtain ⟨A1, A2⟩ := hL i
    obtain ⟨B1, B2⟩ := hL (i + 1)
    simp only at A1 A2 B1 B2
    have T0 := legT0_mono (g := (⟨v1_0, ⟨v1_1, v1_2, v1_3, v1_4, v1_5, v1_6, v1_7⟩, v1_8, v1_9⟩ : Gear)) (L := rowP (⟨l0, v2_1, v2_2⟩ : Plan)) (f := 0) (by omega) (by simp only; omega) (show 0 ≤ i by omega)
    have T1 := legT0_mono (g := (⟨v1_0, ⟨v1_1, v1_2, v1_3, v1_4, v1_5, v1_6, v1_7⟩, v1_8, v1_9⟩ : Gear)) (L := rowP (⟨l0, v2_1, v2_2⟩ : Plan)) (f := 0) (by omega) (by simp only; omega) (show i ≤ (rowP (⟨l0, v2_1, v2_2⟩ : Plan)).length by omega)
    rw [hall] at T1
    have T00 : legT0 (⟨v1_0, ⟨v1_1, v1_2, v1_3, v1_4, v1_5, v1_6, v1_7⟩, v1_8, v1_9⟩ : Gear) (rowP (⟨l0, v2_1, v2_2⟩ : Plan)) 0 0 = 0 := rfl
    rw [T00] at T0
    have hsucc : legT0 (⟨v1_0, ⟨v1_1, v1_2, v1_3, v1_4, v1_5, v1_6, v1_7⟩, v1_8, v1_9⟩ : Gear) (rowP (⟨l0, v2_1, v2_2⟩ : Plan)) 0 (i + 1) = legT0 (⟨v1_0, ⟨v1_1, v1_2, v1_3, v1_4, v1_5, v1_6, v1_7⟩, v1_8, v1_9⟩ : Gear) (rowP (⟨l0, v2_1, v2_2⟩ : Plan)) 0 i + (v1_2 + v1_3 + v1_8 + v1_6) + ((legAt (rowP (⟨l0, v2_1, v2_2⟩ : Plan)) (i + 1) - legAt (rowP (⟨l0, v2_1, v2_2⟩ : Plan)) i).natAbs : Int) * v1_1 := by
      simp only [legT0, legD, legGo, Nat.zero_add, hst]
      omega
    have ih' := ih (i + 1) n (by omega) (by omega)
    rw [hsucc] at ih'
    generalize legAt (rowP (⟨l0, v2_1, v2_2⟩ : Plan)) (i + 1) = bb at *
    generalize legAt (rowP (⟨l0, v2_1, v2_2⟩ : Plan)) i = aa at *
    generalize legT0 (⟨v1_0, ⟨v1_1, v1_2, v1_3, v1_4, v1_5, v1_6, v1_7⟩, v1_8, v1_9⟩ : Gear) (rowP (⟨l0, v2_1, v2_2⟩ : Plan)) 0 i = tt at *
    have hmul : 0 ≤ ((bb - aa).natAbs : Int) * v1_1 ∧ ((bb - aa).natAbs : Int) * v1_1 ≤ 64 * 60 := ⟨Int.mul_nonneg (by omega) (by omega), Int.mul_le_mul (by omega) (by omega) (by omega) (by omega)⟩
    rw [IntWalk.i64_in (bb - aa) (by omega), IntWalk.i64_in (tt + v1_2) (by omega), IntWalk.i64_in (tt + v1_2 + v1_3) (by omega), IntWalk.i64_in (tt + v1_2 + v1_3 + v1_8) (by omega), IntWalk.i64_in (tt + v1_2 + v1_3 + v1_8 + v1_6) (by omega), IntWalk.i64_in (0 - (bb - aa)) (by omega)]
    by_cases hneg : bb - aa < 0
    · have en : decide (bb - aa < 0) = true := by simpa using hneg
      have ea : 0 - (bb - aa) = ((bb - aa).natAbs : Int) := by omega
      rw [en, cond_true, ea, IntWalk.i64_in (((bb - aa).natAbs : Int) * v1_1) (by omega), IntWalk.i64_in _ (by omega)]
      rw [← ih']
      congr 2
      omega
    · have en : decide (bb - aa < 0) = false := by simpa using hneg
      have ea : bb - aa = ((bb - aa).natAbs : Int) := by omega
      rw [en, cond_false]
      rw [show (bb - aa) * v1_1 = ((bb - aa).natAbs : Int) * v1_1 by rw [← ea], IntWalk.i64_in (((bb - aa).natAbs : Int) * v1_1) (by omega), IntWalk.i64_in _ (by omega)]
      rw [← ih']
      congr 2
      omega

theorem main_rlen (l0 : List (Int)) (v1_0 v1_1 v1_2 v1_3 v1_4 v1_5 v1_6 v1_7 v1_8 v1_9 v2_1 v2_2 v5 v6 : Int) (hg : (planOk (⟨v1_0, ⟨v1_1, v1_2, v1_3, v1_4, v1_5, v1_6, v1_7⟩, v1_8, v1_9⟩ : Gear) (⟨l0, v2_1, v2_2⟩ : Plan) && (v5 == 0 && v6 == 0)) = true) : ∃ N d, I_rlen N d N (S_rlen l0 v1_0 v1_1 v1_2 v1_3 v1_4 v1_5 v1_6 v1_7 v1_8 v1_9 v2_1 v2_2 v5 v6) = some (altK Prod.mk [] (.exit 0) (X_rlen_0 l0 v1_0 v1_1 v1_2 v1_3 v1_4 v1_5 v1_6 v1_7 v1_8 v1_9 v2_1 v2_2 (lenP (⟨v1_0, ⟨v1_1, v1_2, v1_3, v1_4, v1_5, v1_6, v1_7⟩, v1_8, v1_9⟩ : Gear) (⟨l0, v2_1, v2_2⟩ : Plan)))) := by
  simp only [Bool.and_eq_true, beq_iff_eq] at hg
  obtain ⟨h1, rfl, rfl⟩ := hg
  exact ⟨200, 3, go_rlen l0 v1_0 v1_1 v1_2 v1_3 v1_4 v1_5 v1_6 v1_7 v1_8 v1_9 v2_1 v2_2 0 0 200 0 h1 (rowP (⟨l0, v2_1, v2_2⟩ : Plan)).length 0 200 (by omega) (by
    obtain ⟨_, _, _, h2, h70, _, _, _, _, _, _, hN⟩ := planOk_facts h1
    simp only at hN h2 h70
    omega)⟩

theorem run_newelref22_Length (a0 : Gear) (a1 : Plan) (hg : planOk a0 a1 = true) : ∃ F d, run k70 F d 53 Tryz.f53 s_newelref22_Length (a0, a1, ()) = some (r_newelref22_Length.enc (lenP a0 a1)) := by
  refine ⟨200, 6, ?_⟩
  rw [tree_newelref22_Length]
  simp only [hg, beqn, ble0, Bool.and_self, Bool.and_true, Bool.true_and, cond_true]
  rfl

theorem stepROk_at {g : Gear} {p : Plan} (h : planOk g p = true) {n : Int} (h0 : 0 ≤ n) (hn : n < lenP g p) : stepROk g p (goingAt g p n) = true ∧ (n + 1 < lenP g p → stepR g p (goingAt g p n) = goingAt g p (n + 1)) := by
  obtain ⟨hp, hs, hG, h2, h70, _, hr, hz, _, p1, p2, hN⟩ := planOk_facts h
  obtain ⟨a1, ⟨a2, a3⟩, a4⟩ := next_at hG hp h2 hr (legAt_floors h2 hr) h0 hn
  refine ⟨?_, a4⟩
  have hf : firstP p < (rowP p).length := firstP_lt p2 (by omega)
  simp only [stepROk, hz, a1, Bool.true_and, Bool.and_true, Bool.and_eq_true, decide_eq_true_eq]
  omega

theorem go_rat (l0 : List (Int)) (v1_0 v1_1 v1_2 v1_3 v1_4 v1_5 v1_6 v1_7 v1_8 v1_9 v2_1 v2_2 v3_0 v3_1 v3_2 v3_3 v3_4 v3_5 v3_6 v3_7 v3_8 v4_0 v4_1 v4_2 v4_3 v4_4 v4_5 v4_6 v4_7 v4_8 v2 v8 : Int) (F d : Nat) (hpo : planOk (⟨v1_0, ⟨v1_1, v1_2, v1_3, v1_4, v1_5, v1_6, v1_7⟩, v1_8, v1_9⟩ : Gear) (⟨l0, v2_1, v2_2⟩ : Plan) = true) (hv : v2 < lenP (⟨v1_0, ⟨v1_1, v1_2, v1_3, v1_4, v1_5, v1_6, v1_7⟩, v1_8, v1_9⟩ : Gear) (⟨l0, v2_1, v2_2⟩ : Plan)) : ∀ (m i n : Nat), ((i + m : Nat) : Int) = v2 → m < n →
    I_rat F (d + 3) n (S_rat l0 v1_0 v1_1 v1_2 v1_3 v1_4 v1_5 v1_6 v1_7 v1_8 v1_9 v2_1 v2_2 v3_0 v3_1 v3_2 v3_3 v3_4 v3_5 v3_6 v3_7 v3_8 ((goingAt (⟨v1_0, ⟨v1_1, v1_2, v1_3, v1_4, v1_5, v1_6, v1_7⟩, v1_8, v1_9⟩ : Gear) (⟨l0, v2_1, v2_2⟩ : Plan) ((i : Nat) : Int)).c.floor) ((goingAt (⟨v1_0, ⟨v1_1, v1_2, v1_3, v1_4, v1_5, v1_6, v1_7⟩, v1_8, v1_9⟩ : Gear) (⟨l0, v2_1, v2_2⟩ : Plan) ((i : Nat) : Int)).c.dir) ((goingAt (⟨v1_0, ⟨v1_1, v1_2, v1_3, v1_4, v1_5, v1_6, v1_7⟩, v1_8, v1_9⟩ : Gear) (⟨l0, v2_1, v2_2⟩ : Plan) ((i : Nat) : Int)).c.phase) ((goingAt (⟨v1_0, ⟨v1_1, v1_2, v1_3, v1_4, v1_5, v1_6, v1_7⟩, v1_8, v1_9⟩ : Gear) (⟨l0, v2_1, v2_2⟩ : Plan) ((i : Nat) : Int)).c.left) ((goingAt (⟨v1_0, ⟨v1_1, v1_2, v1_3, v1_4, v1_5, v1_6, v1_7⟩, v1_8, v1_9⟩ : Gear) (⟨l0, v2_1, v2_2⟩ : Plan) ((i : Nat) : Int)).c.door.phase) ((goingAt (⟨v1_0, ⟨v1_1, v1_2, v1_3, v1_4, v1_5, v1_6, v1_7⟩, v1_8, v1_9⟩ : Gear) (⟨l0, v2_1, v2_2⟩ : Plan) ((i : Nat) : Int)).c.door.left) ((goingAt (⟨v1_0, ⟨v1_1, v1_2, v1_3, v1_4, v1_5, v1_6, v1_7⟩, v1_8, v1_9⟩ : Gear) (⟨l0, v2_1, v2_2⟩ : Plan) ((i : Nat) : Int)).c.door.held) ((goingAt (⟨v1_0, ⟨v1_1, v1_2, v1_3, v1_4, v1_5, v1_6, v1_7⟩, v1_8, v1_9⟩ : Gear) (⟨l0, v2_1, v2_2⟩ : Plan) ((i : Nat) : Int)).next) ((goingAt (⟨v1_0, ⟨v1_1, v1_2, v1_3, v1_4, v1_5, v1_6, v1_7⟩, v1_8, v1_9⟩ : Gear) (⟨l0, v2_1, v2_2⟩ : Plan) ((i : Nat) : Int)).cmd) v2 ((i : Nat) : Int)) = some (.exit 0, (X_rat_0 l0 v1_0 v1_1 v1_2 v1_3 v1_4 v1_5 v1_6 v1_7 v1_8 v1_9 v2_1 v2_2 v3_0 v3_1 v3_2 v3_3 v3_4 v3_5 v3_6 v3_7 v3_8 ((goingAt (⟨v1_0, ⟨v1_1, v1_2, v1_3, v1_4, v1_5, v1_6, v1_7⟩, v1_8, v1_9⟩ : Gear) (⟨l0, v2_1, v2_2⟩ : Plan) v2).c.floor) ((goingAt (⟨v1_0, ⟨v1_1, v1_2, v1_3, v1_4, v1_5, v1_6, v1_7⟩, v1_8, v1_9⟩ : Gear) (⟨l0, v2_1, v2_2⟩ : Plan) v2).c.dir) ((goingAt (⟨v1_0, ⟨v1_1, v1_2, v1_3, v1_4, v1_5, v1_6, v1_7⟩, v1_8, v1_9⟩ : Gear) (⟨l0, v2_1, v2_2⟩ : Plan) v2).c.phase) ((goingAt (⟨v1_0, ⟨v1_1, v1_2, v1_3, v1_4, v1_5, v1_6, v1_7⟩, v1_8, v1_9⟩ : Gear) (⟨l0, v2_1, v2_2⟩ : Plan) v2).c.left) ((goingAt (⟨v1_0, ⟨v1_1, v1_2, v1_3, v1_4, v1_5, v1_6, v1_7⟩, v1_8, v1_9⟩ : Gear) (⟨l0, v2_1, v2_2⟩ : Plan) v2).c.door.phase) ((goingAt (⟨v1_0, ⟨v1_1, v1_2, v1_3, v1_4, v1_5, v1_6, v1_7⟩, v1_8, v1_9⟩ : Gear) (⟨l0, v2_1, v2_2⟩ : Plan) v2).c.door.left) ((goingAt (⟨v1_0, ⟨v1_1, v1_2, v1_3, v1_4, v1_5, v1_6, v1_7⟩, v1_8, v1_9⟩ : Gear) (⟨l0, v2_1, v2_2⟩ : Plan) v2).c.door.held) ((goingAt (⟨v1_0, ⟨v1_1, v1_2, v1_3, v1_4, v1_5, v1_6, v1_7⟩, v1_8, v1_9⟩ : Gear) (⟨l0, v2_1, v2_2⟩ : Plan) v2).next) ((goingAt (⟨v1_0, ⟨v1_1, v1_2, v1_3, v1_4, v1_5, v1_6, v1_7⟩, v1_8, v1_9⟩ : Gear) (⟨l0, v2_1, v2_2⟩ : Plan) v2).cmd))) := by
  obtain ⟨hp, hs, hG, h2, h70, _, hr, hz, _, p1, p2, hN⟩ := planOk_facts hpo
  have hb := lenP_bounds hG h2 h70 hr
  intro m
  induction m with
  | zero =>
    intro i n him hn
    obtain ⟨n, rfl⟩ : ∃ k, n = k + 1 := ⟨n - 1, by omega⟩
    rw [step_rat]
    have e : decide (((i : Nat) : Int) < v2) = false := by simp; omega
    rw [e, cond_false]
    have : ((i : Nat) : Int) = v2 := by omega
    rw [this]
  | succ m ih =>
    intro i n him hn
    obtain ⟨n, rfl⟩ : ∃ k, n = k + 1 := ⟨n - 1, by omega⟩
    have e : decide (((i : Nat) : Int) < v2) = true := by simp; omega
    obtain ⟨o1, o2⟩ := stepROk_at hpo (n := ((i : Nat) : Int)) (by omega) (by omega)
    have w : IntKind.wrap IntKind.i64 (((i : Nat) : Int) + 1) = ((i + 1 : Nat) : Int) := by rw [IntWalk.i64_in _ (by omega)]; omega
    have o2 := o2 (by omega)
    rw [show ((i : Nat) : Int) + 1 = ((i + 1 : Nat) : Int) by omega] at o2
    rw [step_rat, e, cond_true]
    change (bif true && (Nat.beq l0.length l0.length && Nat.ble (0 + l0.length) l0.length && true && true) && stepROk (⟨v1_0, ⟨v1_1, v1_2, v1_3, v1_4, v1_5, v1_6, v1_7⟩, v1_8, v1_9⟩ : Gear) (⟨l0, v2_1, v2_2⟩ : Plan) (goingAt (⟨v1_0, ⟨v1_1, v1_2, v1_3, v1_4, v1_5, v1_6, v1_7⟩, v1_8, v1_9⟩ : Gear) (⟨l0, v2_1, v2_2⟩ : Plan) ((i : Nat) : Int)) then I_rat F (d + 3) n (S_rat l0 v1_0 v1_1 v1_2 v1_3 v1_4 v1_5 v1_6 v1_7 v1_8 v1_9 v2_1 v2_2 v3_0 v3_1 v3_2 v3_3 v3_4 v3_5 v3_6 v3_7 v3_8 ((stepR (⟨v1_0, ⟨v1_1, v1_2, v1_3, v1_4, v1_5, v1_6, v1_7⟩, v1_8, v1_9⟩ : Gear) (⟨l0, v2_1, v2_2⟩ : Plan) (goingAt (⟨v1_0, ⟨v1_1, v1_2, v1_3, v1_4, v1_5, v1_6, v1_7⟩, v1_8, v1_9⟩ : Gear) (⟨l0, v2_1, v2_2⟩ : Plan) ((i : Nat) : Int))).c.floor) ((stepR (⟨v1_0, ⟨v1_1, v1_2, v1_3, v1_4, v1_5, v1_6, v1_7⟩, v1_8, v1_9⟩ : Gear) (⟨l0, v2_1, v2_2⟩ : Plan) (goingAt (⟨v1_0, ⟨v1_1, v1_2, v1_3, v1_4, v1_5, v1_6, v1_7⟩, v1_8, v1_9⟩ : Gear) (⟨l0, v2_1, v2_2⟩ : Plan) ((i : Nat) : Int))).c.dir) ((stepR (⟨v1_0, ⟨v1_1, v1_2, v1_3, v1_4, v1_5, v1_6, v1_7⟩, v1_8, v1_9⟩ : Gear) (⟨l0, v2_1, v2_2⟩ : Plan) (goingAt (⟨v1_0, ⟨v1_1, v1_2, v1_3, v1_4, v1_5, v1_6, v1_7⟩, v1_8, v1_9⟩ : Gear) (⟨l0, v2_1, v2_2⟩ : Plan) ((i : Nat) : Int))).c.phase) ((stepR (⟨v1_0, ⟨v1_1, v1_2, v1_3, v1_4, v1_5, v1_6, v1_7⟩, v1_8, v1_9⟩ : Gear) (⟨l0, v2_1, v2_2⟩ : Plan) (goingAt (⟨v1_0, ⟨v1_1, v1_2, v1_3, v1_4, v1_5, v1_6, v1_7⟩, v1_8, v1_9⟩ : Gear) (⟨l0, v2_1, v2_2⟩ : Plan) ((i : Nat) : Int))).c.left) ((stepR (⟨v1_0, ⟨v1_1, v1_2, v1_3, v1_4, v1_5, v1_6, v1_7⟩, v1_8, v1_9⟩ : Gear) (⟨l0, v2_1, v2_2⟩ : Plan) (goingAt (⟨v1_0, ⟨v1_1, v1_2, v1_3, v1_4, v1_5, v1_6, v1_7⟩, v1_8, v1_9⟩ : Gear) (⟨l0, v2_1, v2_2⟩ : Plan) ((i : Nat) : Int))).c.door.phase) ((stepR (⟨v1_0, ⟨v1_1, v1_2, v1_3, v1_4, v1_5, v1_6, v1_7⟩, v1_8, v1_9⟩ : Gear) (⟨l0, v2_1, v2_2⟩ : Plan) (goingAt (⟨v1_0, ⟨v1_1, v1_2, v1_3, v1_4, v1_5, v1_6, v1_7⟩, v1_8, v1_9⟩ : Gear) (⟨l0, v2_1, v2_2⟩ : Plan) ((i : Nat) : Int))).c.door.left) ((stepR (⟨v1_0, ⟨v1_1, v1_2, v1_3, v1_4, v1_5, v1_6, v1_7⟩, v1_8, v1_9⟩ : Gear) (⟨l0, v2_1, v2_2⟩ : Plan) (goingAt (⟨v1_0, ⟨v1_1, v1_2, v1_3, v1_4, v1_5, v1_6, v1_7⟩, v1_8, v1_9⟩ : Gear) (⟨l0, v2_1, v2_2⟩ : Plan) ((i : Nat) : Int))).c.door.held) ((stepR (⟨v1_0, ⟨v1_1, v1_2, v1_3, v1_4, v1_5, v1_6, v1_7⟩, v1_8, v1_9⟩ : Gear) (⟨l0, v2_1, v2_2⟩ : Plan) (goingAt (⟨v1_0, ⟨v1_1, v1_2, v1_3, v1_4, v1_5, v1_6, v1_7⟩, v1_8, v1_9⟩ : Gear) (⟨l0, v2_1, v2_2⟩ : Plan) ((i : Nat) : Int))).next) ((stepR (⟨v1_0, ⟨v1_1, v1_2, v1_3, v1_4, v1_5, v1_6, v1_7⟩, v1_8, v1_9⟩ : Gear) (⟨l0, v2_1, v2_2⟩ : Plan) (goingAt (⟨v1_0, ⟨v1_1, v1_2, v1_3, v1_4, v1_5, v1_6, v1_7⟩, v1_8, v1_9⟩ : Gear) (⟨l0, v2_1, v2_2⟩ : Plan) ((i : Nat) : Int))).cmd) v2 (IntKind.wrap IntKind.i64 (((i : Nat) : Int) + 1))) else none) = _
    rw [o1, o2, w]
    simp only [beqn, ble0, Bool.and_self, cond_true]
    exact ih (i + 1) n (by omega) (by omega)

theorem main_rat (l0 : List (Int)) (v1_0 v1_1 v1_2 v1_3 v1_4 v1_5 v1_6 v1_7 v1_8 v1_9 v2_1 v2_2 v3_0 v3_1 v3_2 v3_3 v3_4 v3_5 v3_6 v3_7 v3_8 v4_0 v4_1 v4_2 v4_3 v4_4 v4_5 v4_6 v4_7 v4_8 v2 v8 : Int) (hg : (atOk (⟨v1_0, ⟨v1_1, v1_2, v1_3, v1_4, v1_5, v1_6, v1_7⟩, v1_8, v1_9⟩ : Gear) (⟨l0, v2_1, v2_2⟩ : Plan) v2 && (v8 == 0 && decide ((⟨⟨v4_0, v4_1, v4_2, v4_3, ⟨v4_4, v4_5, v4_6⟩⟩, v4_7, v4_8⟩ : Going) = beginR (⟨l0, v2_1, v2_2⟩ : Plan)))) = true) : ∃ N d, I_rat N d N (S_rat l0 v1_0 v1_1 v1_2 v1_3 v1_4 v1_5 v1_6 v1_7 v1_8 v1_9 v2_1 v2_2 v3_0 v3_1 v3_2 v3_3 v3_4 v3_5 v3_6 v3_7 v3_8 v4_0 v4_1 v4_2 v4_3 v4_4 v4_5 v4_6 v4_7 v4_8 v2 v8) = some (altK Prod.mk [] (.exit 0) (X_rat_0 l0 v1_0 v1_1 v1_2 v1_3 v1_4 v1_5 v1_6 v1_7 v1_8 v1_9 v2_1 v2_2 v3_0 v3_1 v3_2 v3_3 v3_4 v3_5 v3_6 v3_7 v3_8 ((goingAt (⟨v1_0, ⟨v1_1, v1_2, v1_3, v1_4, v1_5, v1_6, v1_7⟩, v1_8, v1_9⟩ : Gear) (⟨l0, v2_1, v2_2⟩ : Plan) v2).c.floor) ((goingAt (⟨v1_0, ⟨v1_1, v1_2, v1_3, v1_4, v1_5, v1_6, v1_7⟩, v1_8, v1_9⟩ : Gear) (⟨l0, v2_1, v2_2⟩ : Plan) v2).c.dir) ((goingAt (⟨v1_0, ⟨v1_1, v1_2, v1_3, v1_4, v1_5, v1_6, v1_7⟩, v1_8, v1_9⟩ : Gear) (⟨l0, v2_1, v2_2⟩ : Plan) v2).c.phase) ((goingAt (⟨v1_0, ⟨v1_1, v1_2, v1_3, v1_4, v1_5, v1_6, v1_7⟩, v1_8, v1_9⟩ : Gear) (⟨l0, v2_1, v2_2⟩ : Plan) v2).c.left) ((goingAt (⟨v1_0, ⟨v1_1, v1_2, v1_3, v1_4, v1_5, v1_6, v1_7⟩, v1_8, v1_9⟩ : Gear) (⟨l0, v2_1, v2_2⟩ : Plan) v2).c.door.phase) ((goingAt (⟨v1_0, ⟨v1_1, v1_2, v1_3, v1_4, v1_5, v1_6, v1_7⟩, v1_8, v1_9⟩ : Gear) (⟨l0, v2_1, v2_2⟩ : Plan) v2).c.door.left) ((goingAt (⟨v1_0, ⟨v1_1, v1_2, v1_3, v1_4, v1_5, v1_6, v1_7⟩, v1_8, v1_9⟩ : Gear) (⟨l0, v2_1, v2_2⟩ : Plan) v2).c.door.held) ((goingAt (⟨v1_0, ⟨v1_1, v1_2, v1_3, v1_4, v1_5, v1_6, v1_7⟩, v1_8, v1_9⟩ : Gear) (⟨l0, v2_1, v2_2⟩ : Plan) v2).next) ((goingAt (⟨v1_0, ⟨v1_1, v1_2, v1_3, v1_4, v1_5, v1_6, v1_7⟩, v1_8, v1_9⟩ : Gear) (⟨l0, v2_1, v2_2⟩ : Plan) v2).cmd))) := by
  simp only [atOk, Bool.and_eq_true, decide_eq_true_eq, beq_iff_eq] at hg
  obtain ⟨⟨h1, h2, h3⟩, rfl, h4⟩ := hg
  obtain ⟨hp, hs, hG, hh2, h70, _, hr, hz, _, p1, p2, hN⟩ := planOk_facts h1
  have h5 := (begin_at hG hp hh2).resolve_right (by omega)
  rw [h5] at h4
  have := go_rat l0 v1_0 v1_1 v1_2 v1_3 v1_4 v1_5 v1_6 v1_7 v1_8 v1_9 v2_1 v2_2 v3_0 v3_1 v3_2 v3_3 v3_4 v3_5 v3_6 v3_7 v3_8 v4_0 v4_1 v4_2 v4_3 v4_4 v4_5 v4_6 v4_7 v4_8 v2 0 (v2.toNat + 3) 0 h1 h3 v2.toNat 0 (v2.toNat + 3) (by omega) (by omega)
  refine ⟨v2.toNat + 3, 3, ?_⟩
  have e0 : goingAt (⟨v1_0, ⟨v1_1, v1_2, v1_3, v1_4, v1_5, v1_6, v1_7⟩, v1_8, v1_9⟩ : Gear) (⟨l0, v2_1, v2_2⟩ : Plan) ((0 : Nat) : Int) = ⟨⟨v4_0, v4_1, v4_2, v4_3, ⟨v4_4, v4_5, v4_6⟩⟩, v4_7, v4_8⟩ := by
    rw [show ((0 : Nat) : Int) = 0 from rfl]
    exact h4.symm
  rw [e0] at this
  exact this

theorem run_newelref22_At (a0 : Gear) (a1 : Plan) (a2 : Int) (hg : atOk a0 a1 a2 = true) : ∃ F d, run k72 F d 52 Tryz.f52 s_newelref22_At (a0, a1, a2, ()) = some (r_newelref22_At.enc (goingAt a0 a1 a2)) := by
  refine ⟨200, 6, ?_⟩
  rw [tree_newelref22_At]
  have hg' := hg
  simp only [atOk, Bool.and_eq_true] at hg'
  obtain ⟨_, _, _, _, _, _, _, _, hpl, _⟩ := planOk_facts hg'.1
  have e : decide ((⟨⟨legAt (rowP a1) (placeP a1 a1.car).toNat, 0, 0, 0, ⟨0, 0, 0⟩⟩, placeP a1 a1.car, 3⟩ : Going) = beginR a1) = true := decide_eq_true rfl
  rw [e]
  simp only [hg, hpl, beqn, ble0, Bool.and_self, Bool.and_true, Bool.true_and, cond_true]
  rfl
end Go.Proofs.YtdpdmjjpdebpeaaGreat.Px.PxR
