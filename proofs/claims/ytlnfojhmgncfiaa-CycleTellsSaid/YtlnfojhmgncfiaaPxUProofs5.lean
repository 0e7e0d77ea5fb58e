/- What the document says of a round: its loops, and the statements. -/
import Derived.Test.YtlnfojhmgncfiaaPxUProofs4
import Derived.Test.YtlnfojhmgncfiaaPxSpecCycle
set_option linter.unusedVariables false
set_option linter.unusedSimpArgs false
namespace Go.Proofs.Ytlnfojhmgncfiaa.Px.PxU
open Go Go.Proofs
set_option linter.unusedSimpArgs false
set_option linter.unusedVariables false

theorem or_true' (a : Bool) : (a || true) = true := by cases a <;> rfl

theorem go_may (l0 : List (Int)) (v1_0 : Int) (v1_1 : Int) (v1_2 : Int) (v1_3 : Int) (v1_4 : Int) (v1_5 : Int) (v1_6 : Int) (v1_7 : Int) (v1_8 : Int) (v1_9 : Int) (v2_1 : Int) (v2_2 : Int) (v6 : Int) (F d : Nat) : ∀ (suf pre : List Int) (n : Nat), suf.length < n → (pre ++ suf).length ≤ 1048576 →
    I_may F (d + 3) n (S_may (pre ++ suf) v1_0 v1_1 v1_2 v1_3 v1_4 v1_5 v1_6 v1_7 v1_8 v1_9 v2_1 v2_2 ((pre.length : Nat) : Int)) = cond (chkR v1_0 pre.getLast? suf) (some (.exit 0, (X_may_1 (pre ++ suf) v1_0 v1_1 v1_2 v1_3 v1_4 v1_5 v1_6 v1_7 v1_8 v1_9 v2_1 v2_2))) (some (.ret, (X_may_0 (pre ++ suf) v1_0 v1_1 v1_2 v1_3 v1_4 v1_5 v1_6 v1_7 v1_8 v1_9 v2_1 v2_2))) := by
  intro suf
  induction suf with
  | nil =>
    intro pre n hn hl
    obtain ⟨n, rfl⟩ : ∃ k, n = k + 1 := ⟨n - 1, by omega⟩
    rw [step_may, idx_end, cond_false]
    cases pre.getLast? <;> rfl
  | cons x suf ih =>
    intro pre n hn hl
    obtain ⟨n, rfl⟩ : ∃ k, n = k + 1 := ⟨n - 1, by omega⟩
    have ih' := ih (pre ++ [x]) n (by simp at hn; omega) (by simpa using hl)
    have hpl : pre.length + (suf.length + 1) ≤ 1048576 := by simpa using hl
    rw [step_may]
    simp only [idx_lt, idx_ge, Bool.and_self, cond_true, idx_nat, idx_at, idx_next hl, Bool.true_or]
    rw [← idx_step] at ih'
    have hout : (bif decide (x < 0) then true else decide (x ≥ v1_0)) = !(decide (0 ≤ x) && decide (x < v1_0)) := by
      rw [Bool.eq_iff_iff]; simp; try omega
    rw [hout]
    rcases nil_or_snoc pre with rfl | ⟨q, p, rfl⟩
    · simp only [List.length_nil, show decide (((0 : Nat) : Int) > 0) = false from rfl, Bool.and_false, Bool.not_false, Bool.or_true, cond_true, cond_false, or_true', Bool.or_false, List.getLast?_nil]
      rw [show chkR v1_0 none (x :: suf) = ((decide (0 ≤ x) && decide (x < v1_0)) && chkR v1_0 (some x) suf) from rfl]
      cases (decide (0 ≤ x) && decide (x < v1_0))
      · rfl
      · simp only [Bool.not_true, Bool.true_and, cond_false]
        simpa using ih'
    · have hw : IntKind.wrap IntKind.i64 ((((q ++ [p]).length : Nat) : Int) - 1) = (((q ++ [p]).length : Nat) : Int) - 1 := IntWalk.i64_in _ (by simp at hpl ⊢; omega)
      have g1 : (decide (0 ≤ (((q ++ [p]).length : Nat) : Int) - 1) && decide ((((q ++ [p]).length : Nat) : Int) - 1 < (((q ++ [p] ++ x :: suf).length : Nat) : Int))) = true := by simp; omega
      have g2 : decide (0 + Int.toNat ((((q ++ [p]).length : Nat) : Int) - 1) < (q ++ [p] ++ x :: suf).length) = true := by simp
      have g3 : decide ((((q ++ [p]).length : Nat) : Int) > 0) = true := by simp; try omega
      rw [hw]
      simp only [g1, g2, g3, idx_last, Bool.true_or, cond_true]
      rw [show (q ++ [p]).getLast? = some p by simp, show chkR v1_0 (some p) (x :: suf) = ((decide (0 ≤ x) && decide (x < v1_0)) && decide (p < x) && chkR v1_0 (some x) suf) from rfl]
      cases (decide (0 ≤ x) && decide (x < v1_0))
      · rfl
      · have hd : decide (x ≤ p) = !decide (p < x) := by rw [Bool.eq_iff_iff]; simp
        rw [hd]
        cases decide (p < x)
        · rfl
        · simp only [Bool.not_true, Bool.true_and, cond_false, Bool.and_true]
          simpa using ih'

theorem main_may (l0 : List (Int)) (v1_0 : Int) (v1_1 : Int) (v1_2 : Int) (v1_3 : Int) (v1_4 : Int) (v1_5 : Int) (v1_6 : Int) (v1_7 : Int) (v1_8 : Int) (v1_9 : Int) (v2_1 : Int) (v2_2 : Int) (v6 : Int) (hg : (decide (l0.length ≤ 1048576) && v6 == 0) = true) : ∃ N d, I_may N d N (S_may l0 v1_0 v1_1 v1_2 v1_3 v1_4 v1_5 v1_6 v1_7 v1_8 v1_9 v2_1 v2_2 v6) = some (altK Prod.mk [(chkR v1_0 none l0, .exit 0, (X_may_1 l0 v1_0 v1_1 v1_2 v1_3 v1_4 v1_5 v1_6 v1_7 v1_8 v1_9 v2_1 v2_2))] (.ret) (X_may_0 l0 v1_0 v1_1 v1_2 v1_3 v1_4 v1_5 v1_6 v1_7 v1_8 v1_9 v2_1 v2_2)) := by
  simp only [Bool.and_eq_true, decide_eq_true_eq, beq_iff_eq] at hg
  obtain ⟨h1, rfl⟩ := hg
  have := go_may l0 v1_0 v1_1 v1_2 v1_3 v1_4 v1_5 v1_6 v1_7 v1_8 v1_9 v2_1 v2_2 0 (l0.length + 3) 0 l0 [] (l0.length + 3) (by omega) (by simpa using h1)
  refine ⟨l0.length + 3, 3, ?_⟩
  simp only [List.nil_append, List.length_nil, List.getLast?_nil] at this
  rw [show ((0 : Nat) : Int) = 0 from rfl] at this
  rw [this]
  cases h : chkR v1_0 none l0 <;> simp [altK, h]

theorem run_newelref22_May (a0 : Gear) (a1 : Plan) (hg : smallGP a0 a1 = true) : ∃ F d, run k56 F d 14 Try.f14 s_newelref22_May (a0, a1, ()) = some (r_newelref22_May.enc (planB a0 a1)) := by
  refine ⟨200, 6, ?_⟩
  rw [tree_newelref22_May]
  have hs : smallP a1 = true := hg
  have h70 : a1.stops.length ≤ 70 := by simpa [smallP] using hs
  have e1 : decide (a1.stops.length ≤ 1048576) = true := by simp; omega
  have b1 : decide (((a1.stops.length : Nat) : Int) < 2) = !decide (2 ≤ a1.stops.length) := by rw [Bool.eq_iff_iff]; simp; omega
  have b2 : decide (a1.cars < 1) = !decide (1 ≤ a1.cars) := by rw [Bool.eq_iff_iff]; simp
  have b3 : decide (a1.cars > 8) = !decide (a1.cars ≤ 8) := by rw [Bool.eq_iff_iff]; simp
  have b4 : decide (a1.car < 0) = !decide (0 ≤ a1.car) := by rw [Bool.eq_iff_iff]; simp
  have b5 : decide (a1.car ≥ a1.cars) = !decide (a1.car < a1.cars) := by rw [Bool.eq_iff_iff]; simp
  simp only [e1, b1, b2, b3, b4, b5, beqn, ble0, Bool.and_self, Bool.and_true, Bool.true_and, cond_true, r_newelref22_May, Res.bool, planB]
  cases gearB a0 <;> cases decide (2 ≤ a1.stops.length) <;> cases decide (1 ≤ a1.cars) <;> cases decide (a1.cars ≤ 8) <;> cases decide (0 ≤ a1.car) <;> cases decide (a1.car < a1.cars) <;> cases chkR a0.floors none a1.stops <;> rfl

theorem planOk_facts {g : Gear} {p : Plan} (h : planOk g p = true) : planB g p = true ∧ smallP p = true ∧ gearB g = true ∧ 2 ≤ p.stops.length ∧ p.stops.length ≤ 70 ∧ (1 ≤ p.cars ∧ p.cars ≤ 8 ∧ 0 ≤ p.car ∧ p.car < p.cars) ∧ chkR g.floors none p.stops = true ∧ sizeP p = true ∧ placeROk p = true ∧ 0 ≤ placeP p p.car ∧ placeP p p.car < ((rowP p).length : Int) ∧ (rowP p).length = 2 * p.stops.length - 2 := by
  simp only [planOk, Bool.and_eq_true] at h
  obtain ⟨hp, hs⟩ := h
  obtain ⟨hG, h2, h70, hL, hpl, p1, p2, hall, hlo⟩ := plan_facts hs hp
  have hp' := hp
  rw [planB_iff] at hp'
  obtain ⟨_, q1, q2, q3, q4, hr, _⟩ := hp'
  have hz : sizeP p = true := sizeP_iff.2 ⟨h70, h2⟩
  refine ⟨hp, hs, hG, h2, h70, ⟨q1, q2, q3, q4⟩, hr, hz, ?_, p1, p2, hL⟩
  simp only [placeROk, hz, Bool.true_and, Bool.and_eq_true, decide_eq_true_eq]
  omega

theorem go_rlen (l0 : List (Int)) (v1_0 : Int) (v1_1 : Int) (v1_2 : Int) (v1_3 : Int) (v1_4 : Int) (v1_5 : Int) (v1_6 : Int) (v1_7 : Int) (v1_8 : Int) (v1_9 : Int) (v2_1 : Int) (v2_2 : Int) (v5 : Int) (v6 : Int) (F d : Nat) (hpo : planOk (⟨v1_0, ⟨v1_1, v1_2, v1_3, v1_4, v1_5, v1_6, v1_7⟩, v1_8, v1_9⟩ : Gear) (⟨l0, v2_1, v2_2⟩ : Plan) = true) : ∀ (m i n : Nat), i + m = (rowP (⟨l0, v2_1, v2_2⟩ : Plan)).length → m < n →
    I_rlen F (d + 3) n (S_rlen l0 v1_0 v1_1 v1_2 v1_3 v1_4 v1_5 v1_6 v1_7 v1_8 v1_9 v2_1 v2_2 (legT0 (⟨v1_0, ⟨v1_1, v1_2, v1_3, v1_4, v1_5, v1_6, v1_7⟩, v1_8, v1_9⟩ : Gear) (rowP (⟨l0, v2_1, v2_2⟩ : Plan)) 0 i) ((i : Nat) : Int)) = some (.exit 0, (X_rlen_0 l0 v1_0 v1_1 v1_2 v1_3 v1_4 v1_5 v1_6 v1_7 v1_8 v1_9 v2_1 v2_2 (lenP (⟨v1_0, ⟨v1_1, v1_2, v1_3, v1_4, v1_5, v1_6, v1_7⟩, v1_8, v1_9⟩ : Gear) (⟨l0, v2_1, v2_2⟩ : Plan)))) := by
  obtain ⟨hp, hs, hG, h2, h70, _, hr, hz, _, _, _, hN⟩ := planOk_facts hpo
  have hL := legAt_floors h2 hr
  have hfl : v1_0 ≤ 64 := by simp only [gearB_iff] at hG; omega
  obtain ⟨s1, s2, s3, s4⟩ := stopG_pos hG
  obtain ⟨g1, g2, g3, g4, g5, g6, g7, g8⟩ := gear_facts hG
  have hb := lenP_bounds hG h2 h70 hr
  have hall := legT0_all (g := (⟨v1_0, ⟨v1_1, v1_2, v1_3, v1_4, v1_5, v1_6, v1_7⟩, v1_8, v1_9⟩ : Gear)) h2 hr 0
  have hst : stopG (⟨v1_0, ⟨v1_1, v1_2, v1_3, v1_4, v1_5, v1_6, v1_7⟩, v1_8, v1_9⟩ : Gear) = v1_2 + v1_3 + v1_8 + v1_6 := rfl
  simp only at hN s3 s4 g1 g2 g3 g4 g5 g6 g7 g8 h2 h70
  have hmany : manyP (⟨l0, v2_1, v2_2⟩ : Plan) = (((rowP (⟨l0, v2_1, v2_2⟩ : Plan)).length : Nat) : Int) := by rw [hN]; unfold manyP; simp only; omega
  intro m
  induction m with
  | zero =>
    intro i n him hn
    obtain ⟨n, rfl⟩ : ∃ k, n = k + 1 := ⟨n - 1, by omega⟩
    rw [step_rlen]
    have e : decide (((i : Nat) : Int) < manyP (⟨l0, v2_1, v2_2⟩ : Plan)) = false := by rw [hmany]; simp; omega
    have hi : i = (rowP (⟨l0, v2_1, v2_2⟩ : Plan)).length := by omega
    simp only [hs, e, beqn, ble0, Bool.and_self, Bool.and_true, Bool.true_and, cond_true, cond_false]
    rw [hi, hall]
  | succ m ih =>
    intro i n him hn
    obtain ⟨n, rfl⟩ : ∃ k, n = k + 1 := ⟨n - 1, by omega⟩
    rw [step_rlen]
    have e : decide (((i : Nat) : Int) < manyP (⟨l0, v2_1, v2_2⟩ : Plan)) = true := by rw [hmany]; simp; omega
    have w1 : IntKind.wrap IntKind.i64 (((i : Nat) : Int) + 1) = ((i + 1 : Nat) : Int) := by rw [IntWalk.i64_in _ (by omega)]; omega
    have o1 : stopROk (⟨l0, v2_1, v2_2⟩ : Plan) ((i + 1 : Nat) : Int) = true := by
      rw [stopROk, hz, Bool.true_and, Bool.and_eq_true, decide_eq_true_eq, decide_eq_true_eq]; omega
    have o2 : stopROk (⟨l0, v2_1, v2_2⟩ : Plan) ((i : Nat) : Int) = true := by
      rw [stopROk, hz, Bool.true_and, Bool.and_eq_true, decide_eq_true_eq, decide_eq_true_eq]; omega
    have r1 : stopR (⟨l0, v2_1, v2_2⟩ : Plan) ((i + 1 : Nat) : Int) = legAt (rowP (⟨l0, v2_1, v2_2⟩ : Plan)) (i + 1) := rfl
    have r2 : stopR (⟨l0, v2_1, v2_2⟩ : Plan) ((i : Nat) : Int) = legAt (rowP (⟨l0, v2_1, v2_2⟩ : Plan)) i := rfl
    simp only [hs, e, w1, o1, o2, r1, r2, beqn, ble0, Bool.and_self, Bool.and_true, Bool.true_and, cond_true, cond_false]
    obtain ⟨A1, A2⟩ := hL i
    obtain ⟨B1, B2⟩ := hL (i + 1)
    simp only at A1 A2 B1 B2
    have T0 := legT0_mono (g := (⟨v1_0, ⟨v1_1, v1_2, v1_3, v1_4, v1_5, v1_6, v1_7⟩, v1_8, v1_9⟩ : Gear)) (L := rowP (⟨l0, v2_1, v2_2⟩ : Plan)) (f := 0) (by omega) (by simp only; omega) (show 0 ≤ i by omega)
    have T1 := legT0_mono (g := (⟨v1_0, ⟨v1_1, v1_2, v1_3, v1_4, v1_5, v1_6, v1_7⟩, v1_8, v1_9⟩ : Gear)) (L := rowP (⟨l0, v2_1, v2_2⟩ : Plan)) (f := 0) (by omega) (by simp only; omega) (show i ≤ (rowP (⟨l0, v2_1, v2_2⟩ : Plan)).length by omega)
    rw [hall] at T1
    have T00 : legT0 (⟨v1_0, ⟨v1_1, v1_2, v1_3, v1_4, v1_5, v1_6, v1_7⟩, v1_8, v1_9⟩ : Gear) (rowP (⟨l0, v2_1, v2_2⟩ : Plan)) 0 0 = 0 := rfl
    rw [T00] at T0
    have hsucc : legT0 (⟨v1_0, ⟨v1_1, v1_2, v1_3, v1_4, v1_5, v1_6, v1_7⟩, v1_8, v1_9⟩ : Gear) (rowP (⟨l0, v2_1, v2_2⟩ : Plan)) 0 (i + 1) = legT0 (⟨v1_0, ⟨v1_1, v1_2, v1_3, v1_4, v1_5, v1_6, v1_7⟩, v1_8, v1_9⟩ : Gear) (rowP (⟨l0, v2_1, v2_2⟩ : Plan)) 0 i + (v1_2 + v1_3 + v1_8 + v1_6) + ((legAt (rowP (⟨l0, v2_1, v2_2⟩ : Plan)) (i + 1) - legAt (rowP (⟨l0, v2_1, v2_2⟩ : Plan)) i).natAbs : Int) * v1_1 := by
      simp only [legT0, legD, legGo, Nat.zero_add, hst]
      omega
    have ih' := ih (i + 1) n (by omega) (by omega)
    rw [hsucc] at ih'
    generalize legAt (rowP (⟨l0, v2_1, v2_2⟩ : Plan)) (i + 1) = bb at *
    generalize legAt (rowP (⟨l0, v2_1, v2_2⟩ : Plan)) i = aa at *
    generalize legT0 (⟨v1_0, ⟨v1_1, v1_2, v1_3, v1_4, v1_5, v1_6, v1_7⟩, v1_8, v1_9⟩ : Gear) (rowP (⟨l0, v2_1, v2_2⟩ : Plan)) 0 i = tt at *
    have hmul : 0 ≤ ((bb - aa).natAbs : Int) * v1_1 ∧ ((bb - aa).natAbs : Int) * v1_1 ≤ 64 * 60 := ⟨Int.mul_nonneg (by omega) (by omega), Int.mul_le_mul (by omega) (by omega) (by omega) (by omega)⟩
    rw [IntWalk.i64_in (bb - aa) (by omega), IntWalk.i64_in (tt + v1_2) (by omega), IntWalk.i64_in (tt + v1_2 + v1_3) (by omega), IntWalk.i64_in (tt + v1_2 + v1_3 + v1_8) (by omega), IntWalk.i64_in (tt + v1_2 + v1_3 + v1_8 + v1_6) (by omega), IntWalk.i64_in (0 - (bb - aa)) (by omega)]
    by_cases hneg : bb - aa < 0
    · have en : decide (bb - aa < 0) = true := by simpa using hneg
      have ea : 0 - (bb - aa) = ((bb - aa).natAbs : Int) := by omega
      rw [en, cond_true, ea, IntWalk.i64_in (((bb - aa).natAbs : Int) * v1_1) (by omega), IntWalk.i64_in _ (by omega)]
      rw [← ih']
      congr 2
      omega
    · have en : decide (bb - aa < 0) = false := by simpa using hneg
      have ea : bb - aa = ((bb - aa).natAbs : Int) := by omega
      rw [en, cond_false]
      rw [show (bb - aa) * v1_1 = ((bb - aa).natAbs : Int) * v1_1 by rw [← ea], IntWalk.i64_in (((bb - aa).natAbs : Int) * v1_1) (by omega), IntWalk.i64_in _ (by omega)]
      rw [← ih']
      congr 2
      omega

theorem main_rlen (l0 : List (Int)) (v1_0 : Int) (v1_1 : Int) (v1_2 : Int) (v1_3 : Int) (v1_4 : Int) (v1_5 : Int) (v1_6 : Int) (v1_7 : Int) (v1_8 : Int) (v1_9 : Int) (v2_1 : Int) (v2_2 : Int) (v5 : Int) (v6 : Int) (hg : (planOk (⟨v1_0, ⟨v1_1, v1_2, v1_3, v1_4, v1_5, v1_6, v1_7⟩, v1_8, v1_9⟩ : Gear) (⟨l0, v2_1, v2_2⟩ : Plan) && (v5 == 0 && v6 == 0)) = true) : ∃ N d, I_rlen N d N (S_rlen l0 v1_0 v1_1 v1_2 v1_3 v1_4 v1_5 v1_6 v1_7 v1_8 v1_9 v2_1 v2_2 v5 v6) = some (altK Prod.mk [] (.exit 0) (X_rlen_0 l0 v1_0 v1_1 v1_2 v1_3 v1_4 v1_5 v1_6 v1_7 v1_8 v1_9 v2_1 v2_2 (lenP (⟨v1_0, ⟨v1_1, v1_2, v1_3, v1_4, v1_5, v1_6, v1_7⟩, v1_8, v1_9⟩ : Gear) (⟨l0, v2_1, v2_2⟩ : Plan)))) := by
  simp only [Bool.and_eq_true, beq_iff_eq] at hg
  obtain ⟨h1, rfl, rfl⟩ := hg
  exact ⟨200, 3, go_rlen l0 v1_0 v1_1 v1_2 v1_3 v1_4 v1_5 v1_6 v1_7 v1_8 v1_9 v2_1 v2_2 0 0 200 0 h1 (rowP (⟨l0, v2_1, v2_2⟩ : Plan)).length 0 200 (by omega) (by
    obtain ⟨_, _, _, h2, h70, _, _, _, _, _, _, hN⟩ := planOk_facts h1
    simp only at hN h2 h70
    omega)⟩

theorem run_newelref22_Length (a0 : Gear) (a1 : Plan) (hg : planOk a0 a1 = true) : ∃ F d, run k58 F d 15 Try.f15 s_newelref22_Length (a0, a1, ()) = some (r_newelref22_Length.enc (lenP a0 a1)) := by
  refine ⟨200, 6, ?_⟩
  rw [tree_newelref22_Length]
  simp only [hg, beqn, ble0, Bool.and_self, Bool.and_true, Bool.true_and, cond_true]
  rfl

theorem stepROk_at {g : Gear} {p : Plan} (h : planOk g p = true) {n : Int} (h0 : 0 ≤ n) (hn : n < lenP g p) : stepROk g p (goingAt g p n) = true ∧ (n + 1 < lenP g p → stepR g p (goingAt g p n) = goingAt g p (n + 1)) := by
  obtain ⟨hp, hs, hG, h2, h70, _, hr, hz, _, p1, p2, hN⟩ := planOk_facts h
  obtain ⟨a1, ⟨a2, a3⟩, a4⟩ := next_at hG hp h2 hr (legAt_floors h2 hr) h0 hn
  refine ⟨?_, a4⟩
  have hf : firstP p < (rowP p).length := firstP_lt p2 (by omega)
  simp only [stepROk, hz, a1, Bool.true_and, Bool.and_true, Bool.and_eq_true, decide_eq_true_eq]
  omega

theorem go_rat (l0 : List (Int)) (v1_0 : Int) (v1_1 : Int) (v1_2 : Int) (v1_3 : Int) (v1_4 : Int) (v1_5 : Int) (v1_6 : Int) (v1_7 : Int) (v1_8 : Int) (v1_9 : Int) (v2_1 : Int) (v2_2 : Int) (v3_0 : Int) (v3_1 : Int) (v3_2 : Int) (v3_3 : Int) (v3_4 : Int) (v3_5 : Int) (v3_6 : Int) (v3_7 : Int) (v3_8 : Int) (v4_0 : Int) (v4_1 : Int) (v4_2 : Int) (v4_3 : Int) (v4_4 : Int) (v4_5 : Int) (v4_6 : Int) (v4_7 : Int) (v4_8 : Int) (v2 : Int) (v8 : Int) (F d : Nat) (hpo : planOk (⟨v1_0, ⟨v1_1, v1_2, v1_3, v1_4, v1_5, v1_6, v1_7⟩, v1_8, v1_9⟩ : Gear) (⟨l0, v2_1, v2_2⟩ : Plan) = true) (hv : v2 < lenP (⟨v1_0, ⟨v1_1, v1_2, v1_3, v1_4, v1_5, v1_6, v1_7⟩, v1_8, v1_9⟩ : Gear) (⟨l0, v2_1, v2_2⟩ : Plan)) : ∀ (m i n : Nat), ((i + m : Nat) : Int) = v2 → m < n →
    I_rat F (d + 3) n (S_rat l0 v1_0 v1_1 v1_2 v1_3 v1_4 v1_5 v1_6 v1_7 v1_8 v1_9 v2_1 v2_2 v3_0 v3_1 v3_2 v3_3 v3_4 v3_5 v3_6 v3_7 v3_8 ((goingAt (⟨v1_0, ⟨v1_1, v1_2, v1_3, v1_4, v1_5, v1_6, v1_7⟩, v1_8, v1_9⟩ : Gear) (⟨l0, v2_1, v2_2⟩ : Plan) ((i : Nat) : Int)).c.floor) ((goingAt (⟨v1_0, ⟨v1_1, v1_2, v1_3, v1_4, v1_5, v1_6, v1_7⟩, v1_8, v1_9⟩ : Gear) (⟨l0, v2_1, v2_2⟩ : Plan) ((i : Nat) : Int)).c.dir) ((goingAt (⟨v1_0, ⟨v1_1, v1_2, v1_3, v1_4, v1_5, v1_6, v1_7⟩, v1_8, v1_9⟩ : Gear) (⟨l0, v2_1, v2_2⟩ : Plan) ((i : Nat) : Int)).c.phase) ((goingAt (⟨v1_0, ⟨v1_1, v1_2, v1_3, v1_4, v1_5, v1_6, v1_7⟩, v1_8, v1_9⟩ : Gear) (⟨l0, v2_1, v2_2⟩ : Plan) ((i : Nat) : Int)).c.left) ((goingAt (⟨v1_0, ⟨v1_1, v1_2, v1_3, v1_4, v1_5, v1_6, v1_7⟩, v1_8, v1_9⟩ : Gear) (⟨l0, v2_1, v2_2⟩ : Plan) ((i : Nat) : Int)).c.door.phase) ((goingAt (⟨v1_0, ⟨v1_1, v1_2, v1_3, v1_4, v1_5, v1_6, v1_7⟩, v1_8, v1_9⟩ : Gear) (⟨l0, v2_1, v2_2⟩ : Plan) ((i : Nat) : Int)).c.door.left) ((goingAt (⟨v1_0, ⟨v1_1, v1_2, v1_3, v1_4, v1_5, v1_6, v1_7⟩, v1_8, v1_9⟩ : Gear) (⟨l0, v2_1, v2_2⟩ : Plan) ((i : Nat) : Int)).c.door.held) ((goingAt (⟨v1_0, ⟨v1_1, v1_2, v1_3, v1_4, v1_5, v1_6, v1_7⟩, v1_8, v1_9⟩ : Gear) (⟨l0, v2_1, v2_2⟩ : Plan) ((i : Nat) : Int)).next) ((goingAt (⟨v1_0, ⟨v1_1, v1_2, v1_3, v1_4, v1_5, v1_6, v1_7⟩, v1_8, v1_9⟩ : Gear) (⟨l0, v2_1, v2_2⟩ : Plan) ((i : Nat) : Int)).cmd) v2 ((i : Nat) : Int)) = some (.exit 0, (X_rat_0 l0 v1_0 v1_1 v1_2 v1_3 v1_4 v1_5 v1_6 v1_7 v1_8 v1_9 v2_1 v2_2 v3_0 v3_1 v3_2 v3_3 v3_4 v3_5 v3_6 v3_7 v3_8 ((goingAt (⟨v1_0, ⟨v1_1, v1_2, v1_3, v1_4, v1_5, v1_6, v1_7⟩, v1_8, v1_9⟩ : Gear) (⟨l0, v2_1, v2_2⟩ : Plan) v2).c.floor) ((goingAt (⟨v1_0, ⟨v1_1, v1_2, v1_3, v1_4, v1_5, v1_6, v1_7⟩, v1_8, v1_9⟩ : Gear) (⟨l0, v2_1, v2_2⟩ : Plan) v2).c.dir) ((goingAt (⟨v1_0, ⟨v1_1, v1_2, v1_3, v1_4, v1_5, v1_6, v1_7⟩, v1_8, v1_9⟩ : Gear) (⟨l0, v2_1, v2_2⟩ : Plan) v2).c.phase) ((goingAt (⟨v1_0, ⟨v1_1, v1_2, v1_3, v1_4, v1_5, v1_6, v1_7⟩, v1_8, v1_9⟩ : Gear) (⟨l0, v2_1, v2_2⟩ : Plan) v2).c.left) ((goingAt (⟨v1_0, ⟨v1_1, v1_2, v1_3, v1_4, v1_5, v1_6, v1_7⟩, v1_8, v1_9⟩ : Gear) (⟨l0, v2_1, v2_2⟩ : Plan) v2).c.door.phase) ((goingAt (⟨v1_0, ⟨v1_1, v1_2, v1_3, v1_4, v1_5, v1_6, v1_7⟩, v1_8, v1_9⟩ : Gear) (⟨l0, v2_1, v2_2⟩ : Plan) v2).c.door.left) ((goingAt (⟨v1_0, ⟨v1_1, v1_2, v1_3, v1_4, v1_5, v1_6, v1_7⟩, v1_8, v1_9⟩ : Gear) (⟨l0, v2_1, v2_2⟩ : Plan) v2).c.door.held) ((goingAt (⟨v1_0, ⟨v1_1, v1_2, v1_3, v1_4, v1_5, v1_6, v1_7⟩, v1_8, v1_9⟩ : Gear) (⟨l0, v2_1, v2_2⟩ : Plan) v2).next) ((goingAt (⟨v1_0, ⟨v1_1, v1_2, v1_3, v1_4, v1_5, v1_6, v1_7⟩, v1_8, v1_9⟩ : Gear) (⟨l0, v2_1, v2_2⟩ : Plan) v2).cmd))) := by
  obtain ⟨hp, hs, hG, h2, h70, _, hr, hz, _, p1, p2, hN⟩ := planOk_facts hpo
  have hb := lenP_bounds hG h2 h70 hr
  intro m
  induction m with
  | zero =>
    intro i n him hn
    obtain ⟨n, rfl⟩ : ∃ k, n = k + 1 := ⟨n - 1, by omega⟩
    rw [step_rat]
    have e : decide (((i : Nat) : Int) < v2) = false := by simp; omega
    rw [e, cond_false]
    have : ((i : Nat) : Int) = v2 := by omega
    rw [this]
  | succ m ih =>
    intro i n him hn
    obtain ⟨n, rfl⟩ : ∃ k, n = k + 1 := ⟨n - 1, by omega⟩
    have e : decide (((i : Nat) : Int) < v2) = true := by simp; omega
    obtain ⟨o1, o2⟩ := stepROk_at hpo (n := ((i : Nat) : Int)) (by omega) (by omega)
    have w : IntKind.wrap IntKind.i64 (((i : Nat) : Int) + 1) = ((i + 1 : Nat) : Int) := by rw [IntWalk.i64_in _ (by omega)]; omega
    have o2 := o2 (by omega)
    rw [show ((i : Nat) : Int) + 1 = ((i + 1 : Nat) : Int) by omega] at o2
    rw [step_rat, e, cond_true]
    change (bif true && (Nat.beq l0.length l0.length && Nat.ble (0 + l0.length) l0.length && true && true) && stepROk (⟨v1_0, ⟨v1_1, v1_2, v1_3, v1_4, v1_5, v1_6, v1_7⟩, v1_8, v1_9⟩ : Gear) (⟨l0, v2_1, v2_2⟩ : Plan) (goingAt (⟨v1_0, ⟨v1_1, v1_2, v1_3, v1_4, v1_5, v1_6, v1_7⟩, v1_8, v1_9⟩ : Gear) (⟨l0, v2_1, v2_2⟩ : Plan) ((i : Nat) : Int)) then I_rat F (d + 3) n (S_rat l0 v1_0 v1_1 v1_2 v1_3 v1_4 v1_5 v1_6 v1_7 v1_8 v1_9 v2_1 v2_2 v3_0 v3_1 v3_2 v3_3 v3_4 v3_5 v3_6 v3_7 v3_8 ((stepR (⟨v1_0, ⟨v1_1, v1_2, v1_3, v1_4, v1_5, v1_6, v1_7⟩, v1_8, v1_9⟩ : Gear) (⟨l0, v2_1, v2_2⟩ : Plan) (goingAt (⟨v1_0, ⟨v1_1, v1_2, v1_3, v1_4, v1_5, v1_6, v1_7⟩, v1_8, v1_9⟩ : Gear) (⟨l0, v2_1, v2_2⟩ : Plan) ((i : Nat) : Int))).c.floor) ((stepR (⟨v1_0, ⟨v1_1, v1_2, v1_3, v1_4, v1_5, v1_6, v1_7⟩, v1_8, v1_9⟩ : Gear) (⟨l0, v2_1, v2_2⟩ : Plan) (goingAt (⟨v1_0, ⟨v1_1, v1_2, v1_3, v1_4, v1_5, v1_6, v1_7⟩, v1_8, v1_9⟩ : Gear) (⟨l0, v2_1, v2_2⟩ : Plan) ((i : Nat) : Int))).c.dir) ((stepR (⟨v1_0, ⟨v1_1, v1_2, v1_3, v1_4, v1_5, v1_6, v1_7⟩, v1_8, v1_9⟩ : Gear) (⟨l0, v2_1, v2_2⟩ : Plan) (goingAt (⟨v1_0, ⟨v1_1, v1_2, v1_3, v1_4, v1_5, v1_6, v1_7⟩, v1_8, v1_9⟩ : Gear) (⟨l0, v2_1, v2_2⟩ : Plan) ((i : Nat) : Int))).c.phase) ((stepR (⟨v1_0, ⟨v1_1, v1_2, v1_3, v1_4, v1_5, v1_6, v1_7⟩, v1_8, v1_9⟩ : Gear) (⟨l0, v2_1, v2_2⟩ : Plan) (goingAt (⟨v1_0, ⟨v1_1, v1_2, v1_3, v1_4, v1_5, v1_6, v1_7⟩, v1_8, v1_9⟩ : Gear) (⟨l0, v2_1, v2_2⟩ : Plan) ((i : Nat) : Int))).c.left) ((stepR (⟨v1_0, ⟨v1_1, v1_2, v1_3, v1_4, v1_5, v1_6, v1_7⟩, v1_8, v1_9⟩ : Gear) (⟨l0, v2_1, v2_2⟩ : Plan) (goingAt (⟨v1_0, ⟨v1_1, v1_2, v1_3, v1_4, v1_5, v1_6, v1_7⟩, v1_8, v1_9⟩ : Gear) (⟨l0, v2_1, v2_2⟩ : Plan) ((i : Nat) : Int))).c.door.phase) ((stepR (⟨v1_0, ⟨v1_1, v1_2, v1_3, v1_4, v1_5, v1_6, v1_7⟩, v1_8, v1_9⟩ : Gear) (⟨l0, v2_1, v2_2⟩ : Plan) (goingAt (⟨v1_0, ⟨v1_1, v1_2, v1_3, v1_4, v1_5, v1_6, v1_7⟩, v1_8, v1_9⟩ : Gear) (⟨l0, v2_1, v2_2⟩ : Plan) ((i : Nat) : Int))).c.door.left) ((stepR (⟨v1_0, ⟨v1_1, v1_2, v1_3, v1_4, v1_5, v1_6, v1_7⟩, v1_8, v1_9⟩ : Gear) (⟨l0, v2_1, v2_2⟩ : Plan) (goingAt (⟨v1_0, ⟨v1_1, v1_2, v1_3, v1_4, v1_5, v1_6, v1_7⟩, v1_8, v1_9⟩ : Gear) (⟨l0, v2_1, v2_2⟩ : Plan) ((i : Nat) : Int))).c.door.held) ((stepR (⟨v1_0, ⟨v1_1, v1_2, v1_3, v1_4, v1_5, v1_6, v1_7⟩, v1_8, v1_9⟩ : Gear) (⟨l0, v2_1, v2_2⟩ : Plan) (goingAt (⟨v1_0, ⟨v1_1, v1_2, v1_3, v1_4, v1_5, v1_6, v1_7⟩, v1_8, v1_9⟩ : Gear) (⟨l0, v2_1, v2_2⟩ : Plan) ((i : Nat) : Int))).next) ((stepR (⟨v1_0, ⟨v1_1, v1_2, v1_3, v1_4, v1_5, v1_6, v1_7⟩, v1_8, v1_9⟩ : Gear) (⟨l0, v2_1, v2_2⟩ : Plan) (goingAt (⟨v1_0, ⟨v1_1, v1_2, v1_3, v1_4, v1_5, v1_6, v1_7⟩, v1_8, v1_9⟩ : Gear) (⟨l0, v2_1, v2_2⟩ : Plan) ((i : Nat) : Int))).cmd) v2 (IntKind.wrap IntKind.i64 (((i : Nat) : Int) + 1))) else none) = _
    rw [o1, o2, w]
    simp only [beqn, ble0, Bool.and_self, cond_true]
    exact ih (i + 1) n (by omega) (by omega)

theorem main_rat (l0 : List (Int)) (v1_0 : Int) (v1_1 : Int) (v1_2 : Int) (v1_3 : Int) (v1_4 : Int) (v1_5 : Int) (v1_6 : Int) (v1_7 : Int) (v1_8 : Int) (v1_9 : Int) (v2_1 : Int) (v2_2 : Int) (v3_0 : Int) (v3_1 : Int) (v3_2 : Int) (v3_3 : Int) (v3_4 : Int) (v3_5 : Int) (v3_6 : Int) (v3_7 : Int) (v3_8 : Int) (v4_0 : Int) (v4_1 : Int) (v4_2 : Int) (v4_3 : Int) (v4_4 : Int) (v4_5 : Int) (v4_6 : Int) (v4_7 : Int) (v4_8 : Int) (v2 : Int) (v8 : Int) (hg : (atOk (⟨v1_0, ⟨v1_1, v1_2, v1_3, v1_4, v1_5, v1_6, v1_7⟩, v1_8, v1_9⟩ : Gear) (⟨l0, v2_1, v2_2⟩ : Plan) v2 && (v8 == 0 && decide ((⟨⟨v4_0, v4_1, v4_2, v4_3, ⟨v4_4, v4_5, v4_6⟩⟩, v4_7, v4_8⟩ : Going) = beginR (⟨l0, v2_1, v2_2⟩ : Plan)))) = true) : ∃ N d, I_rat N d N (S_rat l0 v1_0 v1_1 v1_2 v1_3 v1_4 v1_5 v1_6 v1_7 v1_8 v1_9 v2_1 v2_2 v3_0 v3_1 v3_2 v3_3 v3_4 v3_5 v3_6 v3_7 v3_8 v4_0 v4_1 v4_2 v4_3 v4_4 v4_5 v4_6 v4_7 v4_8 v2 v8) = some (altK Prod.mk [] (.exit 0) (X_rat_0 l0 v1_0 v1_1 v1_2 v1_3 v1_4 v1_5 v1_6 v1_7 v1_8 v1_9 v2_1 v2_2 v3_0 v3_1 v3_2 v3_3 v3_4 v3_5 v3_6 v3_7 v3_8 ((goingAt (⟨v1_0, ⟨v1_1, v1_2, v1_3, v1_4, v1_5, v1_6, v1_7⟩, v1_8, v1_9⟩ : Gear) (⟨l0, v2_1, v2_2⟩ : Plan) v2).c.floor) ((goingAt (⟨v1_0, ⟨v1_1, v1_2, v1_3, v1_4, v1_5, v1_6, v1_7⟩, v1_8, v1_9⟩ : Gear) (⟨l0, v2_1, v2_2⟩ : Plan) v2).c.dir) ((goingAt (⟨v1_0, ⟨v1_1, v1_2, v1_3, v1_4, v1_5, v1_6, v1_7⟩, v1_8, v1_9⟩ : Gear) (⟨l0, v2_1, v2_2⟩ : Plan) v2).c.phase) ((goingAt (⟨v1_0, ⟨v1_1, v1_2, v1_3, v1_4, v1_5, v1_6, v1_7⟩, v1_8, v1_9⟩ : Gear) (⟨l0, v2_1, v2_2⟩ : Plan) v2).c.left) ((goingAt (⟨v1_0, ⟨v1_1, v1_2, v1_3, v1_4, v1_5, v1_6, v1_7⟩, v1_8, v1_9⟩ : Gear) (⟨l0, v2_1, v2_2⟩ : Plan) v2).c.door.phase) ((goingAt (⟨v1_0, ⟨v1_1, v1_2, v1_3, v1_4, v1_5, v1_6, v1_7⟩, v1_8, v1_9⟩ : Gear) (⟨l0, v2_1, v2_2⟩ : Plan) v2).c.door.left) ((goingAt (⟨v1_0, ⟨v1_1, v1_2, v1_3, v1_4, v1_5, v1_6, v1_7⟩, v1_8, v1_9⟩ : Gear) (⟨l0, v2_1, v2_2⟩ : Plan) v2).c.door.held) ((goingAt (⟨v1_0, ⟨v1_1, v1_2, v1_3, v1_4, v1_5, v1_6, v1_7⟩, v1_8, v1_9⟩ : Gear) (⟨l0, v2_1, v2_2⟩ : Plan) v2).next) ((goingAt (⟨v1_0, ⟨v1_1, v1_2, v1_3, v1_4, v1_5, v1_6, v1_7⟩, v1_8, v1_9⟩ : Gear) (⟨l0, v2_1, v2_2⟩ : Plan) v2).cmd))) := by
  simp only [atOk, Bool.and_eq_true, decide_eq_true_eq, beq_iff_eq] at hg
  obtain ⟨⟨h1, h2, h3⟩, rfl, h4⟩ := hg
  obtain ⟨hp, hs, hG, hh2, h70, _, hr, hz, _, p1, p2, hN⟩ := planOk_facts h1
  have h5 := (begin_at hG hp hh2).resolve_right (by omega)
  rw [h5] at h4
  have := go_rat l0 v1_0 v1_1 v1_2 v1_3 v1_4 v1_5 v1_6 v1_7 v1_8 v1_9 v2_1 v2_2 v3_0 v3_1 v3_2 v3_3 v3_4 v3_5 v3_6 v3_7 v3_8 v4_0 v4_1 v4_2 v4_3 v4_4 v4_5 v4_6 v4_7 v4_8 v2 0 (v2.toNat + 3) 0 h1 h3 v2.toNat 0 (v2.toNat + 3) (by omega) (by omega)
  refine ⟨v2.toNat + 3, 3, ?_⟩
  have e0 : goingAt (⟨v1_0, ⟨v1_1, v1_2, v1_3, v1_4, v1_5, v1_6, v1_7⟩, v1_8, v1_9⟩ : Gear) (⟨l0, v2_1, v2_2⟩ : Plan) ((0 : Nat) : Int) = ⟨⟨v4_0, v4_1, v4_2, v4_3, ⟨v4_4, v4_5, v4_6⟩⟩, v4_7, v4_8⟩ := by
    rw [show ((0 : Nat) : Int) = 0 from rfl]
    exact h4.symm
  rw [e0] at this
  exact this

theorem run_newelref22_At (a0 : Gear) (a1 : Plan) (a2 : Int) (hg : atOk a0 a1 a2 = true) : ∃ F d, run k60 F d 16 Try.f16 s_newelref22_At (a0, a1, a2, ()) = some (r_newelref22_At.enc (goingAt a0 a1 a2)) := by
  refine ⟨200, 6, ?_⟩
  rw [tree_newelref22_At]
  have hg' := hg
  simp only [atOk, Bool.and_eq_true] at hg'
  obtain ⟨_, _, _, _, _, _, _, _, hpl, _⟩ := planOk_facts hg'.1
  have e : decide ((⟨⟨legAt (rowP a1) (placeP a1 a1.car).toNat, 0, 0, 0, ⟨0, 0, 0⟩⟩, placeP a1 a1.car, 3⟩ : Going) = beginR a1) = true := decide_eq_true rfl
  rw [e]
  simp only [hg, hpl, beqn, ble0, Bool.and_self, Bool.and_true, Bool.true_and, cond_true]
  rfl

theorem go_rshift (l0 : List (Int)) (v1_0 : Int) (v1_1 : Int) (v1_2 : Int) (v1_3 : Int) (v1_4 : Int) (v1_5 : Int) (v1_6 : Int) (v1_7 : Int) (v1_8 : Int) (v1_9 : Int) (v2_1 : Int) (v2_2 : Int) (v3_0 : Int) (v3_1 : Int) (v3_2 : Int) (v3_3 : Int) (v3_4 : Int) (v3_5 : Int) (v3_6 : Int) (v3_7 : Int) (v3_8 : Int) (v5 : Int) (v7 : Int) (F d to : Nat) (hpo : planOk (⟨v1_0, ⟨v1_1, v1_2, v1_3, v1_4, v1_5, v1_6, v1_7⟩, v1_8, v1_9⟩ : Gear) (⟨l0, v2_1, v2_2⟩ : Plan) = true) (h0 : v2_2 = 0) (hto : to < (rowP (⟨l0, v2_1, v2_2⟩ : Plan)).length) : ∀ (m i n : Nat), ((i + m : Nat) : Int) = legT0 (⟨v1_0, ⟨v1_1, v1_2, v1_3, v1_4, v1_5, v1_6, v1_7⟩, v1_8, v1_9⟩ : Gear) (rowP (⟨l0, v2_1, v2_2⟩ : Plan)) 0 to → m < n →
    I_rshift F (d + 3) n (S_rshift l0 v1_0 v1_1 v1_2 v1_3 v1_4 v1_5 v1_6 v1_7 v1_8 v1_9 v2_1 v2_2 ((goingAt (⟨v1_0, ⟨v1_1, v1_2, v1_3, v1_4, v1_5, v1_6, v1_7⟩, v1_8, v1_9⟩ : Gear) (⟨l0, v2_1, v2_2⟩ : Plan) ((i : Nat) : Int)).c.floor) ((goingAt (⟨v1_0, ⟨v1_1, v1_2, v1_3, v1_4, v1_5, v1_6, v1_7⟩, v1_8, v1_9⟩ : Gear) (⟨l0, v2_1, v2_2⟩ : Plan) ((i : Nat) : Int)).c.dir) ((goingAt (⟨v1_0, ⟨v1_1, v1_2, v1_3, v1_4, v1_5, v1_6, v1_7⟩, v1_8, v1_9⟩ : Gear) (⟨l0, v2_1, v2_2⟩ : Plan) ((i : Nat) : Int)).c.phase) ((goingAt (⟨v1_0, ⟨v1_1, v1_2, v1_3, v1_4, v1_5, v1_6, v1_7⟩, v1_8, v1_9⟩ : Gear) (⟨l0, v2_1, v2_2⟩ : Plan) ((i : Nat) : Int)).c.left) ((goingAt (⟨v1_0, ⟨v1_1, v1_2, v1_3, v1_4, v1_5, v1_6, v1_7⟩, v1_8, v1_9⟩ : Gear) (⟨l0, v2_1, v2_2⟩ : Plan) ((i : Nat) : Int)).c.door.phase) ((goingAt (⟨v1_0, ⟨v1_1, v1_2, v1_3, v1_4, v1_5, v1_6, v1_7⟩, v1_8, v1_9⟩ : Gear) (⟨l0, v2_1, v2_2⟩ : Plan) ((i : Nat) : Int)).c.door.left) ((goingAt (⟨v1_0, ⟨v1_1, v1_2, v1_3, v1_4, v1_5, v1_6, v1_7⟩, v1_8, v1_9⟩ : Gear) (⟨l0, v2_1, v2_2⟩ : Plan) ((i : Nat) : Int)).c.door.held) ((goingAt (⟨v1_0, ⟨v1_1, v1_2, v1_3, v1_4, v1_5, v1_6, v1_7⟩, v1_8, v1_9⟩ : Gear) (⟨l0, v2_1, v2_2⟩ : Plan) ((i : Nat) : Int)).next) ((goingAt (⟨v1_0, ⟨v1_1, v1_2, v1_3, v1_4, v1_5, v1_6, v1_7⟩, v1_8, v1_9⟩ : Gear) (⟨l0, v2_1, v2_2⟩ : Plan) ((i : Nat) : Int)).cmd) ((to : Nat) : Int) ((i : Nat) : Int)) = some (.exit 0, (X_rshift_0 l0 v1_0 v1_1 v1_2 v1_3 v1_4 v1_5 v1_6 v1_7 v1_8 v1_9 v2_1 v2_2 ((goingAt (⟨v1_0, ⟨v1_1, v1_2, v1_3, v1_4, v1_5, v1_6, v1_7⟩, v1_8, v1_9⟩ : Gear) (⟨l0, v2_1, v2_2⟩ : Plan) (legT0 (⟨v1_0, ⟨v1_1, v1_2, v1_3, v1_4, v1_5, v1_6, v1_7⟩, v1_8, v1_9⟩ : Gear) (rowP (⟨l0, v2_1, v2_2⟩ : Plan)) 0 to)).c.floor) ((goingAt (⟨v1_0, ⟨v1_1, v1_2, v1_3, v1_4, v1_5, v1_6, v1_7⟩, v1_8, v1_9⟩ : Gear) (⟨l0, v2_1, v2_2⟩ : Plan) (legT0 (⟨v1_0, ⟨v1_1, v1_2, v1_3, v1_4, v1_5, v1_6, v1_7⟩, v1_8, v1_9⟩ : Gear) (rowP (⟨l0, v2_1, v2_2⟩ : Plan)) 0 to)).c.dir) ((goingAt (⟨v1_0, ⟨v1_1, v1_2, v1_3, v1_4, v1_5, v1_6, v1_7⟩, v1_8, v1_9⟩ : Gear) (⟨l0, v2_1, v2_2⟩ : Plan) (legT0 (⟨v1_0, ⟨v1_1, v1_2, v1_3, v1_4, v1_5, v1_6, v1_7⟩, v1_8, v1_9⟩ : Gear) (rowP (⟨l0, v2_1, v2_2⟩ : Plan)) 0 to)).c.phase) ((goingAt (⟨v1_0, ⟨v1_1, v1_2, v1_3, v1_4, v1_5, v1_6, v1_7⟩, v1_8, v1_9⟩ : Gear) (⟨l0, v2_1, v2_2⟩ : Plan) (legT0 (⟨v1_0, ⟨v1_1, v1_2, v1_3, v1_4, v1_5, v1_6, v1_7⟩, v1_8, v1_9⟩ : Gear) (rowP (⟨l0, v2_1, v2_2⟩ : Plan)) 0 to)).c.left) ((goingAt (⟨v1_0, ⟨v1_1, v1_2, v1_3, v1_4, v1_5, v1_6, v1_7⟩, v1_8, v1_9⟩ : Gear) (⟨l0, v2_1, v2_2⟩ : Plan) (legT0 (⟨v1_0, ⟨v1_1, v1_2, v1_3, v1_4, v1_5, v1_6, v1_7⟩, v1_8, v1_9⟩ : Gear) (rowP (⟨l0, v2_1, v2_2⟩ : Plan)) 0 to)).c.door.phase) ((goingAt (⟨v1_0, ⟨v1_1, v1_2, v1_3, v1_4, v1_5, v1_6, v1_7⟩, v1_8, v1_9⟩ : Gear) (⟨l0, v2_1, v2_2⟩ : Plan) (legT0 (⟨v1_0, ⟨v1_1, v1_2, v1_3, v1_4, v1_5, v1_6, v1_7⟩, v1_8, v1_9⟩ : Gear) (rowP (⟨l0, v2_1, v2_2⟩ : Plan)) 0 to)).c.door.left) ((goingAt (⟨v1_0, ⟨v1_1, v1_2, v1_3, v1_4, v1_5, v1_6, v1_7⟩, v1_8, v1_9⟩ : Gear) (⟨l0, v2_1, v2_2⟩ : Plan) (legT0 (⟨v1_0, ⟨v1_1, v1_2, v1_3, v1_4, v1_5, v1_6, v1_7⟩, v1_8, v1_9⟩ : Gear) (rowP (⟨l0, v2_1, v2_2⟩ : Plan)) 0 to)).c.door.held) ((goingAt (⟨v1_0, ⟨v1_1, v1_2, v1_3, v1_4, v1_5, v1_6, v1_7⟩, v1_8, v1_9⟩ : Gear) (⟨l0, v2_1, v2_2⟩ : Plan) (legT0 (⟨v1_0, ⟨v1_1, v1_2, v1_3, v1_4, v1_5, v1_6, v1_7⟩, v1_8, v1_9⟩ : Gear) (rowP (⟨l0, v2_1, v2_2⟩ : Plan)) 0 to)).next) ((goingAt (⟨v1_0, ⟨v1_1, v1_2, v1_3, v1_4, v1_5, v1_6, v1_7⟩, v1_8, v1_9⟩ : Gear) (⟨l0, v2_1, v2_2⟩ : Plan) (legT0 (⟨v1_0, ⟨v1_1, v1_2, v1_3, v1_4, v1_5, v1_6, v1_7⟩, v1_8, v1_9⟩ : Gear) (rowP (⟨l0, v2_1, v2_2⟩ : Plan)) 0 to)).cmd) (legT0 (⟨v1_0, ⟨v1_1, v1_2, v1_3, v1_4, v1_5, v1_6, v1_7⟩, v1_8, v1_9⟩ : Gear) (rowP (⟨l0, v2_1, v2_2⟩ : Plan)) 0 to))) := by
  obtain ⟨hp, hs, hG, h2, h70, _, hr, hz, _, p1, p2, hN⟩ := planOk_facts hpo
  have hb := lenP_bounds hG h2 h70 hr
  have hf : firstP (⟨l0, v2_1, v2_2⟩ : Plan) = 0 := by subst h0; simp [firstP, placeP]
  intro m
  induction m with
  | zero =>
    intro i n him hn
    obtain ⟨n, rfl⟩ : ∃ k, n = k + 1 := ⟨n - 1, by omega⟩
    obtain ⟨s1, s2⟩ := shift_at hG hp h2 hr hf hto (n := ((i : Nat) : Int)) (by omega) (by omega)
    have e : decide (((i : Nat) : Int) < legT0 (⟨v1_0, ⟨v1_1, v1_2, v1_3, v1_4, v1_5, v1_6, v1_7⟩, v1_8, v1_9⟩ : Gear) (rowP (⟨l0, v2_1, v2_2⟩ : Plan)) 0 to) = false := by simp; omega
    rw [e] at s1
    rw [step_rshift]
    rw [show (bif decide ((goingAt (⟨v1_0, ⟨v1_1, v1_2, v1_3, v1_4, v1_5, v1_6, v1_7⟩, v1_8, v1_9⟩ : Gear) (⟨l0, v2_1, v2_2⟩ : Plan) ((i : Nat) : Int)).next < ((to : Nat) : Int)) then true else (goingAt (⟨v1_0, ⟨v1_1, v1_2, v1_3, v1_4, v1_5, v1_6, v1_7⟩, v1_8, v1_9⟩ : Gear) (⟨l0, v2_1, v2_2⟩ : Plan) ((i : Nat) : Int)).cmd != 3) = false by rw [← s1]; cases decide ((goingAt (⟨v1_0, ⟨v1_1, v1_2, v1_3, v1_4, v1_5, v1_6, v1_7⟩, v1_8, v1_9⟩ : Gear) (⟨l0, v2_1, v2_2⟩ : Plan) ((i : Nat) : Int)).next < ((to : Nat) : Int)) <;> rfl]
    rw [cond_false]
    have : ((i : Nat) : Int) = legT0 (⟨v1_0, ⟨v1_1, v1_2, v1_3, v1_4, v1_5, v1_6, v1_7⟩, v1_8, v1_9⟩ : Gear) (rowP (⟨l0, v2_1, v2_2⟩ : Plan)) 0 to := by omega
    rw [this]
  | succ m ih =>
    intro i n him hn
    obtain ⟨n, rfl⟩ : ∃ k, n = k + 1 := ⟨n - 1, by omega⟩
    obtain ⟨s1, s2⟩ := shift_at hG hp h2 hr hf hto (n := ((i : Nat) : Int)) (by omega) (by omega)
    obtain ⟨_, s3⟩ := shift_at hG hp h2 hr hf hto (n := ((i + 1 : Nat) : Int)) (by omega) (by omega)
    have e : decide (((i : Nat) : Int) < legT0 (⟨v1_0, ⟨v1_1, v1_2, v1_3, v1_4, v1_5, v1_6, v1_7⟩, v1_8, v1_9⟩ : Gear) (rowP (⟨l0, v2_1, v2_2⟩ : Plan)) 0 to) = true := by simp; omega
    rw [e] at s1
    obtain ⟨o1, o2⟩ := stepROk_at hpo (n := ((i : Nat) : Int)) (by omega) s2
    have w : IntKind.wrap IntKind.i64 (((i : Nat) : Int) + 1) = ((i + 1 : Nat) : Int) := by rw [IntWalk.i64_in _ (by omega)]; omega
    have o2 := o2 (by omega)
    rw [show ((i : Nat) : Int) + 1 = ((i + 1 : Nat) : Int) by omega] at o2
    rw [step_rshift]
    rw [show (bif decide ((goingAt (⟨v1_0, ⟨v1_1, v1_2, v1_3, v1_4, v1_5, v1_6, v1_7⟩, v1_8, v1_9⟩ : Gear) (⟨l0, v2_1, v2_2⟩ : Plan) ((i : Nat) : Int)).next < ((to : Nat) : Int)) then true else (goingAt (⟨v1_0, ⟨v1_1, v1_2, v1_3, v1_4, v1_5, v1_6, v1_7⟩, v1_8, v1_9⟩ : Gear) (⟨l0, v2_1, v2_2⟩ : Plan) ((i : Nat) : Int)).cmd != 3) = true by rw [← s1]; cases decide ((goingAt (⟨v1_0, ⟨v1_1, v1_2, v1_3, v1_4, v1_5, v1_6, v1_7⟩, v1_8, v1_9⟩ : Gear) (⟨l0, v2_1, v2_2⟩ : Plan) ((i : Nat) : Int)).next < ((to : Nat) : Int)) <;> rfl]
    rw [cond_true]
    change (bif true && (Nat.beq l0.length l0.length && Nat.ble (0 + l0.length) l0.length && true && true) && stepROk (⟨v1_0, ⟨v1_1, v1_2, v1_3, v1_4, v1_5, v1_6, v1_7⟩, v1_8, v1_9⟩ : Gear) (⟨l0, v2_1, v2_2⟩ : Plan) (goingAt (⟨v1_0, ⟨v1_1, v1_2, v1_3, v1_4, v1_5, v1_6, v1_7⟩, v1_8, v1_9⟩ : Gear) (⟨l0, v2_1, v2_2⟩ : Plan) ((i : Nat) : Int)) then I_rshift F (d + 3) n (S_rshift l0 v1_0 v1_1 v1_2 v1_3 v1_4 v1_5 v1_6 v1_7 v1_8 v1_9 v2_1 v2_2 ((stepR (⟨v1_0, ⟨v1_1, v1_2, v1_3, v1_4, v1_5, v1_6, v1_7⟩, v1_8, v1_9⟩ : Gear) (⟨l0, v2_1, v2_2⟩ : Plan) (goingAt (⟨v1_0, ⟨v1_1, v1_2, v1_3, v1_4, v1_5, v1_6, v1_7⟩, v1_8, v1_9⟩ : Gear) (⟨l0, v2_1, v2_2⟩ : Plan) ((i : Nat) : Int))).c.floor) ((stepR (⟨v1_0, ⟨v1_1, v1_2, v1_3, v1_4, v1_5, v1_6, v1_7⟩, v1_8, v1_9⟩ : Gear) (⟨l0, v2_1, v2_2⟩ : Plan) (goingAt (⟨v1_0, ⟨v1_1, v1_2, v1_3, v1_4, v1_5, v1_6, v1_7⟩, v1_8, v1_9⟩ : Gear) (⟨l0, v2_1, v2_2⟩ : Plan) ((i : Nat) : Int))).c.dir) ((stepR (⟨v1_0, ⟨v1_1, v1_2, v1_3, v1_4, v1_5, v1_6, v1_7⟩, v1_8, v1_9⟩ : Gear) (⟨l0, v2_1, v2_2⟩ : Plan) (goingAt (⟨v1_0, ⟨v1_1, v1_2, v1_3, v1_4, v1_5, v1_6, v1_7⟩, v1_8, v1_9⟩ : Gear) (⟨l0, v2_1, v2_2⟩ : Plan) ((i : Nat) : Int))).c.phase) ((stepR (⟨v1_0, ⟨v1_1, v1_2, v1_3, v1_4, v1_5, v1_6, v1_7⟩, v1_8, v1_9⟩ : Gear) (⟨l0, v2_1, v2_2⟩ : Plan) (goingAt (⟨v1_0, ⟨v1_1, v1_2, v1_3, v1_4, v1_5, v1_6, v1_7⟩, v1_8, v1_9⟩ : Gear) (⟨l0, v2_1, v2_2⟩ : Plan) ((i : Nat) : Int))).c.left) ((stepR (⟨v1_0, ⟨v1_1, v1_2, v1_3, v1_4, v1_5, v1_6, v1_7⟩, v1_8, v1_9⟩ : Gear) (⟨l0, v2_1, v2_2⟩ : Plan) (goingAt (⟨v1_0, ⟨v1_1, v1_2, v1_3, v1_4, v1_5, v1_6, v1_7⟩, v1_8, v1_9⟩ : Gear) (⟨l0, v2_1, v2_2⟩ : Plan) ((i : Nat) : Int))).c.door.phase) ((stepR (⟨v1_0, ⟨v1_1, v1_2, v1_3, v1_4, v1_5, v1_6, v1_7⟩, v1_8, v1_9⟩ : Gear) (⟨l0, v2_1, v2_2⟩ : Plan) (goingAt (⟨v1_0, ⟨v1_1, v1_2, v1_3, v1_4, v1_5, v1_6, v1_7⟩, v1_8, v1_9⟩ : Gear) (⟨l0, v2_1, v2_2⟩ : Plan) ((i : Nat) : Int))).c.door.left) ((stepR (⟨v1_0, ⟨v1_1, v1_2, v1_3, v1_4, v1_5, v1_6, v1_7⟩, v1_8, v1_9⟩ : Gear) (⟨l0, v2_1, v2_2⟩ : Plan) (goingAt (⟨v1_0, ⟨v1_1, v1_2, v1_3, v1_4, v1_5, v1_6, v1_7⟩, v1_8, v1_9⟩ : Gear) (⟨l0, v2_1, v2_2⟩ : Plan) ((i : Nat) : Int))).c.door.held) ((stepR (⟨v1_0, ⟨v1_1, v1_2, v1_3, v1_4, v1_5, v1_6, v1_7⟩, v1_8, v1_9⟩ : Gear) (⟨l0, v2_1, v2_2⟩ : Plan) (goingAt (⟨v1_0, ⟨v1_1, v1_2, v1_3, v1_4, v1_5, v1_6, v1_7⟩, v1_8, v1_9⟩ : Gear) (⟨l0, v2_1, v2_2⟩ : Plan) ((i : Nat) : Int))).next) ((stepR (⟨v1_0, ⟨v1_1, v1_2, v1_3, v1_4, v1_5, v1_6, v1_7⟩, v1_8, v1_9⟩ : Gear) (⟨l0, v2_1, v2_2⟩ : Plan) (goingAt (⟨v1_0, ⟨v1_1, v1_2, v1_3, v1_4, v1_5, v1_6, v1_7⟩, v1_8, v1_9⟩ : Gear) (⟨l0, v2_1, v2_2⟩ : Plan) ((i : Nat) : Int))).cmd) ((to : Nat) : Int) (IntKind.wrap IntKind.i64 (((i : Nat) : Int) + 1))) else none) = _
    rw [o1, o2, w]
    simp only [beqn, ble0, Bool.and_self, cond_true]
    exact ih (i + 1) n (by omega) (by omega)

theorem main_rshift (l0 : List (Int)) (v1_0 : Int) (v1_1 : Int) (v1_2 : Int) (v1_3 : Int) (v1_4 : Int) (v1_5 : Int) (v1_6 : Int) (v1_7 : Int) (v1_8 : Int) (v1_9 : Int) (v2_1 : Int) (v2_2 : Int) (v3_0 : Int) (v3_1 : Int) (v3_2 : Int) (v3_3 : Int) (v3_4 : Int) (v3_5 : Int) (v3_6 : Int) (v3_7 : Int) (v3_8 : Int) (v5 : Int) (v7 : Int) (hg : (planOk (⟨v1_0, ⟨v1_1, v1_2, v1_3, v1_4, v1_5, v1_6, v1_7⟩, v1_8, v1_9⟩ : Gear) (⟨l0, v2_1, v2_2⟩ : Plan) && (v2_2 == 0 && (decide (0 ≤ v5) && (decide (v5 < ((rowP (⟨l0, v2_1, v2_2⟩ : Plan)).length : Int)) && (v7 == 0 && decide ((⟨⟨v3_0, v3_1, v3_2, v3_3, ⟨v3_4, v3_5, v3_6⟩⟩, v3_7, v3_8⟩ : Going) = beginR (⟨l0, v2_1, v2_2⟩ : Plan))))))) = true) : ∃ N d, I_rshift N d N (S_rshift l0 v1_0 v1_1 v1_2 v1_3 v1_4 v1_5 v1_6 v1_7 v1_8 v1_9 v2_1 v2_2 v3_0 v3_1 v3_2 v3_3 v3_4 v3_5 v3_6 v3_7 v3_8 v5 v7) = some (altK Prod.mk [] (.exit 0) (X_rshift_0 l0 v1_0 v1_1 v1_2 v1_3 v1_4 v1_5 v1_6 v1_7 v1_8 v1_9 v2_1 v2_2 ((goingAt (⟨v1_0, ⟨v1_1, v1_2, v1_3, v1_4, v1_5, v1_6, v1_7⟩, v1_8, v1_9⟩ : Gear) (⟨l0, v2_1, v2_2⟩ : Plan) (legT0 (⟨v1_0, ⟨v1_1, v1_2, v1_3, v1_4, v1_5, v1_6, v1_7⟩, v1_8, v1_9⟩ : Gear) (rowP (⟨l0, v2_1, v2_2⟩ : Plan)) 0 v5.toNat)).c.floor) ((goingAt (⟨v1_0, ⟨v1_1, v1_2, v1_3, v1_4, v1_5, v1_6, v1_7⟩, v1_8, v1_9⟩ : Gear) (⟨l0, v2_1, v2_2⟩ : Plan) (legT0 (⟨v1_0, ⟨v1_1, v1_2, v1_3, v1_4, v1_5, v1_6, v1_7⟩, v1_8, v1_9⟩ : Gear) (rowP (⟨l0, v2_1, v2_2⟩ : Plan)) 0 v5.toNat)).c.dir) ((goingAt (⟨v1_0, ⟨v1_1, v1_2, v1_3, v1_4, v1_5, v1_6, v1_7⟩, v1_8, v1_9⟩ : Gear) (⟨l0, v2_1, v2_2⟩ : Plan) (legT0 (⟨v1_0, ⟨v1_1, v1_2, v1_3, v1_4, v1_5, v1_6, v1_7⟩, v1_8, v1_9⟩ : Gear) (rowP (⟨l0, v2_1, v2_2⟩ : Plan)) 0 v5.toNat)).c.phase) ((goingAt (⟨v1_0, ⟨v1_1, v1_2, v1_3, v1_4, v1_5, v1_6, v1_7⟩, v1_8, v1_9⟩ : Gear) (⟨l0, v2_1, v2_2⟩ : Plan) (legT0 (⟨v1_0, ⟨v1_1, v1_2, v1_3, v1_4, v1_5, v1_6, v1_7⟩, v1_8, v1_9⟩ : Gear) (rowP (⟨l0, v2_1, v2_2⟩ : Plan)) 0 v5.toNat)).c.left) ((goingAt (⟨v1_0, ⟨v1_1, v1_2, v1_3, v1_4, v1_5, v1_6, v1_7⟩, v1_8, v1_9⟩ : Gear) (⟨l0, v2_1, v2_2⟩ : Plan) (legT0 (⟨v1_0, ⟨v1_1, v1_2, v1_3, v1_4, v1_5, v1_6, v1_7⟩, v1_8, v1_9⟩ : Gear) (rowP (⟨l0, v2_1, v2_2⟩ : Plan)) 0 v5.toNat)).c.door.phase) ((goingAt (⟨v1_0, ⟨v1_1, v1_2, v1_3, v1_4, v1_5, v1_6, v1_7⟩, v1_8, v1_9⟩ : Gear) (⟨l0, v2_1, v2_2⟩ : Plan) (legT0 (⟨v1_0, ⟨v1_1, v1_2, v1_3, v1_4, v1_5, v1_6, v1_7⟩, v1_8, v1_9⟩ : Gear) (rowP (⟨l0, v2_1, v2_2⟩ : Plan)) 0 v5.toNat)).c.door.left) ((goingAt (⟨v1_0, ⟨v1_1, v1_2, v1_3, v1_4, v1_5, v1_6, v1_7⟩, v1_8, v1_9⟩ : Gear) (⟨l0, v2_1, v2_2⟩ : Plan) (legT0 (⟨v1_0, ⟨v1_1, v1_2, v1_3, v1_4, v1_5, v1_6, v1_7⟩, v1_8, v1_9⟩ : Gear) (rowP (⟨l0, v2_1, v2_2⟩ : Plan)) 0 v5.toNat)).c.door.held) ((goingAt (⟨v1_0, ⟨v1_1, v1_2, v1_3, v1_4, v1_5, v1_6, v1_7⟩, v1_8, v1_9⟩ : Gear) (⟨l0, v2_1, v2_2⟩ : Plan) (legT0 (⟨v1_0, ⟨v1_1, v1_2, v1_3, v1_4, v1_5, v1_6, v1_7⟩, v1_8, v1_9⟩ : Gear) (rowP (⟨l0, v2_1, v2_2⟩ : Plan)) 0 v5.toNat)).next) ((goingAt (⟨v1_0, ⟨v1_1, v1_2, v1_3, v1_4, v1_5, v1_6, v1_7⟩, v1_8, v1_9⟩ : Gear) (⟨l0, v2_1, v2_2⟩ : Plan) (legT0 (⟨v1_0, ⟨v1_1, v1_2, v1_3, v1_4, v1_5, v1_6, v1_7⟩, v1_8, v1_9⟩ : Gear) (rowP (⟨l0, v2_1, v2_2⟩ : Plan)) 0 v5.toNat)).cmd) (legT0 (⟨v1_0, ⟨v1_1, v1_2, v1_3, v1_4, v1_5, v1_6, v1_7⟩, v1_8, v1_9⟩ : Gear) (rowP (⟨l0, v2_1, v2_2⟩ : Plan)) 0 v5.toNat))) := by
  simp only [Bool.and_eq_true, decide_eq_true_eq, beq_iff_eq] at hg
  obtain ⟨h1, h2, h3, h4, rfl, h6⟩ := hg
  obtain ⟨hp, hs, hG, hh2, h70, _, hr, hz, _, p1, p2, hN⟩ := planOk_facts h1
  have h5 := (begin_at hG hp hh2).resolve_right (by omega)
  rw [h5] at h6
  obtain ⟨to, rfl⟩ : ∃ to : Nat, v5 = (to : Int) := ⟨v5.toNat, by omega⟩
  have hto : to < (rowP (⟨l0, v2_1, v2_2⟩ : Plan)).length := by omega
  have T0 := legT0_mono (g := (⟨v1_0, ⟨v1_1, v1_2, v1_3, v1_4, v1_5, v1_6, v1_7⟩, v1_8, v1_9⟩ : Gear)) (L := rowP (⟨l0, v2_1, v2_2⟩ : Plan)) (f := 0) (by have := (stopG_pos hG).1; omega) (by have := (stopG_pos hG).2.2.1; simp only at this ⊢; omega) (show 0 ≤ to by omega)
  have T00 : legT0 (⟨v1_0, ⟨v1_1, v1_2, v1_3, v1_4, v1_5, v1_6, v1_7⟩, v1_8, v1_9⟩ : Gear) (rowP (⟨l0, v2_1, v2_2⟩ : Plan)) 0 0 = 0 := rfl
  rw [T00] at T0
  obtain ⟨m, hm⟩ : ∃ m : Nat, ((m : Nat) : Int) = legT0 (⟨v1_0, ⟨v1_1, v1_2, v1_3, v1_4, v1_5, v1_6, v1_7⟩, v1_8, v1_9⟩ : Gear) (rowP (⟨l0, v2_1, v2_2⟩ : Plan)) 0 to := ⟨(legT0 (⟨v1_0, ⟨v1_1, v1_2, v1_3, v1_4, v1_5, v1_6, v1_7⟩, v1_8, v1_9⟩ : Gear) (rowP (⟨l0, v2_1, v2_2⟩ : Plan)) 0 to).toNat, by omega⟩
  have := go_rshift l0 v1_0 v1_1 v1_2 v1_3 v1_4 v1_5 v1_6 v1_7 v1_8 v1_9 v2_1 v2_2 v3_0 v3_1 v3_2 v3_3 v3_4 v3_5 v3_6 v3_7 v3_8 0 0 (m + 3) 0 to h1 h2 hto m 0 (m + 3) (by omega) (by omega)
  refine ⟨m + 3, 3, ?_⟩
  have e0 : goingAt (⟨v1_0, ⟨v1_1, v1_2, v1_3, v1_4, v1_5, v1_6, v1_7⟩, v1_8, v1_9⟩ : Gear) (⟨l0, v2_1, v2_2⟩ : Plan) ((0 : Nat) : Int) = ⟨⟨v3_0, v3_1, v3_2, v3_3, ⟨v3_4, v3_5, v3_6⟩⟩, v3_7, v3_8⟩ := by
    rw [show ((0 : Nat) : Int) = 0 from rfl]
    exact h6.symm
  rw [e0] at this
  rw [show ((to : Nat) : Int).toNat = to by omega]
  exact this

theorem run_newelref22_Shift (a0 : Gear) (a1 : Plan) (hg : planOk a0 a1 = true) : ∃ F d, run k62 F d 22 Try.f22 s_newelref22_Shift (a0, a1, ()) = some (r_newelref22_Shift.enc (shiftP a0 a1)) := by
  refine ⟨200, 6, ?_⟩
  rw [tree_newelref22_Shift]
  obtain ⟨hp, hs, hG, h2, h70, ⟨q1, q2, q3, q4⟩, hr, hz, hpl, p1, p2, hN⟩ := planOk_facts hg
  have hfc : ({ stops := a1.stops, cars := a1.cars, car := 0 } : Plan) = firstCar a1 := rfl
  rw [hfc]
  have hp0 : planB a0 (firstCar a1) = true := by
    rw [planB_iff]
    exact ⟨h2, q1, q2, by simp [firstCar], by simp [firstCar]; omega, hr, hG⟩
  have hpo0 : planOk a0 (firstCar a1) = true := by
    have : smallP (firstCar a1) = true := hs
    simp only [planOk, hp0, this, Bool.and_self]
  obtain ⟨_, _, _, _, _, _, _, _, hpl0, _⟩ := planOk_facts hpo0
  have hrow : rowP (firstCar a1) = rowP a1 := rfl
  have e : decide ((⟨⟨legAt (rowP (firstCar a1)) (placeP (firstCar a1) 0).toNat, 0, 0, 0, ⟨0, 0, 0⟩⟩, placeP (firstCar a1) 0, 3⟩ : Going) = beginR (firstCar a1)) = true := decide_eq_true rfl
  rw [e, hrow]
  have e1 : decide (0 ≤ placeR a1) = true := decide_eq_true p1
  have e2 : decide (placeR a1 < ((rowP a1).length : Int)) = true := decide_eq_true p2
  simp only [hpl, hpl0, hpo0, e1, e2, beqn, ble0, Bool.and_self, Bool.and_true, Bool.true_and, cond_true]
  rw [r_newelref22_Shift, shiftP_eq]
  rfl

theorem run_newellaw22_CycleLengths (a0 : Gear) (a1 : Plan) : ∃ F d, run k63 F d 4 Try.f4 s_newellaw22_CycleLengths (a0, a1, ()) = some (AV.bool true) := by
  refine ⟨200, 6, ?_⟩
  rw [tree_newellaw22_CycleLengths]
  cases hf : few22 a1 with
  | false => simp only [beqn, ble0, Bool.true_and, Bool.and_true, Bool.and_self, Bool.not_true, Bool.not_false, cond_true, cond_false, Bool.true_or, Bool.or_true]
  | true =>
    have hgp : smallGP a0 a1 = true := hf
    have hs : smallP a1 = true := hf
    simp only [beqn, ble0, hgp, beq_self_eq_true, Bool.true_and, Bool.and_true, Bool.and_self, Bool.not_true, Bool.not_false, cond_true, cond_false, Bool.true_or, Bool.or_true]
    cases hp : planB a0 a1 with
    | false => rfl
    | true =>
      have hpo : planOk a0 a1 = true := by simp only [planOk, hp, hs, Bool.and_self]
      obtain ⟨_, _, hG, h2, h70, _, hr, hz, hpl, p1, p2, hN⟩ := planOk_facts hpo
      have hso : stopROk a1 (placeR a1) = true := by
        rw [stopROk, hz, Bool.true_and, Bool.and_eq_true, decide_eq_true_eq, decide_eq_true_eq]
        unfold placeR
        omega
      have hst : (rowP a1).getD (placeP a1 a1.car).toNat 0 = stopR a1 (placeR a1) := by
        unfold stopR placeR legAt
        rw [Nat.mod_eq_of_lt (by omega)]
      simp only [hpo, hpl, hso, hst, errOf, beq_self_eq_true, Bool.true_or, Bool.not_true, cond_true, cond_false]

theorem legsFind_T {ph : Int} {g : Gear} {L : List Int} {f : Nat} (hs : 0 < stopG g) (ht : 0 ≤ g.times.travel) : ∀ {m i : Nat} {b : Bool} {j : Nat} {t : Int}, legsFind ph g L f m i (legT0 g L f i) = some (b, j, t) → legT0 g L f j ≤ ph ∧ ph < legT0 g L f (j + 1) ∧ j < i + m
  | 0, i, b, j, t, h => by simp [legsFind] at h
  | m + 1, i, b, j, t, h => by
    have hstep : legT0 g L f (i + 1) = legT0 g L f i + stopG g + legGo L (f + i) * g.times.travel := by simp only [legT0, legD]; omega
    have hgo : 0 ≤ legGo L (f + i) * g.times.travel := Int.mul_nonneg (by unfold legGo; omega) ht
    simp only [legsFind] at h
    cases h1 : (decide (legT0 g L f i ≤ ph) && decide (ph < legT0 g L f i + stopG g)) with
    | true =>
      rw [h1, cond_true] at h
      simp only [Option.some.injEq, Prod.mk.injEq] at h
      obtain ⟨rfl, rfl, rfl⟩ := h
      simp only [Bool.and_eq_true, decide_eq_true_eq] at h1
      exact ⟨h1.1, by omega, by omega⟩
    | false =>
      rw [h1, cond_false] at h
      cases h2 : (decide (legT0 g L f i + stopG g ≤ ph) && decide (ph < legT0 g L f i + stopG g + legGo L (f + i) * g.times.travel)) with
      | true =>
        rw [h2, cond_true] at h
        simp only [Option.some.injEq, Prod.mk.injEq] at h
        obtain ⟨rfl, rfl, rfl⟩ := h
        simp only [Bool.and_eq_true, decide_eq_true_eq] at h2
        exact ⟨by omega, by omega, by omega⟩
      | false =>
        rw [h2, cond_false, ← hstep] at h
        obtain ⟨e2, e3, e4⟩ := legsFind_T hs ht h
        exact ⟨e2, e3, by omega⟩

theorem within_out {g : Gear} {p : Plan} {ph : Int} (h : planOk g p = true) (ho : ph < 0 ∨ lenP g p ≤ ph) : cycle_within g p ph = (part0, 0, 221) := by
  obtain ⟨hp, hs, hG, h2, h70, _, hr, hz, _, p1, p2, hN⟩ := planOk_facts h
  obtain ⟨s1, s2, s3, s4⟩ := stopG_pos hG
  have hall := legT0_all (g := g) h2 hr (firstP p)
  unfold cycle_within
  rw [hp, cond_true]
  cases hq : legOf g p ph with
  | none => rfl
  | some r =>
    exfalso
    obtain ⟨b, j, t⟩ := r
    obtain ⟨e1, e2, e3⟩ := legsFind_T (f := firstP p) (by omega) (by omega) (i := 0) hq
    have m1 := legT0_mono (g := g) (L := rowP p) (f := firstP p) (by omega) (by omega) (show 0 ≤ j by omega)
    have m2 := legT0_mono (g := g) (L := rowP p) (f := firstP p) (by omega) (by omega) (show j + 1 ≤ (rowP p).length by omega)
    have T00 : legT0 g (rowP p) (firstP p) 0 = 0 := rfl
    rw [T00] at m1
    rw [hall] at m2
    omega

theorem run_newellaw22_CycleTells (a0 : Gear) (a1 : Plan) (a2 : Int) : ∃ F d, run k64 F d 3 Try.f3 s_newellaw22_CycleTells (a0, a1, a2, ()) = some (AV.bool true) := by
  refine ⟨200, 6, ?_⟩
  rw [tree_newellaw22_CycleTells]
  cases hf : few22 a1 with
  | false => simp only [beqn, ble0, Bool.true_and, Bool.and_true, Bool.and_self, Bool.not_true, Bool.not_false, cond_true, cond_false, Bool.true_or, Bool.or_true]
  | true =>
    have hgp : smallGP a0 a1 = true := hf
    have hgp3 : ∀ n, smallGP3 a0 a1 n = true := fun _ => hf
    have hs : smallP a1 = true := hf
    simp only [beqn, ble0, hgp, hgp3, beq_self_eq_true, Bool.true_and, Bool.and_true, Bool.and_self, Bool.not_true, Bool.not_false, cond_true, cond_false, Bool.true_or, Bool.or_true]
    cases hp : planB a0 a1 with
    | false =>
      have hw : cycle_within a0 a1 a2 = (part0, 0, 220) := by unfold cycle_within; rw [hp]; rfl
      unfold cycle_At cycle_Cmd
      rw [hw]
      rfl
    | true =>
      have hpo : planOk a0 a1 = true := by simp only [planOk, hp, hs, Bool.and_self]
      simp only [hpo, Bool.not_true, Bool.true_or, cond_true, cond_false]
      by_cases hin : 0 ≤ a2 ∧ a2 < lenP a0 a1
      · obtain ⟨_, _, hG, h2, h70, _, hr, hz, hpl, p1, p2, hN⟩ := planOk_facts hpo
        obtain ⟨r1, r2, _, _⟩ := goes_phase hG hp h2 hr (legAt_floors h2 hr) hin.1 hin.2
        have e1 : decide (a2 < 0) = false := by simp; omega
        have e2 : decide (a2 ≥ lenP a0 a1) = false := by simp; omega
        have e3 : atOk a0 a1 a2 = true := by
          simp only [atOk, hpo, Bool.true_and, Bool.and_eq_true, decide_eq_true_eq]
          exact hin
        simp only [e1, e2, e3, r1, r2, beq_self_eq_true, Bool.and_self, cond_true, cond_false]
      · have e : (bif decide (a2 < 0) then true else decide (a2 ≥ lenP a0 a1)) = true := by
          cases h : decide (a2 < 0)
          · simp only [decide_eq_false_iff_not] at h
            simp
            omega
          · rfl
        rw [e, cond_true]
        have hw := within_out hpo (ph := a2) (by omega)
        unfold cycle_At cycle_Cmd
        rw [hw]
        rfl
end Go.Proofs.Ytlnfojhmgncfiaa.Px.PxU
