/- A car's round: the functions and loops are what is said of them. -/
import Derived.Test.YtlnfojhmgncfiaaPxUSteps
import Derived.Test.YtlnfojhmgncfiaaPxIdx
set_option linter.unusedVariables false
set_option linter.unusedSimpArgs false
namespace Go.Proofs.Ytlnfojhmgncfiaa.Px.PxU
open Go Go.Proofs
set_option linter.unusedSimpArgs false
set_option linter.unusedVariables false

theorem and_true' (a : Bool) : (a && true) = a := by cases a <;> rfl
theorem stopG_pos {g : Gear} (h : gearB g = true) : 4 ≤ stopG g ∧ stopG g ≤ 480 ∧ 1 ≤ g.times.travel ∧ g.times.travel ≤ 60 := by
  simp only [gearB_iff, timesB_iff] at h
  simp only [stopG]
  omega

theorem run_cycle_stop (a0 : Gear) (hg : gearB a0 = true) : ∃ F d, run k25 F d 43 Try.f43 s_cycle_stop (a0, ()) = some (r_cycle_stop.enc (stopG a0)) := by
  refine ⟨200, 6, ?_⟩
  rw [tree_cycle_stop]
  simp only [gearB_iff, timesB_iff] at hg
  rw [IntWalk.i64_in (a0.times.level + a0.times.open_) (by omega), IntWalk.i64_in (a0.times.level + a0.times.open_ + a0.dwell) (by omega), IntWalk.i64_in _ (by omega)]
  rfl

theorem go_row (l0 l4 : List (Int)) (v1_1 v1_2 v4 : Int) (F d : Nat) : ∀ (k n : Nat) (l4 : List Int), k < n → k < l0.length → l0.length ≤ 70 → l4.length + k ≤ 2000 →
    I_row F (d + 3) n (S_row l0 l4 v1_1 v1_2 ((k : Nat) : Int)) = some (.exit 0, (X_row_0 l0 (l4 ++ ((l0.take (k + 1)).drop 1).reverse) v1_1 v1_2)) := by
  intro k
  induction k with
  | zero =>
    intro n l4 hn hk h70 hl
    obtain ⟨n, rfl⟩ : ∃ m, n = m + 1 := ⟨n - 1, by omega⟩
    rw [step_row]
    cases l0 with
    | nil => simp at hk
    | cons x l => simp
  | succ k ih =>
    intro n l4 hn hk h70 hl
    obtain ⟨n, rfl⟩ : ∃ m, n = m + 1 := ⟨n - 1, by omega⟩
    rw [step_row]
    have e1 : decide (((k + 1 : Nat) : Int) > 0) = true := by simp; try omega
    have e2 : (decide (0 ≤ ((k + 1 : Nat) : Int)) && decide (((k + 1 : Nat) : Int) < ((l0.length : Nat) : Int))) = true := by simp; omega
    have e3 : decide (0 + Int.toNat ((k + 1 : Nat) : Int) < l0.length) = true := by simp; omega
    have e4 : Nat.ble l4.length 1048576 = true := by simp; omega
    have e5 : IntKind.wrap IntKind.i64 (((k + 1 : Nat) : Int) - 1) = ((k : Nat) : Int) := by rw [IntWalk.i64_in _ (by omega)]; omega
    simp only [e1, e2, e3, e4, e5, beqn, Bool.and_self, Bool.and_true, Bool.true_and, cond_true]
    rw [ih n (l4 ++ [List.getD l0 (0 + Int.toNat ((k + 1 : Nat) : Int)) 0]) (by omega) (by omega) h70 (by simp; omega)]
    have e6 : l0.take (k + 1 + 1) = l0.take (k + 1) ++ [l0.getD (0 + Int.toNat ((k + 1 : Nat) : Int)) 0] := by
      rw [List.take_add_one]
      congr 1
      have : 0 + Int.toNat ((k + 1 : Nat) : Int) = k + 1 := by omega
      rw [this, List.getD_eq_getElem?_getD, List.getElem?_eq_getElem hk]
      rfl
    have e7 : 1 ≤ (l0.take (k + 1)).length := by simp; omega
    rw [e6, List.drop_append_of_le_length e7, List.reverse_append, List.append_assoc]
    rfl

theorem main_row (l0 l4 : List (Int)) (v1_1 v1_2 v4 : Int) (hg : (decide (v4 < (l0.length : Int)) && (decide (-3 ≤ v4) && (decide (l0.length ≤ 70) && decide (l4.length ≤ 1000)))) = true) : ∃ N d, I_row N d N (S_row l0 l4 v1_1 v1_2 v4) = some (altK Prod.mk [] (.exit 0) (X_row_0 l0 (l4 ++ ((l0.take (v4 + 1).toNat).drop 1).reverse) v1_1 v1_2)) := by
  simp only [Bool.and_eq_true, decide_eq_true_eq] at hg
  obtain ⟨h1, h2, h3, h4⟩ := hg
  refine ⟨100, 3, ?_⟩
  by_cases h : v4 ≤ 0
  · rw [show (100 : Nat) = 99 + 1 from rfl, show (3 : Nat) = 0 + 3 from rfl, step_row]
    have e1 : decide (v4 > 0) = false := by simp; omega
    have e2 : (l0.take (v4 + 1).toNat).drop 1 = [] := by
      rw [List.drop_eq_nil_iff, List.length_take]
      omega
    simp [e1, e2, altK]
  · obtain ⟨k, rfl⟩ : ∃ k : Nat, v4 = (k : Int) := ⟨v4.toNat, by omega⟩
    have := go_row l0 l4 v1_1 v1_2 0 100 0 k 100 l4 (by omega) (by omega) h3 (by omega)
    have e : (((k : Nat) : Int) + 1).toNat = k + 1 := by omega
    rw [e]
    simpa [altK] using this

theorem run_cycle_row (a0 : Plan) (hg : smallP a0 = true) : ∃ F d, runO k27 F d 32 Try.f32 s_cycle_row r_cycle_row (a0, ()) = some (rowP a0) := by
  refine ⟨200, 6, ?_⟩
  rw [tree_cycle_row]
  simp only [smallP, decide_eq_true_eq] at hg
  have e1 : IntKind.wrap IntKind.i64 (((a0.stops.length : Nat) : Int) - 2) = ((a0.stops.length : Nat) : Int) - 2 := IntWalk.i64_in _ (by omega)
  have e2 : Nat.ble a0.stops.length 1048576 = true := by simp; omega
  have e3 : decide (((a0.stops.length : Nat) : Int) - 2 < ((a0.stops.length : Nat) : Int)) = true := by simp; omega
  have e4 : decide ((-3 : Int) ≤ ((a0.stops.length : Nat) : Int) - 2) = true := by simp; omega
  have e5 : decide (a0.stops.length ≤ 70) = true := by simpa using hg
  have e6 : decide (a0.stops.length ≤ 1000) = true := by simp; omega
  simp only [List.nil_append, e1, e2, e3, e4, e5, e6, beqn, Bool.and_self, Bool.and_true, Bool.true_and, cond_true]
  congr 1
  unfold rowP rowL
  rw [List.dropLast_eq_take]
  congr 4
  omega

theorem run_cycle_place (a0 : Plan) (a1 : Int) (hg : placeOk a0 a1 = true) : ∃ F d, run k28 F d 33 Try.f33 s_cycle_place (a0, a1, ()) = some (r_cycle_place.enc (placeP a0 a1)) := by
  refine ⟨200, 6, ?_⟩
  rw [tree_cycle_place]
  simp only [placeOk, smallP, Bool.and_eq_true, decide_eq_true_eq] at hg
  obtain ⟨h1, h2, h3, h4, h5⟩ := hg
  have e0 : (a0.cars != 0) = true := by simp; omega
  have e1 : IntKind.wrap IntKind.i64 (2 * ((a0.stops.length : Nat) : Int)) = 2 * ((a0.stops.length : Nat) : Int) := IntWalk.i64_in _ (by omega)
  have e2 : IntKind.wrap IntKind.i64 (2 * ((a0.stops.length : Nat) : Int) - 2) = 2 * ((a0.stops.length : Nat) : Int) - 2 := IntWalk.i64_in _ (by omega)
  have b1 : a1 * (2 * ((a0.stops.length : Nat) : Int) - 2) ≤ 8 * 140 := by
    have hx : a1 * (2 * ((a0.stops.length : Nat) : Int) - 2) ≤ a1 * 140 := Int.mul_le_mul_of_nonneg_left (by omega) h4
    omega
  have b2 : -16 ≤ a1 * (2 * ((a0.stops.length : Nat) : Int) - 2) := by
    have hx : a1 * (-2) ≤ a1 * (2 * ((a0.stops.length : Nat) : Int) - 2) := Int.mul_le_mul_of_nonneg_left (by omega) h4
    omega
  have e3 : IntKind.wrap IntKind.i64 (a1 * (2 * ((a0.stops.length : Nat) : Int) - 2)) = a1 * (2 * ((a0.stops.length : Nat) : Int) - 2) := IntWalk.i64_in _ (by omega)
  have e4 : IntKind.wrap IntKind.i64 (Int.tdiv (a1 * (2 * ((a0.stops.length : Nat) : Int) - 2)) a0.cars) = Int.tdiv (a1 * (2 * ((a0.stops.length : Nat) : Int) - 2)) a0.cars := by
    refine IntWalk.i64_in _ ?_
    have hn := Int.natAbs_tdiv_le_natAbs (a1 * (2 * ((a0.stops.length : Nat) : Int) - 2)) a0.cars
    omega
  rw [e0, cond_true, e1, e2, e3, e4]
  rfl

theorem go_check (l0 : List (Int)) (v1_0 v1_1 v1_2 v1_3 v1_4 v1_5 v1_6 v1_7 v1_8 v1_9 v2_1 v2_2 v4 : Int) (v5 : Bool) (v38 v39 : Int) (F d : Nat) : ∀ (suf pre : List Int) (v : Bool) (n : Nat), suf.length < n → (pre ++ suf).length ≤ 1048576 →
    I_check F (d + 3) n (S_check (pre ++ suf) v1_0 v1_1 v1_2 v1_3 v1_4 v1_5 v1_6 v1_7 v1_8 v1_9 v2_1 v2_2 v4 v (((pre ++ suf).length : Nat) : Int) ((pre.length : Nat) : Int)) = some (.exit 0, (X_check_0 (pre ++ suf) v1_0 v1_1 v1_2 v1_3 v1_4 v1_5 v1_6 v1_7 v1_8 v1_9 v2_1 v2_2 v4 (v && chkR v1_0 pre.getLast? suf))) := by
  intro suf
  induction suf with
  | nil =>
    intro pre v n hn hl
    obtain ⟨n, rfl⟩ : ∃ k, n = k + 1 := ⟨n - 1, by omega⟩
    rw [step_check, idx_end, cond_false]
    cases pre.getLast? <;> simp [chkG, chkR]
  | cons x suf ih =>
    intro pre v n hn hl
    obtain ⟨n, rfl⟩ : ∃ k, n = k + 1 := ⟨n - 1, by omega⟩
    have ih' := ih (pre ++ [x]) (v && ((decide (0 ≤ x) && decide (x < v1_0)) && (pre.length == 0 || decide (pre.getLast?.getD 0 < x)))) n (by simp at hn; omega) (by simpa using hl)
    have hpl : pre.length + (suf.length + 1) ≤ 1048576 := by simpa using hl
    rw [step_check]
    simp only [idx_lt, idx_ge, Bool.and_self, cond_true, idx_nat, idx_at, idx_next hl]
    rw [← idx_step] at ih'
    have hacc : (bif bif bif v then decide (0 ≤ x) else false then decide (x < v1_0) else false then bif ((pre.length : Nat) : Int) == 0 then true else decide (List.getD (pre ++ x :: suf) (0 + Int.toNat (IntKind.wrap IntKind.i64 ((pre.length : Int) - 1))) 0 < x) else false) = (v && ((decide (0 ≤ x) && decide (x < v1_0)) && (pre.length == 0 || decide (pre.getLast?.getD 0 < x)))) := by
      cases v
      · rfl
      · cases decide (0 ≤ x)
        · rfl
        · cases decide (x < v1_0)
          · rfl
          · rcases nil_or_snoc pre with rfl | ⟨q, p, rfl⟩
            · simp
            · rw [IntWalk.i64_in _ (by simp at hpl ⊢; omega), idx_last, idx_ne0]
              simp
    rw [hacc]
    have hin : ((pre.length : Nat) : Int) = 0 ∨ (decide (0 ≤ IntKind.wrap IntKind.i64 ((pre.length : Int) - 1)) && decide (IntKind.wrap IntKind.i64 ((pre.length : Int) - 1) < (((pre ++ x :: suf).length : Nat) : Int))) = true ∧ decide (0 + Int.toNat (IntKind.wrap IntKind.i64 ((pre.length : Int) - 1)) < (pre ++ x :: suf).length) = true := by
      rcases nil_or_snoc pre with rfl | ⟨q, p, rfl⟩
      · exact .inl rfl
      · refine .inr ?_
        rw [IntWalk.i64_in _ (by simp at hpl ⊢; omega)]
        simp
        omega
    have g : ∀ (a b c : Bool), (((pre.length : Nat) : Int) = 0 ∨ a = true ∧ b = true) → ((a || !(c && !((pre.length : Nat) : Int) == 0)) = true ∧ (b || !(c && !((pre.length : Nat) : Int) == 0)) = true) := by
      rintro a b c (h | ⟨rfl, rfl⟩)
      · simp [h]
      · simp
    obtain ⟨g1, g2⟩ := g _ _ (bif bif v then decide (0 ≤ x) else false then decide (x < v1_0) else false) hin
    rw [g1, cond_true, g2, cond_true]
    rw [ih']
    congr 3
    rcases nil_or_snoc pre with rfl | ⟨q, p, rfl⟩
    · simp [chkG, chkR, Bool.and_assoc]
    · simp [chkG, chkR, Bool.and_assoc]

theorem main_check (l0 : List (Int)) (v1_0 v1_1 v1_2 v1_3 v1_4 v1_5 v1_6 v1_7 v1_8 v1_9 v2_1 v2_2 v4 : Int) (v5 : Bool) (v38 v39 : Int) (hg : (decide (l0.length ≤ 1048576) && (v38 == (l0.length : Int) && v39 == 0)) = true) : ∃ N d, I_check N d N (S_check l0 v1_0 v1_1 v1_2 v1_3 v1_4 v1_5 v1_6 v1_7 v1_8 v1_9 v2_1 v2_2 v4 v5 v38 v39) = some (altK Prod.mk [] (.exit 0) (X_check_0 l0 v1_0 v1_1 v1_2 v1_3 v1_4 v1_5 v1_6 v1_7 v1_8 v1_9 v2_1 v2_2 v4 (v5 && chkR v1_0 none l0))) := by
  simp only [Bool.and_eq_true, decide_eq_true_eq, beq_iff_eq] at hg
  obtain ⟨h1, rfl, rfl⟩ := hg
  have := go_check l0 v1_0 v1_1 v1_2 v1_3 v1_4 v1_5 v1_6 v1_7 v1_8 v1_9 v2_1 v2_2 v4 v5 0 0 (l0.length + 3) 0 l0 [] v5 (l0.length + 3) (by omega) (by simpa using h1)
  exact ⟨l0.length + 3, 3, by simpa [altK] using this⟩

theorem carOk0 (g : Gear) : carOk g ⟨0, 0, 0, 0, ⟨0, 0, 0⟩⟩ = gearB g := by
  rw [Bool.eq_iff_iff]
  simp only [carOk, Bool.and_eq_true, carB_iff, gearB_iff, doorB_iff]
  simp
  omega

theorem run_cycle_check (a0 : Gear) (a1 : Plan) (hg : smallGP a0 a1 = true) : ∃ F d, run k30 F d 30 Try.f30 s_cycle_check (a0, a1, ()) = some (r_cycle_check.enc (cycle_check a0 a1)) := by
  refine ⟨200, 6, ?_⟩
  rw [tree_cycle_check]
  simp only [smallGP, smallP, decide_eq_true_eq] at hg
  have e1 : decide (a1.stops.length ≤ 1048576) = true := by simp; omega
  simp only [beqn, e1, Bool.and_self, Bool.and_true, Bool.true_and, cond_true, beq_self_eq_true, carOk0]
  have e2 : decide (((a1.stops.length : Nat) : Int) ≥ 2) = decide (2 ≤ a1.stops.length) := by rw [Bool.eq_iff_iff]; simp; omega
  simp only [e2, r_cycle_check, Res.int, cycle_check, planB, errOf]
  cases gearB a0 <;> cases decide (2 ≤ a1.stops.length) <;> cases decide (1 ≤ a1.cars) <;> cases decide (a1.cars ≤ 8) <;> cases decide (0 ≤ a1.car) <;> cases decide (a1.car < a1.cars) <;> cases chkR a0.floors none a1.stops <;> rfl

theorem planB_iff {g : Gear} {p : Plan} : planB g p = true ↔ 2 ≤ p.stops.length ∧ 1 ≤ p.cars ∧ p.cars ≤ 8 ∧ 0 ≤ p.car ∧ p.car < p.cars ∧ chkR g.floors none p.stops = true ∧ gearB g = true := by
  simp only [planB, Bool.and_eq_true, decide_eq_true_eq]

/-- Stops that rise lie within the floors. -/
theorem chkR_all {fl : Int} : ∀ {l : List Int} {p : Option Int}, chkR fl p l = true → ∀ x ∈ l, 0 ≤ x ∧ x < fl
  | [], _, _, x, hx => by simp at hx
  | y :: l, none, h, x, hx => by
    simp only [chkR, chkG, Bool.and_eq_true, decide_eq_true_eq] at h
    rcases List.mem_cons.1 hx with rfl | hx
    · exact h.1
    · exact chkR_all (p := some y) h.2 x hx
  | y :: l, some q, h, x, hx => by
    simp only [chkR, chkG, Bool.and_eq_true, decide_eq_true_eq] at h
    rcases List.mem_cons.1 hx with rfl | hx
    · exact h.1.1
    · exact chkR_all (p := some y) h.2 x hx

theorem getD_mem {l : List Int} {i : Nat} {P : Int → Prop} (h : ∀ x ∈ l, P x) (hi : i < l.length) : P (l.getD i 0) := by
  rw [List.getD_eq_getElem?_getD, List.getElem?_eq_getElem hi]
  exact h _ (List.getElem_mem hi)

theorem run_cycle_length (a0 : Gear) (a1 : Plan) (hg : planOk a0 a1 = true) : ∃ F d, run k31 F d 31 Try.f31 s_cycle_length (a0, a1, ()) = some (r_cycle_length.enc (lenP a0 a1)) := by
  refine ⟨200, 6, ?_⟩
  rw [tree_cycle_length]
  simp only [planOk, smallP, Bool.and_eq_true, decide_eq_true_eq] at hg
  obtain ⟨hp, h70⟩ := hg
  rw [planB_iff] at hp
  obtain ⟨h2, c1, c2, c3, c4, hr, hG⟩ := hp
  obtain ⟨s1, s2, s3, s4⟩ := stopG_pos hG
  have hfl : a0.floors ≤ 64 := by simp only [gearB_iff] at hG; omega
  have hall := chkR_all hr
  have e0 : IntKind.wrap IntKind.i64 (((a1.stops.length : Nat) : Int) - 1) = ((a1.stops.length : Nat) : Int) - 1 := IntWalk.i64_in _ (by omega)
  have e1 : (decide ((0 : Int) ≤ ((a1.stops.length : Nat) : Int) - 1) && decide (((a1.stops.length : Nat) : Int) - 1 < ((a1.stops.length : Nat) : Int))) = true := by simp; omega
  have e2 : 0 + Int.toNat (((a1.stops.length : Nat) : Int) - 1) = a1.stops.length - 1 := by omega
  have e3 : decide (a1.stops.length - 1 < a1.stops.length) = true := by simp; omega
  have e4 : decide ((0 : Int) < ((a1.stops.length : Nat) : Int)) = true := by simp; omega
  have e5 : decide (0 < a1.stops.length) = true := by simp; omega
  simp only [hG, e0, e1, e2, e3, e4, e5, Bool.and_self, Bool.and_true, Bool.true_and, cond_true]
  have hl := getD_mem (P := fun x => 0 ≤ x ∧ x < a0.floors) hall (show a1.stops.length - 1 < a1.stops.length by omega)
  have hf := getD_mem (P := fun x => 0 ≤ x ∧ x < a0.floors) hall (show 0 < a1.stops.length by omega)
  simp only [r_cycle_length, Res.int, lenP, lastS, firstS]
  generalize a1.stops.getD (a1.stops.length - 1) 0 = la at *
  generalize a1.stops.getD 0 0 = fi at *
  generalize stopG a0 = st at *
  generalize a0.times.travel = tr at *
  have w1 : IntKind.wrap IntKind.i64 (2 * ((a1.stops.length : Nat) : Int)) = 2 * ((a1.stops.length : Nat) : Int) := IntWalk.i64_in _ (by omega)
  have w2 : IntKind.wrap IntKind.i64 (2 * ((a1.stops.length : Nat) : Int) - 2) = 2 * ((a1.stops.length : Nat) : Int) - 2 := IntWalk.i64_in _ (by omega)
  have b1 : 0 ≤ (2 * ((a1.stops.length : Nat) : Int) - 2) * st := Int.mul_nonneg (by omega) (by omega)
  have b2 : (2 * ((a1.stops.length : Nat) : Int) - 2) * st ≤ 140 * 480 := Int.mul_le_mul (by omega) s2 (by omega) (by omega)
  have w3 := IntWalk.i64_in ((2 * ((a1.stops.length : Nat) : Int) - 2) * st) (by omega)
  have w4 := IntWalk.i64_in (la - fi) (by omega)
  have w5 := IntWalk.i64_in (2 * (la - fi)) (by omega)
  have b3 : 2 * (la - fi) * tr ≤ 128 * 60 := by
    have : 2 * (la - fi) * tr ≤ 128 * tr := Int.mul_le_mul_of_nonneg_right (by omega) (by omega)
    omega
  have b4 : -(128 * 60) ≤ 2 * (la - fi) * tr := by
    have : (-128) * tr ≤ 2 * (la - fi) * tr := Int.mul_le_mul_of_nonneg_right (by omega) (by omega)
    omega
  have w6 := IntWalk.i64_in (2 * (la - fi) * tr) (by omega)
  have w7 := IntWalk.i64_in ((2 * ((a1.stops.length : Nat) : Int) - 2) * st + 2 * (la - fi) * tr) (by omega)
  rw [w1, w2, w3, w4, w5, w6, w7]

theorem errOf_ne (b : Bool) (e : Int) (he : e ≠ 0) : (errOf b e != 0) = !b := by cases b <;> simp [errOf, he]

theorem run_cycle_Length (a0 : Gear) (a1 : Plan) (hg : smallGP a0 a1 = true) : ∃ F d, run k32 F d 17 Try.f17 s_cycle_Length (a0, a1, ()) = some (r_cycle_Length.enc (cycle_Length a0 a1)) := by
  refine ⟨200, 6, ?_⟩
  rw [tree_cycle_Length]
  simp only [planOk, cycle_check, errOf_ne _ 220 (by decide), hg, beqn, ble0, Bool.and_self, Bool.and_true, Bool.true_and, cond_true]
  have hs : smallP a1 = true := hg
  simp only [r_cycle_Length, Res.tup2, Res.int, cycle_Length, hs]
  cases planB a0 a1 <;> rfl

theorem rowL_length {l : List Int} (h : 2 ≤ l.length) : (rowL l).length = 2 * l.length - 2 := by
  simp [rowL]; omega
theorem placeP_range {p : Plan} {n : Int} (h2 : 2 ≤ p.stops.length) (hc : 1 ≤ p.cars) (h0 : 0 ≤ n) (hn : n < p.cars) : 0 ≤ placeP p n ∧ placeP p n < ((rowP p).length : Int) := by
  unfold placeP rowP
  rw [rowL_length h2]
  have hk : (0 : Int) ≤ 2 * (p.stops.length : Int) - 2 := by omega
  have hm : 0 ≤ n * (2 * (p.stops.length : Int) - 2) := Int.mul_nonneg h0 hk
  rw [Int.tdiv_eq_ediv_of_nonneg hm]
  refine ⟨Int.ediv_nonneg hm (by omega), ?_⟩
  have hlt : n * (2 * (p.stops.length : Int) - 2) < p.cars * (2 * (p.stops.length : Int) - 2) := Int.mul_lt_mul_of_pos_right hn (by omega)
  have : n * (2 * (p.stops.length : Int) - 2) / p.cars < 2 * (p.stops.length : Int) - 2 := by
    apply Int.ediv_lt_of_lt_mul (by omega)
    rw [Int.mul_comm (2 * (p.stops.length : Int) - 2)]
    exact hlt
  omega

theorem run_cycle_First (a0 : Gear) (a1 : Plan) (hg : smallGP a0 a1 = true) : ∃ F d, run k33 F d 18 Try.f18 s_cycle_First (a0, a1, ()) = some (r_cycle_First.enc (cycle_First a0 a1)) := by
  refine ⟨200, 6, ?_⟩
  rw [tree_cycle_First]
  simp only [cycle_check, errOf_ne _ 220 (by decide), hg, beqn, ble0, Bool.and_self, Bool.and_true, Bool.true_and, cond_true]
  have hs : smallP a1 = true := hg
  simp only [r_cycle_First, Res.tup2, Res.int, cycle_First]
  cases hp : planB a0 a1
  · rfl
  · rw [planB_iff] at hp
    obtain ⟨h2, c1, c2, c3, c4, hr, hG⟩ := hp
    have hpl : placeOk a1 a1.car = true := by simp [placeOk, hs, c1, c2, c3]; omega
    obtain ⟨p1, p2⟩ := placeP_range h2 c1 c3 c4
    have e1 : (decide (0 ≤ placeP a1 a1.car) && decide (placeP a1 a1.car < (((rowP a1).length : Nat) : Int))) = true := by simp [p1, p2]
    have e2 : decide (Int.toNat (placeP a1 a1.car) < (rowP a1).length) = true := by simp; omega
    simp only [hs, hpl, e1, e2, Bool.and_self, Bool.and_true, cond_true, cond_false, Bool.not_true, Nat.zero_add, errOf]

theorem go_wride (l0 l11 : List (Int)) (v1_0 v1_1 v1_2 v1_3 v1_4 v1_5 v1_6 v1_7 v1_8 v1_9 v2_1 v2_2 v3_0 v4_0 v4_1 v4_2 v5_0 v6_0 v7_0 v7_1 v7_2 v7_3 v7_4 v7_5 v7_6 v7_7 v7_8 v7_9 v8_1 v8_2 v12_0 v12_1 v12_2 v5 v6 v8 v9 v10 v18 v19 : Int) (F d : Nat) (ht1 : 1 ≤ v7_1) (ht2 : v7_1 ≤ 60) (hdir : v10 = 1 ∨ v10 = -1) (hb1 : 0 ≤ v9) (hb2 : v9 ≤ 64) : ∀ (r n : Nat) (at_ a : Int), r < n → v9 - a = (r : Int) * v10 → r ≤ 64 → 0 ≤ at_ → at_ ≤ 1000000 + (64 - (r : Int)) * 60 → 0 ≤ a → a ≤ 64 →
    I_wride F (d + 3) n (S_wride l0 l11 v1_0 v1_1 v1_2 v1_3 v1_4 v1_5 v1_6 v1_7 v1_8 v1_9 v2_1 v2_2 v3_0 v4_0 v4_1 v4_2 v5_0 v6_0 v7_0 v7_1 v7_2 v7_3 v7_4 v7_5 v7_6 v7_7 v7_8 v7_9 v8_1 v8_2 v12_0 v12_1 v12_2 v5 at_ a v9 v10 v18 v19) = cond (decide (at_ ≤ v3_0) && decide (v3_0 < at_ + (r : Int) * v7_1)) (some (.exit 0, (X_wride_0 l0 l11 v1_0 v1_1 v1_2 v1_3 v1_4 v1_5 v1_6 v1_7 v1_8 v1_9 v2_1 v2_2 v3_0 v7_0 v7_1 v7_2 v7_3 v7_4 v7_5 v7_6 v7_7 v7_8 v7_9 v8_1 v8_2 v12_0 v12_1 v12_2 v5 (at_ + (v3_0 - at_) / v7_1 * v7_1) (a + (v3_0 - at_) / v7_1 * v10) v10 v18 v19))) (some (.exit 2, (X_wride_1 l0 l11 v1_0 v1_1 v1_2 v1_3 v1_4 v1_5 v1_6 v1_7 v1_8 v1_9 v2_1 v2_2 v3_0 v4_0 v4_1 v4_2 v5_0 v6_0 v7_0 v7_1 v7_2 v7_3 v7_4 v7_5 v7_6 v7_7 v7_8 v7_9 v8_1 v8_2 v12_0 v12_1 v12_2 v5 (at_ + (r : Int) * v7_1) v18 v19))) := by
  intro r
  induction r with
  | zero =>
    intro n at_ a hn hr h64 h0 h1 ha0 ha1
    obtain ⟨n, rfl⟩ : ∃ m, n = m + 1 := ⟨n - 1, by omega⟩
    rw [step_wride]
    have e : (a != v9) = false := by
      have : a = v9 := by simp at hr; omega
      simp [this]
    have c : (decide (at_ ≤ v3_0) && decide (v3_0 < at_ + ((0 : Nat) : Int) * v7_1)) = false := by
      rw [Bool.eq_false_iff]
      simp
      try omega
    rw [e, c, cond_false, cond_false]
    simp
  | succ r ih =>
    intro n at_ a hn hr h64 h0 h1 ha0 ha1
    obtain ⟨n, rfl⟩ : ∃ m, n = m + 1 := ⟨n - 1, by omega⟩
    rw [step_wride]
    have hr' : v9 - (a + v10) = (r : Int) * v10 := by
      have : ((r + 1 : Nat) : Int) * v10 = (r : Int) * v10 + v10 := by rw [Int.natCast_add, Int.add_mul]; simp
      omega
    have hne : a ≠ v9 := by
      intro h
      rcases hdir with rfl | rfl <;> simp at hr <;> omega
    have e : (a != v9) = true := by simp [hne]
    have w1 := IntWalk.i64_in (at_ + v7_1) (by omega)
    have w2 := IntWalk.i64_in (a + v10) (by omega)
    have hmul : ((r + 1 : Nat) : Int) * v7_1 = (r : Int) * v7_1 + v7_1 := by rw [Int.natCast_add, Int.add_mul]; simp
    have hrn : 0 ≤ (r : Int) * v7_1 := Int.mul_nonneg (by omega) (by omega)
    have hge : decide (v3_0 ≥ at_) = decide (at_ ≤ v3_0) := rfl
    rw [e, cond_true, w1, w2, hge]
    have ih' := ih n (at_ + v7_1) (a + v10) (by omega) hr' (by omega) (by omega) (by omega) (by rcases hdir with rfl | rfl <;> simp at hr <;> omega) (by rcases hdir with rfl | rfl <;> simp at hr <;> omega)
    by_cases hin : at_ ≤ v3_0 ∧ v3_0 < at_ + v7_1
    · have c1 : (bif decide (at_ ≤ v3_0) then decide (v3_0 < at_ + v7_1) else false) = true := by simp [hin.1, hin.2]
      have c2 : (decide (at_ ≤ v3_0) && decide (v3_0 < at_ + ((r + 1 : Nat) : Int) * v7_1)) = true := by rw [hmul]; simp [hin.1]; omega
      have hq : (v3_0 - at_) / v7_1 = 0 := Int.ediv_eq_zero_of_lt (by omega) (by omega)
      rw [c1, c2, cond_true, cond_true, hq]
      simp
    · have c1 : (bif decide (at_ ≤ v3_0) then decide (v3_0 < at_ + v7_1) else false) = false := by
        cases h : decide (at_ ≤ v3_0)
        · rfl
        · simp at h; simp; omega
      rw [c1, cond_false, ih']
      have c3 : (decide (at_ ≤ v3_0) && decide (v3_0 < at_ + ((r + 1 : Nat) : Int) * v7_1)) = (decide (at_ + v7_1 ≤ v3_0) && decide (v3_0 < at_ + v7_1 + (r : Int) * v7_1)) := by
        rw [hmul, Bool.eq_iff_iff]
        simp
        omega
      rw [c3]
      have hq : (v3_0 - (at_ + v7_1)) / v7_1 = (v3_0 - at_) / v7_1 - 1 := by
        rw [show v3_0 - (at_ + v7_1) = (v3_0 - at_) + (-1) * v7_1 by omega, Int.add_mul_ediv_right _ _ (by omega)]
        omega
      rw [hq, hmul]
      have q1 : at_ + v7_1 + ((v3_0 - at_) / v7_1 - 1) * v7_1 = at_ + (v3_0 - at_) / v7_1 * v7_1 := by rw [Int.sub_mul]; omega
      have q2 : a + v10 + ((v3_0 - at_) / v7_1 - 1) * v10 = a + (v3_0 - at_) / v7_1 * v10 := by rw [Int.sub_mul]; omega
      have q3 : at_ + v7_1 + (r : Int) * v7_1 = at_ + ((r : Int) * v7_1 + v7_1) := by omega
      rw [q1, q2, q3]

theorem main_wride (l0 l11 : List (Int)) (v1_0 v1_1 v1_2 v1_3 v1_4 v1_5 v1_6 v1_7 v1_8 v1_9 v2_1 v2_2 v3_0 v4_0 v4_1 v4_2 v5_0 v6_0 v7_0 v7_1 v7_2 v7_3 v7_4 v7_5 v7_6 v7_7 v7_8 v7_9 v8_1 v8_2 v12_0 v12_1 v12_2 v5 v6 v8 v9 v10 v18 v19 : Int) (hg : (rideOk v6 v7_1 v8 v9 v10) = true) : ∃ N d, I_wride N d N (S_wride l0 l11 v1_0 v1_1 v1_2 v1_3 v1_4 v1_5 v1_6 v1_7 v1_8 v1_9 v2_1 v2_2 v3_0 v4_0 v4_1 v4_2 v5_0 v6_0 v7_0 v7_1 v7_2 v7_3 v7_4 v7_5 v7_6 v7_7 v7_8 v7_9 v8_1 v8_2 v12_0 v12_1 v12_2 v5 v6 v8 v9 v10 v18 v19) = some (altK Prod.mk [(decide (v6 ≤ v3_0) && decide (v3_0 < v6 + ((v9 - v8).natAbs : Int) * v7_1), .exit 0, (X_wride_0 l0 l11 v1_0 v1_1 v1_2 v1_3 v1_4 v1_5 v1_6 v1_7 v1_8 v1_9 v2_1 v2_2 v3_0 v7_0 v7_1 v7_2 v7_3 v7_4 v7_5 v7_6 v7_7 v7_8 v7_9 v8_1 v8_2 v12_0 v12_1 v12_2 v5 (v6 + (v3_0 - v6) / v7_1 * v7_1) (v8 + (v3_0 - v6) / v7_1 * v10) v10 v18 v19))] (.exit 2) (X_wride_1 l0 l11 v1_0 v1_1 v1_2 v1_3 v1_4 v1_5 v1_6 v1_7 v1_8 v1_9 v2_1 v2_2 v3_0 v4_0 v4_1 v4_2 v5_0 v6_0 v7_0 v7_1 v7_2 v7_3 v7_4 v7_5 v7_6 v7_7 v7_8 v7_9 v8_1 v8_2 v12_0 v12_1 v12_2 v5 (v6 + ((v9 - v8).natAbs : Int) * v7_1) v18 v19)) := by
  simp only [rideOk, Bool.and_eq_true, decide_eq_true_eq, beq_iff_eq] at hg
  obtain ⟨h1, h2, h3, h4, h5, h6, h7, h8, rfl⟩ := hg
  have hdir : signI (v9 - v8) = 1 ∨ signI (v9 - v8) = -1 := by
    unfold signI
    cases decide (v9 - v8 > 0)
    · exact .inr rfl
    · exact .inl rfl
  have hr : v9 - v8 = ((v9 - v8).natAbs : Int) * signI (v9 - v8) := by
    unfold signI
    cases hd : decide (v9 - v8 > 0)
    · simp only [decide_eq_false_iff_not] at hd
      simp only [cond_false]
      omega
    · simp only [decide_eq_true_eq] at hd
      simp only [cond_true]
      omega
  have := go_wride l0 l11 v1_0 v1_1 v1_2 v1_3 v1_4 v1_5 v1_6 v1_7 v1_8 v1_9 v2_1 v2_2 v3_0 v4_0 v4_1 v4_2 v5_0 v6_0 v7_0 v7_1 v7_2 v7_3 v7_4 v7_5 v7_6 v7_7 v7_8 v7_9 v8_1 v8_2 v12_0 v12_1 v12_2 v5 v6 v8 v9 (signI (v9 - v8)) v18 v19 100 0 h3 h4 hdir h7 h8 (v9 - v8).natAbs 100 v6 v8 (by omega) hr (by omega) h1 (by omega) h5 h6
  refine ⟨100, 3, ?_⟩
  rw [this]
  cases (decide (v6 ≤ v3_0) && decide (v3_0 < v6 + ((v9 - v8).natAbs : Int) * v7_1)) <;> rfl

theorem legAt_lt {L : List Int} (hL : 0 < L.length) (i : Nat) : i % L.length < L.length := Nat.mod_lt _ hL
theorem leg_tmod {L : List Int} (i : Nat) : Int.tmod ((i : Nat) : Int) ((L.length : Nat) : Int) = ((i % L.length : Nat) : Int) := by
  rw [Int.tmod_eq_emod_of_nonneg (by omega)]; rfl
theorem legAt_in {L : List Int} (hL : 0 < L.length) (hall : ∀ x ∈ L, 0 ≤ x ∧ x ≤ 63) (i : Nat) : 0 ≤ legAt L i ∧ legAt L i ≤ 63 := getD_mem hall (legAt_lt hL i)

theorem go_wstop (l0 l11 : List (Int)) (v1_0 v1_1 v1_2 v1_3 v1_4 v1_5 v1_6 v1_7 v1_8 v1_9 v2_1 v2_2 v3_0 v4_0 v4_1 v4_2 v5_0 v6_0 v7_0 v7_1 v7_2 v7_3 v7_4 v7_5 v7_6 v7_7 v7_8 v7_9 v8_1 v8_2 v5 v6 v18 v19 : Int) (F d f : Nat) (hG : gearB (⟨v7_0, ⟨v7_1, v7_2, v7_3, v7_4, v7_5, v7_6, v7_7⟩, v7_8, v7_9⟩ : Gear) = true) (hN : l11.length ≤ 138) (hall : ∀ x ∈ l11, 0 ≤ x ∧ x ≤ 63) (hf : f < l11.length) : ∀ (m i n : Nat) (at_ : Int), i + m = l11.length → m < n → 0 ≤ at_ → at_ ≤ (i : Int) * 5000 →
    I_wstop F (d + 3) n (S_wstop l0 l11 v1_0 v1_1 v1_2 v1_3 v1_4 v1_5 v1_6 v1_7 v1_8 v1_9 v2_1 v2_2 v3_0 v4_0 v4_1 v4_2 v5_0 v6_0 v7_0 v7_1 v7_2 v7_3 v7_4 v7_5 v7_6 v7_7 v7_8 v7_9 v8_1 v8_2 ((f : Nat) : Int) at_ ((l11.length : Nat) : Int) ((i : Nat) : Int)) = some (altK Prod.mk [(legStop (legsFind v3_0 (⟨v7_0, ⟨v7_1, v7_2, v7_3, v7_4, v7_5, v7_6, v7_7⟩, v7_8, v7_9⟩ : Gear) l11 f m i at_), .exit 0, (X_wstop_0 l0 l11 v1_0 v1_1 v1_2 v1_3 v1_4 v1_5 v1_6 v1_7 v1_8 v1_9 v2_1 v2_2 v3_0 v7_0 v7_1 v7_2 v7_3 v7_4 v7_5 v7_6 v7_7 v7_8 v7_9 v8_1 v8_2 ((f : Nat) : Int) (legT (legsFind v3_0 (⟨v7_0, ⟨v7_1, v7_2, v7_3, v7_4, v7_5, v7_6, v7_7⟩, v7_8, v7_9⟩ : Gear) l11 f m i at_)) (legI (legsFind v3_0 (⟨v7_0, ⟨v7_1, v7_2, v7_3, v7_4, v7_5, v7_6, v7_7⟩, v7_8, v7_9⟩ : Gear) l11 f m i at_)))),
      (legRide (legsFind v3_0 (⟨v7_0, ⟨v7_1, v7_2, v7_3, v7_4, v7_5, v7_6, v7_7⟩, v7_8, v7_9⟩ : Gear) l11 f m i at_), .exit 0, (X_wstop_1 l0 l11 v1_0 v1_1 v1_2 v1_3 v1_4 v1_5 v1_6 v1_7 v1_8 v1_9 v2_1 v2_2 v3_0 v7_0 v7_1 v7_2 v7_3 v7_4 v7_5 v7_6 v7_7 v7_8 v7_9 v8_1 v8_2 ((f : Nat) : Int) (legT (legsFind v3_0 (⟨v7_0, ⟨v7_1, v7_2, v7_3, v7_4, v7_5, v7_6, v7_7⟩, v7_8, v7_9⟩ : Gear) l11 f m i at_)) (legI (legsFind v3_0 (⟨v7_0, ⟨v7_1, v7_2, v7_3, v7_4, v7_5, v7_6, v7_7⟩, v7_8, v7_9⟩ : Gear) l11 f m i at_))))] (.exit 0) (X_wstop_2 l0 l11 v1_0 v1_1 v1_2 v1_3 v1_4 v1_5 v1_6 v1_7 v1_8 v1_9 v2_1 v2_2 v3_0 v4_0 v4_1 v4_2 v5_0 v6_0 v7_0 v7_1 v7_2 v7_3 v7_4 v7_5 v7_6 v7_7 v7_8 v7_9 v8_1 v8_2)) := by
  obtain ⟨s1, s2, s3, s4⟩ := stopG_pos hG
  simp only at s3 s4
  have hL : 0 < l11.length := by omega
  intro m
  induction m with
  | zero =>
    intro i n at_ him hn h0 h1
    obtain ⟨n, rfl⟩ : ∃ k, n = k + 1 := ⟨n - 1, by omega⟩
    rw [step_wstop]
    have e : decide (((i : Nat) : Int) < ((l11.length : Nat) : Int)) = false := by simp; omega
    rw [e, cond_false]
    rfl
  | succ m ih =>
    intro i n at_ him hn h0 h1
    obtain ⟨n, rfl⟩ : ∃ k, n = k + 1 := ⟨n - 1, by omega⟩
    rw [step_wstop]
    have e : decide (((i : Nat) : Int) < ((l11.length : Nat) : Int)) = true := by simp; omega
    have e0 : (((l11.length : Nat) : Int) != 0) = true := by rw [bne_iff_ne]; omega
    have w1 : IntKind.wrap IntKind.i64 (((f : Nat) : Int) + ((i : Nat) : Int)) = ((f + i : Nat) : Int) := by rw [IntWalk.i64_in _ (by omega)]; omega
    have w2 : IntKind.wrap IntKind.i64 (((f + i : Nat) : Int) + 1) = ((f + i + 1 : Nat) : Int) := by rw [IntWalk.i64_in _ (by omega)]; omega
    have w3 : IntKind.wrap IntKind.i64 (((i : Nat) : Int) + 1) = ((i + 1 : Nat) : Int) := by rw [IntWalk.i64_in _ (by omega)]; omega
    have m1 := legAt_lt hL (f + i)
    have m2 := legAt_lt hL (f + i + 1)
    have e1 : ∀ j : Nat, j < l11.length → (decide (0 ≤ ((j : Nat) : Int)) && decide (((j : Nat) : Int) < ((l11.length : Nat) : Int))) = true := fun j hj => by simp; omega
    have e2 : ∀ j : Nat, j < l11.length → decide (j < l11.length) = true := fun j hj => by simpa using hj
    have e3 : ∀ j : Nat, 0 + Int.toNat ((j : Nat) : Int) = j := fun j => by omega
    have a1 := legAt_in hL hall (f + i)
    have a2 := legAt_in hL hall (f + i + 1)
    simp only [w1, w2, w3, leg_tmod, e1 _ m1, e1 _ m2, e2 _ m1, e2 _ m2, e3, e, e0, hG, Bool.and_self, Bool.and_true, Bool.true_and, cond_true, beqn]
    change 0 ≤ l11.getD ((f + i) % l11.length) 0 ∧ _ at a1
    change 0 ≤ l11.getD ((f + i + 1) % l11.length) 0 ∧ _ at a2
    have wst := IntWalk.i64_in (at_ + stopG (⟨v7_0, ⟨v7_1, v7_2, v7_3, v7_4, v7_5, v7_6, v7_7⟩, v7_8, v7_9⟩ : Gear)) (by omega)
    have wba := IntWalk.i64_in (l11.getD ((f + i + 1) % l11.length) 0 - l11.getD ((f + i) % l11.length) 0) (by simp only [legAt] at a1 a2; omega)
    have hle : legsFind v3_0 (⟨v7_0, ⟨v7_1, v7_2, v7_3, v7_4, v7_5, v7_6, v7_7⟩, v7_8, v7_9⟩ : Gear) l11 f (m + 1) i at_ = cond (decide (at_ ≤ v3_0) && decide (v3_0 < at_ + stopG (⟨v7_0, ⟨v7_1, v7_2, v7_3, v7_4, v7_5, v7_6, v7_7⟩, v7_8, v7_9⟩ : Gear))) (some (false, i, at_))
      (cond (decide (at_ + stopG (⟨v7_0, ⟨v7_1, v7_2, v7_3, v7_4, v7_5, v7_6, v7_7⟩, v7_8, v7_9⟩ : Gear) ≤ v3_0) && decide (v3_0 < at_ + stopG (⟨v7_0, ⟨v7_1, v7_2, v7_3, v7_4, v7_5, v7_6, v7_7⟩, v7_8, v7_9⟩ : Gear) + ((l11.getD ((f + i + 1) % l11.length) 0 - l11.getD ((f + i) % l11.length) 0).natAbs : Int) * v7_1)) (some (true, i, at_))
      (legsFind v3_0 (⟨v7_0, ⟨v7_1, v7_2, v7_3, v7_4, v7_5, v7_6, v7_7⟩, v7_8, v7_9⟩ : Gear) l11 f m (i + 1) (at_ + stopG (⟨v7_0, ⟨v7_1, v7_2, v7_3, v7_4, v7_5, v7_6, v7_7⟩, v7_8, v7_9⟩ : Gear) + ((l11.getD ((f + i + 1) % l11.length) 0 - l11.getD ((f + i) % l11.length) 0).natAbs : Int) * v7_1))) := rfl
    rw [wst, wba, hle]
    have hrd : rideOk (at_ + stopG (⟨v7_0, ⟨v7_1, v7_2, v7_3, v7_4, v7_5, v7_6, v7_7⟩, v7_8, v7_9⟩ : Gear)) v7_1 (l11.getD ((f + i) % l11.length) 0) (l11.getD ((f + i + 1) % l11.length) 0) (signI (l11.getD ((f + i + 1) % l11.length) 0 - l11.getD ((f + i) % l11.length) 0)) = true := by
      simp only [legAt] at a1 a2
      simp only [rideOk, Bool.and_eq_true, decide_eq_true_eq, beq_self_eq_true, and_true]
      omega
    have hge : (bif decide (v3_0 ≥ at_) then decide (v3_0 < at_ + stopG (⟨v7_0, ⟨v7_1, v7_2, v7_3, v7_4, v7_5, v7_6, v7_7⟩, v7_8, v7_9⟩ : Gear)) else false) = (decide (at_ ≤ v3_0) && decide (v3_0 < at_ + stopG (⟨v7_0, ⟨v7_1, v7_2, v7_3, v7_4, v7_5, v7_6, v7_7⟩, v7_8, v7_9⟩ : Gear))) := by
      rw [show decide (v3_0 ≥ at_) = decide (at_ ≤ v3_0) from rfl]
      cases decide (at_ ≤ v3_0) <;> rfl
    rw [hge, hrd, cond_true]
    have hmul : 0 ≤ ((l11.getD ((f + i + 1) % l11.length) 0 - l11.getD ((f + i) % l11.length) 0).natAbs : Int) * v7_1 ∧ ((l11.getD ((f + i + 1) % l11.length) 0 - l11.getD ((f + i) % l11.length) 0).natAbs : Int) * v7_1 ≤ 63 * 60 := by
      simp only [legAt] at a1 a2
      refine ⟨Int.mul_nonneg (by omega) (by omega), Int.mul_le_mul (by omega) s4 (by omega) (by omega)⟩
    have ih' := ih (i + 1) n (at_ + stopG (⟨v7_0, ⟨v7_1, v7_2, v7_3, v7_4, v7_5, v7_6, v7_7⟩, v7_8, v7_9⟩ : Gear) + ((l11.getD ((f + i + 1) % l11.length) 0 - l11.getD ((f + i) % l11.length) 0).natAbs : Int) * v7_1) (by omega) (by omega) (by omega) (by omega)
    cases (decide (at_ ≤ v3_0) && decide (v3_0 < at_ + stopG (⟨v7_0, ⟨v7_1, v7_2, v7_3, v7_4, v7_5, v7_6, v7_7⟩, v7_8, v7_9⟩ : Gear)))
    · simp only [cond_false]
      cases (decide (at_ + stopG (⟨v7_0, ⟨v7_1, v7_2, v7_3, v7_4, v7_5, v7_6, v7_7⟩, v7_8, v7_9⟩ : Gear) ≤ v3_0) && decide (v3_0 < at_ + stopG (⟨v7_0, ⟨v7_1, v7_2, v7_3, v7_4, v7_5, v7_6, v7_7⟩, v7_8, v7_9⟩ : Gear) + ((l11.getD ((f + i + 1) % l11.length) 0 - l11.getD ((f + i) % l11.length) 0).natAbs : Int) * v7_1))
      · simp only [cond_false]
        exact ih'
      · rfl
    · rfl

theorem main_wstop (l0 l11 : List (Int)) (v1_0 v1_1 v1_2 v1_3 v1_4 v1_5 v1_6 v1_7 v1_8 v1_9 v2_1 v2_2 v3_0 v4_0 v4_1 v4_2 v5_0 v6_0 v7_0 v7_1 v7_2 v7_3 v7_4 v7_5 v7_6 v7_7 v7_8 v7_9 v8_1 v8_2 v5 v6 v18 v19 : Int) (hg : (legsOk (⟨v7_0, ⟨v7_1, v7_2, v7_3, v7_4, v7_5, v7_6, v7_7⟩, v7_8, v7_9⟩ : Gear) l11 v5 v6 v18 v19) = true) : ∃ N d, I_wstop N d N (S_wstop l0 l11 v1_0 v1_1 v1_2 v1_3 v1_4 v1_5 v1_6 v1_7 v1_8 v1_9 v2_1 v2_2 v3_0 v4_0 v4_1 v4_2 v5_0 v6_0 v7_0 v7_1 v7_2 v7_3 v7_4 v7_5 v7_6 v7_7 v7_8 v7_9 v8_1 v8_2 v5 v6 v18 v19) = some (altK Prod.mk [(legStop (legsFind v3_0 (⟨v7_0, ⟨v7_1, v7_2, v7_3, v7_4, v7_5, v7_6, v7_7⟩, v7_8, v7_9⟩ : Gear) l11 v5.toNat l11.length 0 0), .exit 0, (X_wstop_0 l0 l11 v1_0 v1_1 v1_2 v1_3 v1_4 v1_5 v1_6 v1_7 v1_8 v1_9 v2_1 v2_2 v3_0 v7_0 v7_1 v7_2 v7_3 v7_4 v7_5 v7_6 v7_7 v7_8 v7_9 v8_1 v8_2 v5 (legT (legsFind v3_0 (⟨v7_0, ⟨v7_1, v7_2, v7_3, v7_4, v7_5, v7_6, v7_7⟩, v7_8, v7_9⟩ : Gear) l11 v5.toNat l11.length 0 0)) (legI (legsFind v3_0 (⟨v7_0, ⟨v7_1, v7_2, v7_3, v7_4, v7_5, v7_6, v7_7⟩, v7_8, v7_9⟩ : Gear) l11 v5.toNat l11.length 0 0)))), (legRide (legsFind v3_0 (⟨v7_0, ⟨v7_1, v7_2, v7_3, v7_4, v7_5, v7_6, v7_7⟩, v7_8, v7_9⟩ : Gear) l11 v5.toNat l11.length 0 0), .exit 0, (X_wstop_1 l0 l11 v1_0 v1_1 v1_2 v1_3 v1_4 v1_5 v1_6 v1_7 v1_8 v1_9 v2_1 v2_2 v3_0 v7_0 v7_1 v7_2 v7_3 v7_4 v7_5 v7_6 v7_7 v7_8 v7_9 v8_1 v8_2 v5 (legT (legsFind v3_0 (⟨v7_0, ⟨v7_1, v7_2, v7_3, v7_4, v7_5, v7_6, v7_7⟩, v7_8, v7_9⟩ : Gear) l11 v5.toNat l11.length 0 0)) (legI (legsFind v3_0 (⟨v7_0, ⟨v7_1, v7_2, v7_3, v7_4, v7_5, v7_6, v7_7⟩, v7_8, v7_9⟩ : Gear) l11 v5.toNat l11.length 0 0))))] (.exit 0) (X_wstop_2 l0 l11 v1_0 v1_1 v1_2 v1_3 v1_4 v1_5 v1_6 v1_7 v1_8 v1_9 v2_1 v2_2 v3_0 v4_0 v4_1 v4_2 v5_0 v6_0 v7_0 v7_1 v7_2 v7_3 v7_4 v7_5 v7_6 v7_7 v7_8 v7_9 v8_1 v8_2)) := by
  simp only [legsOk, Bool.and_eq_true, decide_eq_true_eq, beq_iff_eq, List.all_eq_true] at hg
  obtain ⟨hG, h1, h2, h3, h4, rfl, rfl, rfl⟩ := hg
  obtain ⟨f, rfl⟩ : ∃ f : Nat, v5 = (f : Int) := ⟨v5.toNat, by omega⟩
  have := go_wstop l0 l11 v1_0 v1_1 v1_2 v1_3 v1_4 v1_5 v1_6 v1_7 v1_8 v1_9 v2_1 v2_2 v3_0 v4_0 v4_1 v4_2 v5_0 v6_0 v7_0 v7_1 v7_2 v7_3 v7_4 v7_5 v7_6 v7_7 v7_8 v7_9 v8_1 v8_2 0 0 0 0 200 0 f hG h1 h2 (by omega) l11.length 0 200 0 (by omega) (by omega) (by omega) (by omega)
  refine ⟨200, 3, ?_⟩
  rw [show ((f : Nat) : Int).toNat = f by omega]
  exact this

theorem rowL_mem {l : List Int} {x : Int} (h : x ∈ rowL l) : x ∈ l := by
  unfold rowL at h
  rcases List.mem_append.1 h with h | h
  · exact h
  · exact List.dropLast_subset _ (List.mem_of_mem_drop (List.mem_reverse.1 h))

/-- What is known of a plan that may be. -/
theorem plan_facts {g : Gear} {p : Plan} (hs : smallP p = true) (hp : planB g p = true) : gearB g = true ∧ 2 ≤ p.stops.length ∧ p.stops.length ≤ 70 ∧ (rowP p).length = 2 * p.stops.length - 2 ∧ placeOk p p.car = true ∧ 0 ≤ placeP p p.car ∧ placeP p p.car < ((rowP p).length : Int) ∧ (∀ x ∈ rowP p, 0 ≤ x ∧ x ≤ 63) ∧ legsOk g (rowP p) (placeP p p.car) 0 ((rowP p).length : Int) 0 = true := by
  have h70 : p.stops.length ≤ 70 := by simpa [smallP] using hs
  rw [planB_iff] at hp
  obtain ⟨h2, c1, c2, c3, c4, hr, hG⟩ := hp
  obtain ⟨p1, p2⟩ := placeP_range h2 c1 c3 c4
  have hl := rowL_length h2
  have hfl : g.floors ≤ 64 := by simp only [gearB_iff] at hG; omega
  have hall : ∀ x ∈ rowP p, 0 ≤ x ∧ x ≤ 63 := fun x hx => by
    have := chkR_all hr x (rowL_mem hx)
    omega
  have hL : (rowP p).length = 2 * p.stops.length - 2 := hl
  refine ⟨hG, h2, h70, hL, ?_, p1, p2, hall, ?_⟩
  · simp [placeOk, hs, c1, c2, c3]; omega
  · simp only [legsOk, Bool.and_eq_true, decide_eq_true_eq, beq_self_eq_true, List.all_eq_true, and_true]
    exact ⟨hG, by omega, hall, p1, p2⟩

theorem legGo_le {L : List Int} (hL : 0 < L.length) (hall : ∀ x ∈ L, 0 ≤ x ∧ x ≤ 63) (i : Nat) : legGo L i ≤ 63 := by
  have h1 := legAt_in hL hall i
  have h2 := legAt_in hL hall (i + 1)
  unfold legGo
  omega

theorem run_cycle_within (a0 : Gear) (a1 : Plan) (a2 : Int) (hg : smallGP3 a0 a1 a2 = true) : ∃ F d, run k36 F d 25 Try.f25 s_cycle_within (a0, a1, a2, ()) = some (r_cycle_within.enc (cycle_within a0 a1 a2)) := by
  refine ⟨200, 6, ?_⟩
  rw [tree_cycle_within]
  have hgp : smallGP a0 a1 = true := hg
  simp only [cycle_check, errOf_ne _ 220 (by decide), hgp, beqn, ble0, Bool.and_self, Bool.and_true, Bool.true_and, cond_true]
  have hs : smallP a1 = true := hg
  simp only [r_cycle_within, Res.tup3, Res.int, Res.agg, cycle_within, cPart_enc]
  cases hp : planB a0 a1
  · rfl
  · obtain ⟨hG, h2, h70, hL, hpl, p1, p2, hall, hlo⟩ := plan_facts hs hp
    obtain ⟨s1, s2, s3, s4⟩ := stopG_pos hG
    have hL0 : 0 < (rowP a1).length := by omega
    simp only [hs, hpl, hlo, Bool.and_self, Bool.and_true, cond_true, cond_false, Bool.not_true]
    obtain ⟨f, hf⟩ : ∃ f : Nat, placeP a1 a1.car = (f : Int) := ⟨(placeP a1 a1.car).toNat, by omega⟩
    rw [hf]
    have hft : ((f : Nat) : Int).toNat = f := by omega
    unfold legOf
    rw [hf, hft]
    cases hq : legsFind a2 a0 (rowP a1) f (rowP a1).length 0 0 with
    | none => rfl
    | some r =>
      obtain ⟨b, i, t⟩ := r
      obtain ⟨q1, q2, q3, q4⟩ := legsFind_spec hq
      obtain ⟨t1, t2⟩ := legsFind_ge ⟨by omega, s2⟩ ⟨by omega, s4⟩ (fun i => by have := legGo_le hL0 hall i; omega) hq
      have hA := legAt_in hL0 hall (f + i)
      have hB := legAt_in hL0 hall (f + i + 1)
      have hGo := legGo_le hL0 hall (f + i)
      have w1 : IntKind.wrap IntKind.i64 (((f : Nat) : Int) + ((i : Nat) : Int)) = ((f + i : Nat) : Int) := by rw [IntWalk.i64_in _ (by omega)]; omega
      have w2 : IntKind.wrap IntKind.i64 (((f + i : Nat) : Int) + 1) = ((f + i + 1 : Nat) : Int) := by rw [IntWalk.i64_in _ (by omega)]; omega
      have e3 : ∀ j : Nat, 0 + Int.toNat ((j : Nat) : Int) = j := fun j => by omega
      cases b with
      | false =>
        simp only [legStop, legI, legT, cond_true, w1, leg_tmod, e3, partOf, legAt]
        have q3 := q3 rfl
        rw [IntWalk.i64_in (a2 - t) (by omega)]
      | true =>
        have q4 := q4 rfl
        have hmul : legGo (rowP a1) (f + i) * a0.times.travel ≤ 63 * 60 := Int.mul_le_mul hGo s4 (by omega) (by omega)
        have hm0 : 0 ≤ (a2 - (t + stopG a0)) / a0.times.travel * a0.times.travel := Int.mul_nonneg (Int.ediv_nonneg (by omega) (by omega)) (by omega)
        have hm1 : (a2 - (t + stopG a0)) / a0.times.travel * a0.times.travel ≤ a2 - (t + stopG a0) := Int.ediv_mul_le _ (by omega)
        have w3 := IntWalk.i64_in (t + stopG a0) (by omega)
        simp only [legAt] at hA hB
        have w4 := IntWalk.i64_in ((rowP a1).getD ((f + i + 1) % (rowP a1).length) 0 - (rowP a1).getD ((f + i) % (rowP a1).length) 0) (by omega)
        have w5 := IntWalk.i64_in (a2 - (t + stopG a0 + (a2 - (t + stopG a0)) / a0.times.travel * a0.times.travel)) (by omega)
        simp only [legStop, legRide, legI, legT, cond_true, cond_false, w1, w2, w3, w4, w5, leg_tmod, e3, partOf, legAt]

theorem signI_ne (n : Int) : signI n ≠ 0 := by
  unfold signI
  cases decide (n > 0) <;> simp

/-- What is known of the part of a round. -/
theorem within_facts {g : Gear} {p : Plan} {ph : Int} (h : smallP p = true) (he : (cycle_within g p ph).2.2 = 0) :
    planB g p = true ∧ 0 ≤ (cycle_within g p ph).2.1 ∧ ((cycle_within g p ph).1.dir ≠ 0 → (cycle_within g p ph).2.1 < g.times.travel) ∧ ((cycle_within g p ph).1.dir = 0 → (cycle_within g p ph).2.1 < stopG g) := by
  cases hp : planB g p with
  | false => simp [cycle_within, hp] at he
  | true =>
    obtain ⟨hG, h2, h70, hL, hpl, p1, p2, hall, hlo⟩ := plan_facts h hp
    obtain ⟨s1, s2, s3, s4⟩ := stopG_pos hG
    simp only [cycle_within, hp, cond_true] at he ⊢
    cases hq : legOf g p ph with
    | none => rw [hq] at he; simp [partOf] at he
    | some r =>
      obtain ⟨b, i, t⟩ := r
      obtain ⟨q1, q2, q3, q4⟩ := legsFind_spec hq
      cases b with
      | false =>
        have q3 := q3 rfl
        simp only [partOf]
        exact ⟨trivial, by omega, fun hx => absurd rfl hx, fun _ => by omega⟩
      | true =>
        have q4 := q4 rfl
        simp only [partOf]
        have e1 := Int.emod_nonneg (ph - (t + stopG g)) (show g.times.travel ≠ 0 by omega)
        have e2 := Int.emod_lt_of_pos (ph - (t + stopG g)) (show 0 < g.times.travel by omega)
        have e3 := Int.mul_ediv_add_emod (ph - (t + stopG g)) g.times.travel
        rw [Int.mul_comm] at e3
        refine ⟨trivial, by omega, fun _ => by omega, fun hx => absurd hx (signI_ne _)⟩

theorem gear_facts {g : Gear} (h : gearB g = true) : 1 ≤ g.times.level ∧ g.times.level ≤ 480 ∧ 1 ≤ g.times.open_ ∧ g.times.open_ ≤ 480 ∧ 1 ≤ g.dwell ∧ g.dwell ≤ 480 ∧ 1 ≤ g.times.close ∧ g.times.close ≤ 480 := by
  simp only [gearB_iff, timesB_iff] at h
  omega

theorem run_cycle_At (a0 : Gear) (a1 : Plan) (a2 : Int) (hg : smallGP3 a0 a1 a2 = true) : ∃ F d, run k37 F d 11 Try.f11 s_cycle_At (a0, a1, a2, ()) = some (r_cycle_At.enc (cycle_At a0 a1 a2)) := by
  refine ⟨200, 6, ?_⟩
  rw [tree_cycle_At]
  have hs : smallP a1 = true := hg
  simp only [hg, beqn, ble0, Bool.and_self, Bool.and_true, Bool.true_and, cond_true]
  simp only [r_cycle_At, Res.tup2, Res.int, Res.agg, cycle_At]
  cases he : ((cycle_within a0 a1 a2).2.2 == 0) with
  | false =>
    have hne : ((cycle_within a0 a1 a2).2.2 != 0) = true := by simp [bne, he]
    rw [hne]
    rfl
  | true =>
    have hne : ((cycle_within a0 a1 a2).2.2 != 0) = false := by simp [bne, he]
    have he' : (cycle_within a0 a1 a2).2.2 = 0 := by simpa using he
    obtain ⟨hp, w1, w2, w3⟩ := within_facts hs he'
    obtain ⟨hG, _⟩ := plan_facts hs hp
    obtain ⟨s1, s2, s3, s4⟩ := stopG_pos hG
    obtain ⟨g1, g2, g3, g4, g5, g6, g7, g8⟩ := gear_facts hG
    rw [hne]
    simp only [cond_true, cond_false]
    generalize cycle_within a0 a1 a2 = W at *
    obtain ⟨x, n, e⟩ := W
    simp only at *
    have hn : n ≤ 480 := by
      by_cases hd : x.dir = 0
      · have := w3 hd; omega
      · have := w2 hd; omega
    rw [IntWalk.i64_in (a0.times.travel - n) (by omega), IntWalk.i64_in (a0.times.level - n) (by omega), IntWalk.i64_in (n - a0.times.level) (by omega), IntWalk.i64_in (n - a0.times.level - a0.times.open_) (by omega), IntWalk.i64_in (n - a0.times.level - a0.times.open_ - a0.dwell) (by omega),
      IntWalk.i64_in (a0.times.open_ - (n - a0.times.level)) (by omega), IntWalk.i64_in (a0.dwell - (n - a0.times.level - a0.times.open_)) (by omega), IntWalk.i64_in (a0.times.close - (n - a0.times.level - a0.times.open_ - a0.dwell)) (by omega)]
    unfold atPart doorsAt
    cases (n == 0)
    · cases (x.dir != 0)
      · cases decide (n < a0.times.level)
        · cases decide (n - a0.times.level < a0.times.open_)
          · cases decide (n - a0.times.level - a0.times.open_ < a0.dwell)
            · cases decide (n - a0.times.level - a0.times.open_ - a0.dwell < a0.times.close) <;> rfl
            · rfl
          · rfl
        · rfl
      · rfl
    · rfl

theorem run_cycle_Cmd (a0 : Gear) (a1 : Plan) (a2 : Int) (hg : smallGP3 a0 a1 a2 = true) : ∃ F d, run k38 F d 13 Try.f13 s_cycle_Cmd (a0, a1, a2, ()) = some (r_cycle_Cmd.enc (cycle_Cmd a0 a1 a2)) := by
  refine ⟨200, 6, ?_⟩
  rw [tree_cycle_Cmd]
  simp only [hg, beqn, ble0, Bool.and_self, Bool.and_true, Bool.true_and, cond_true]
  simp only [r_cycle_Cmd, Res.tup2, Res.int, cycle_Cmd, cmdPart]
  rw [show ((cycle_within a0 a1 a2).2.2 != 0) = !((cycle_within a0 a1 a2).2.2 == 0) from rfl]
  cases ((cycle_within a0 a1 a2).2.2 == 0)
  · rfl
  · cases decide ((cycle_within a0 a1 a2).2.1 > 0)
    · cases decide ((cycle_within a0 a1 a2).1.dir > 0)
      · cases decide ((cycle_within a0 a1 a2).1.dir < 0) <;> rfl
      · rfl
    · rfl

theorem go_sride (l0 l10 : List (Int)) (v1_0 v1_1 v1_2 v1_3 v1_4 v1_5 v1_6 v1_7 v1_8 v1_9 v2_1 v2_2 v3_0 v4_0 v5_0 v6_0 v6_1 v6_2 v6_3 v6_4 v6_5 v6_6 v6_7 v6_8 v6_9 v7_1 v7_2 v11_0 v11_1 v11_2 v5 v6 v8 v9 v10 v18 v19 : Int) (F d : Nat) (ht1 : 1 ≤ v6_1) (ht2 : v6_1 ≤ 60) (hdir : v10 = 1 ∨ v10 = -1) (hb1 : 0 ≤ v9) (hb2 : v9 ≤ 64) : ∀ (r n : Nat) (at_ a : Int), r < n → v9 - a = (r : Int) * v10 → r ≤ 64 → 0 ≤ at_ → at_ ≤ 1000000 + (64 - (r : Int)) * 60 → 0 ≤ a → a ≤ 64 →
    I_sride F (d + 3) n (S_sride l0 l10 v1_0 v1_1 v1_2 v1_3 v1_4 v1_5 v1_6 v1_7 v1_8 v1_9 v2_1 v2_2 v3_0 v4_0 v5_0 v6_0 v6_1 v6_2 v6_3 v6_4 v6_5 v6_6 v6_7 v6_8 v6_9 v7_1 v7_2 v11_0 v11_1 v11_2 v5 at_ a v9 v10 v18 v19) = some (.exit 2, (X_sride_1 l0 l10 v1_0 v1_1 v1_2 v1_3 v1_4 v1_5 v1_6 v1_7 v1_8 v1_9 v2_1 v2_2 v3_0 v4_0 v5_0 v6_0 v6_1 v6_2 v6_3 v6_4 v6_5 v6_6 v6_7 v6_8 v6_9 v7_1 v7_2 v11_0 v11_1 v11_2 v5 (at_ + (r : Int) * v6_1) v18 v19)) := by
  intro r
  induction r with
  | zero =>
    intro n at_ a hn hr h64 h0 h1 ha0 ha1
    obtain ⟨n, rfl⟩ : ∃ m, n = m + 1 := ⟨n - 1, by omega⟩
    rw [step_sride]
    have e : (a != v9) = false := by
      have : a = v9 := by simp at hr; omega
      simp [this]
    rw [e, cond_false]
    simp
  | succ r ih =>
    intro n at_ a hn hr h64 h0 h1 ha0 ha1
    obtain ⟨n, rfl⟩ : ∃ m, n = m + 1 := ⟨n - 1, by omega⟩
    rw [step_sride]
    have hr' : v9 - (a + v10) = (r : Int) * v10 := by
      have : ((r + 1 : Nat) : Int) * v10 = (r : Int) * v10 + v10 := by rw [Int.natCast_add, Int.add_mul]; simp
      omega
    have hne : a ≠ v9 := by
      intro h
      rcases hdir with rfl | rfl <;> simp at hr <;> omega
    have e : (a != v9) = true := by simp [hne]
    have ed : (v10 != 0) = true := by rcases hdir with rfl | rfl <;> rfl
    have w1 := IntWalk.i64_in (at_ + v6_1) (by omega)
    have w2 := IntWalk.i64_in (a + v10) (by omega)
    have hmul : ((r + 1 : Nat) : Int) * v6_1 = (r : Int) * v6_1 + v6_1 := by rw [Int.natCast_add, Int.add_mul]; simp
    rw [e, cond_true, ed, cond_true, w1, w2]
    rw [ih n (at_ + v6_1) (a + v10) (by omega) hr' (by omega) (by omega) (by omega) (by rcases hdir with rfl | rfl <;> simp at hr <;> omega) (by rcases hdir with rfl | rfl <;> simp at hr <;> omega)]
    rw [show at_ + v6_1 + (r : Int) * v6_1 = at_ + ((r + 1 : Nat) : Int) * v6_1 by rw [hmul]; omega]

theorem main_sride (l0 l10 : List (Int)) (v1_0 v1_1 v1_2 v1_3 v1_4 v1_5 v1_6 v1_7 v1_8 v1_9 v2_1 v2_2 v3_0 v4_0 v5_0 v6_0 v6_1 v6_2 v6_3 v6_4 v6_5 v6_6 v6_7 v6_8 v6_9 v7_1 v7_2 v11_0 v11_1 v11_2 v5 v6 v8 v9 v10 v18 v19 : Int) (hg : (rideOk v6 v6_1 v8 v9 v10) = true) : ∃ N d, I_sride N d N (S_sride l0 l10 v1_0 v1_1 v1_2 v1_3 v1_4 v1_5 v1_6 v1_7 v1_8 v1_9 v2_1 v2_2 v3_0 v4_0 v5_0 v6_0 v6_1 v6_2 v6_3 v6_4 v6_5 v6_6 v6_7 v6_8 v6_9 v7_1 v7_2 v11_0 v11_1 v11_2 v5 v6 v8 v9 v10 v18 v19) = some (altK Prod.mk [] (.exit 2) (X_sride_1 l0 l10 v1_0 v1_1 v1_2 v1_3 v1_4 v1_5 v1_6 v1_7 v1_8 v1_9 v2_1 v2_2 v3_0 v4_0 v5_0 v6_0 v6_1 v6_2 v6_3 v6_4 v6_5 v6_6 v6_7 v6_8 v6_9 v7_1 v7_2 v11_0 v11_1 v11_2 v5 (v6 + ((v9 - v8).natAbs : Int) * v6_1) v18 v19)) := by
  simp only [rideOk, Bool.and_eq_true, decide_eq_true_eq, beq_iff_eq] at hg
  obtain ⟨h1, h2, h3, h4, h5, h6, h7, h8, rfl⟩ := hg
  have hdir : signI (v9 - v8) = 1 ∨ signI (v9 - v8) = -1 := by
    unfold signI
    cases decide (v9 - v8 > 0)
    · exact .inr rfl
    · exact .inl rfl
  have hr : v9 - v8 = ((v9 - v8).natAbs : Int) * signI (v9 - v8) := by
    unfold signI
    cases hd : decide (v9 - v8 > 0)
    · simp only [decide_eq_false_iff_not] at hd
      simp only [cond_false]
      omega
    · simp only [decide_eq_true_eq] at hd
      simp only [cond_true]
      omega
  have := go_sride l0 l10 v1_0 v1_1 v1_2 v1_3 v1_4 v1_5 v1_6 v1_7 v1_8 v1_9 v2_1 v2_2 v3_0 v4_0 v5_0 v6_0 v6_1 v6_2 v6_3 v6_4 v6_5 v6_6 v6_7 v6_8 v6_9 v7_1 v7_2 v11_0 v11_1 v11_2 v5 v6 v8 v9 (signI (v9 - v8)) v18 v19 100 0 h3 h4 hdir h7 h8 (v9 - v8).natAbs 100 v6 v8 (by omega) hr (by omega) h1 (by omega) h5 h6
  exact ⟨100, 3, this⟩

theorem go_sstop (l0 l10 : List (Int)) (v1_0 v1_1 v1_2 v1_3 v1_4 v1_5 v1_6 v1_7 v1_8 v1_9 v2_1 v2_2 v3_0 v4_0 v5_0 v6_0 v6_1 v6_2 v6_3 v6_4 v6_5 v6_6 v6_7 v6_8 v6_9 v7_1 v7_2 v5 v6 v18 v19 : Int) (F d f : Nat) (hG : gearB (⟨v6_0, ⟨v6_1, v6_2, v6_3, v6_4, v6_5, v6_6, v6_7⟩, v6_8, v6_9⟩ : Gear) = true) (hN : l10.length ≤ 138) (hall : ∀ x ∈ l10, 0 ≤ x ∧ x ≤ 63) (hf : f < l10.length) : ∀ (m i n : Nat) (at_ : Int), i + m < l10.length → m + 1 < n → 0 ≤ at_ → at_ ≤ (i : Int) * 4400 →
    I_sstop F (d + 3) n (S_sstop l0 l10 v1_0 v1_1 v1_2 v1_3 v1_4 v1_5 v1_6 v1_7 v1_8 v1_9 v2_1 v2_2 v3_0 v4_0 ((m : Nat) : Int) v6_0 v6_1 v6_2 v6_3 v6_4 v6_5 v6_6 v6_7 v6_8 v6_9 v7_1 v7_2 ((f : Nat) : Int) at_ ((l10.length : Nat) : Int) ((i : Nat) : Int)) = some (.exit 0, (X_sstop_0 l0 l10 v1_0 v1_1 v1_2 v1_3 v1_4 v1_5 v1_6 v1_7 v1_8 v1_9 v2_1 v2_2 0 v6_0 v6_1 v6_2 v6_3 v6_4 v6_5 v6_6 v6_7 v6_8 v6_9 v7_1 v7_2 ((f : Nat) : Int) (at_ + legsSum (⟨v6_0, ⟨v6_1, v6_2, v6_3, v6_4, v6_5, v6_6, v6_7⟩, v6_8, v6_9⟩ : Gear) l10 f i m) ((i + m : Nat) : Int))) := by
  obtain ⟨s1, s2, s3, s4⟩ := stopG_pos hG
  simp only at s3 s4
  have hL : 0 < l10.length := by omega
  intro m
  induction m with
  | zero =>
    intro i n at_ him hn h0 h1
    obtain ⟨n, rfl⟩ : ∃ k, n = k + 1 := ⟨n - 1, by omega⟩
    rw [step_sstop]
    have e : decide (((i : Nat) : Int) < ((l10.length : Nat) : Int)) = true := by simp; omega
    have e0 : (((l10.length : Nat) : Int) != 0) = true := by rw [bne_iff_ne]; omega
    have w1 : IntKind.wrap IntKind.i64 (((f : Nat) : Int) + ((i : Nat) : Int)) = ((f + i : Nat) : Int) := by rw [IntWalk.i64_in _ (by omega)]; omega
    have w2 : IntKind.wrap IntKind.i64 (((f + i : Nat) : Int) + 1) = ((f + i + 1 : Nat) : Int) := by rw [IntWalk.i64_in _ (by omega)]; omega
    have m1 := legAt_lt hL (f + i)
    have m2 := legAt_lt hL (f + i + 1)
    have e1 : ∀ j : Nat, j < l10.length → (decide (0 ≤ ((j : Nat) : Int)) && decide (((j : Nat) : Int) < ((l10.length : Nat) : Int))) = true := fun j hj => by simp; omega
    have e2 : ∀ j : Nat, j < l10.length → decide (j < l10.length) = true := fun j hj => by simpa using hj
    have e3 : ∀ j : Nat, 0 + Int.toNat ((j : Nat) : Int) = j := fun j => by omega
    have ez : (((0 : Nat) : Int) == 0) = true := rfl
    simp only [w1, w2, leg_tmod, e1 _ m1, e1 _ m2, e2 _ m1, e2 _ m2, e3, e, e0, ez, hG, Bool.and_self, Bool.and_true, Bool.true_and, cond_true, beqn, legsSum, Int.add_zero, Nat.add_zero]
    rfl
  | succ m ih =>
    intro i n at_ him hn h0 h1
    obtain ⟨n, rfl⟩ : ∃ k, n = k + 1 := ⟨n - 1, by omega⟩
    rw [step_sstop]
    have e : decide (((i : Nat) : Int) < ((l10.length : Nat) : Int)) = true := by simp; omega
    have e0 : (((l10.length : Nat) : Int) != 0) = true := by rw [bne_iff_ne]; omega
    have w1 : IntKind.wrap IntKind.i64 (((f : Nat) : Int) + ((i : Nat) : Int)) = ((f + i : Nat) : Int) := by rw [IntWalk.i64_in _ (by omega)]; omega
    have w2 : IntKind.wrap IntKind.i64 (((f + i : Nat) : Int) + 1) = ((f + i + 1 : Nat) : Int) := by rw [IntWalk.i64_in _ (by omega)]; omega
    have w3 : IntKind.wrap IntKind.i64 (((i : Nat) : Int) + 1) = ((i + 1 : Nat) : Int) := by rw [IntWalk.i64_in _ (by omega)]; omega
    have w4 : IntKind.wrap IntKind.i64 (((m + 1 : Nat) : Int) - 1) = ((m : Nat) : Int) := by rw [IntWalk.i64_in _ (by omega)]; omega
    have m1 := legAt_lt hL (f + i)
    have m2 := legAt_lt hL (f + i + 1)
    have e1 : ∀ j : Nat, j < l10.length → (decide (0 ≤ ((j : Nat) : Int)) && decide (((j : Nat) : Int) < ((l10.length : Nat) : Int))) = true := fun j hj => by simp; omega
    have e2 : ∀ j : Nat, j < l10.length → decide (j < l10.length) = true := fun j hj => by simpa using hj
    have e3 : ∀ j : Nat, 0 + Int.toNat ((j : Nat) : Int) = j := fun j => by omega
    have ez : (((m + 1 : Nat) : Int) == 0) = false := by rw [beq_eq_false_iff_ne]; omega
    have a1 := legAt_in hL hall (f + i)
    have a2 := legAt_in hL hall (f + i + 1)
    simp only [w1, w2, w3, w4, leg_tmod, e1 _ m1, e1 _ m2, e2 _ m1, e2 _ m2, e3, e, e0, ez, hG, Bool.and_self, Bool.and_true, Bool.true_and, cond_true, cond_false, beqn]
    change 0 ≤ l10.getD ((f + i) % l10.length) 0 ∧ _ at a1
    change 0 ≤ l10.getD ((f + i + 1) % l10.length) 0 ∧ _ at a2
    have wst := IntWalk.i64_in (at_ + stopG (⟨v6_0, ⟨v6_1, v6_2, v6_3, v6_4, v6_5, v6_6, v6_7⟩, v6_8, v6_9⟩ : Gear)) (by omega)
    have wba := IntWalk.i64_in (l10.getD ((f + i + 1) % l10.length) 0 - l10.getD ((f + i) % l10.length) 0) (by simp only [legAt] at a1 a2; omega)
    rw [wst, wba]
    have hrd : rideOk (at_ + stopG (⟨v6_0, ⟨v6_1, v6_2, v6_3, v6_4, v6_5, v6_6, v6_7⟩, v6_8, v6_9⟩ : Gear)) v6_1 (l10.getD ((f + i) % l10.length) 0) (l10.getD ((f + i + 1) % l10.length) 0) (signI (l10.getD ((f + i + 1) % l10.length) 0 - l10.getD ((f + i) % l10.length) 0)) = true := by
      simp only [legAt] at a1 a2
      simp only [rideOk, Bool.and_eq_true, decide_eq_true_eq, beq_self_eq_true, and_true]
      omega
    rw [hrd, cond_true]
    have hmul : 0 ≤ ((l10.getD ((f + i + 1) % l10.length) 0 - l10.getD ((f + i) % l10.length) 0).natAbs : Int) * v6_1 ∧ ((l10.getD ((f + i + 1) % l10.length) 0 - l10.getD ((f + i) % l10.length) 0).natAbs : Int) * v6_1 ≤ 64 * 60 := by
      simp only [legAt] at a1 a2
      refine ⟨Int.mul_nonneg (by omega) (by omega), Int.mul_le_mul (by omega) s4 (by omega) (by omega)⟩
    rw [ih (i + 1) n _ (by omega) (by omega) (by omega) (by omega)]
    simp only [legsSum, legGo, legAt]
    rw [show i + (m + 1) = i + 1 + m by omega]
    simp only [Int.add_assoc]

theorem main_sstop (l0 l10 : List (Int)) (v1_0 v1_1 v1_2 v1_3 v1_4 v1_5 v1_6 v1_7 v1_8 v1_9 v2_1 v2_2 v3_0 v4_0 v5_0 v6_0 v6_1 v6_2 v6_3 v6_4 v6_5 v6_6 v6_7 v6_8 v6_9 v7_1 v7_2 v5 v6 v18 v19 : Int) (hg : (legsOk (⟨v6_0, ⟨v6_1, v6_2, v6_3, v6_4, v6_5, v6_6, v6_7⟩, v6_8, v6_9⟩ : Gear) l10 v5 v6 v18 v19 && (decide (0 ≤ v5_0) && decide (v5_0 < v18))) = true) : ∃ N d, I_sstop N d N (S_sstop l0 l10 v1_0 v1_1 v1_2 v1_3 v1_4 v1_5 v1_6 v1_7 v1_8 v1_9 v2_1 v2_2 v3_0 v4_0 v5_0 v6_0 v6_1 v6_2 v6_3 v6_4 v6_5 v6_6 v6_7 v6_8 v6_9 v7_1 v7_2 v5 v6 v18 v19) = some (altK Prod.mk [] (.exit 0) (X_sstop_0 l0 l10 v1_0 v1_1 v1_2 v1_3 v1_4 v1_5 v1_6 v1_7 v1_8 v1_9 v2_1 v2_2 0 v6_0 v6_1 v6_2 v6_3 v6_4 v6_5 v6_6 v6_7 v6_8 v6_9 v7_1 v7_2 v5 (legsSum (⟨v6_0, ⟨v6_1, v6_2, v6_3, v6_4, v6_5, v6_6, v6_7⟩, v6_8, v6_9⟩ : Gear) l10 v5.toNat 0 v5_0.toNat) v5_0)) := by
  simp only [legsOk, Bool.and_eq_true, decide_eq_true_eq, beq_iff_eq, List.all_eq_true] at hg
  obtain ⟨⟨hG, h1, h2, h3, h4, rfl, rfl, rfl⟩, h5, h6⟩ := hg
  obtain ⟨f, rfl⟩ : ∃ f : Nat, v5 = (f : Int) := ⟨v5.toNat, by omega⟩
  obtain ⟨m, rfl⟩ : ∃ m : Nat, v5_0 = (m : Int) := ⟨v5_0.toNat, by omega⟩
  have := go_sstop l0 l10 v1_0 v1_1 v1_2 v1_3 v1_4 v1_5 v1_6 v1_7 v1_8 v1_9 v2_1 v2_2 v3_0 v4_0 0 v6_0 v6_1 v6_2 v6_3 v6_4 v6_5 v6_6 v6_7 v6_8 v6_9 v7_1 v7_2 0 0 0 0 200 0 f hG h1 h2 (by omega) m 0 200 0 (by omega) (by omega) (by omega) (by omega)
  refine ⟨200, 3, ?_⟩
  rw [show ((f : Nat) : Int).toNat = f by omega, show ((m : Nat) : Int).toNat = m by omega]
  rw [Int.zero_add] at this
  simpa [altK] using this

theorem run_cycle_Shift (a0 : Gear) (a1 : Plan) (hg : smallGP a0 a1 = true) : ∃ F d, run k41 F d 19 Try.f19 s_cycle_Shift (a0, a1, ()) = some (r_cycle_Shift.enc (cycle_Shift a0 a1)) := by
  refine ⟨200, 6, ?_⟩
  rw [tree_cycle_Shift]
  have hgp : smallGP a0 a1 = true := hg
  have hs : smallP a1 = true := hg
  simp only [cycle_check, errOf_ne _ 220 (by decide), hgp, beqn, ble0, Bool.and_self, Bool.and_true, Bool.true_and, cond_true]
  simp only [r_cycle_Shift, Res.tup2, Res.int, cycle_Shift]
  cases hp : planB a0 a1
  · rfl
  · obtain ⟨hG, h2, h70, hL, hpl, p1, p2, hall, hlo⟩ := plan_facts hs hp
    have hp0 : placeP { stops := Plan.stops a1, cars := Plan.cars a1, car := 0 } 0 = 0 := by simp [placeP]
    have hr0 : rowP { stops := Plan.stops a1, cars := Plan.cars a1, car := 0 } = rowP a1 := rfl
    have hs0 : smallP { stops := Plan.stops a1, cars := Plan.cars a1, car := 0 } = true := hs
    have hpl0 : placeOk { stops := Plan.stops a1, cars := Plan.cars a1, car := 0 } 0 = true := by
      simp only [placeOk, Bool.and_eq_true, decide_eq_true_eq] at hpl ⊢
      exact ⟨hs0, hpl.2.1, hpl.2.2.1, by omega, by omega⟩
    have hlo0 : legsOk a0 (rowP a1) 0 0 ((rowP a1).length : Int) 0 = true := by
      simp only [legsOk, Bool.and_eq_true, decide_eq_true_eq, beq_self_eq_true, List.all_eq_true, and_true] at hlo ⊢
      exact ⟨hlo.1, hlo.2.1, hlo.2.2.1, by omega, by omega⟩
    have e1 : decide (0 ≤ placeP a1 a1.car) = true := by simpa using p1
    have e2 : decide (placeP a1 a1.car < ((rowP a1).length : Int)) = true := by simpa using p2
    simp only [hp0, hr0, hs0, hpl0, hlo0, hpl, e1, e2, Bool.and_self, Bool.and_true, cond_true, cond_false, Bool.not_true, beqn]
    rfl

theorem run_newelref22_Few (a0 : Plan) : ∃ F d, run k43 F d 9 Try.f9 s_newelref22_Few (a0, ()) = some (r_newelref22_Few.enc (few22 a0)) := by
  refine ⟨200, 6, ?_⟩
  rw [tree_newelref22_Few]
  simp only [r_newelref22_Few, Res.bool, few22]
  congr 2
  rw [Bool.eq_iff_iff]
  simp
  omega

theorem run_newellaw22_own (a0 : Plan) (hg : few22 a0 = true) : ∃ F d, runO k42 F d 12 Try.f12 s_newellaw22_own r_newellaw22_own (a0, ()) = some (own22 a0) := by
  refine ⟨200, 6, ?_⟩
  rw [tree_newellaw22_own]
  have h : a0.stops.length ≤ 70 := by simpa [few22] using hg
  have e : Nat.ble a0.stops.length 1048576 = true := by simp; omega
  simp only [beqn, ble0, e, Bool.true_and, Bool.and_true, Bool.and_self, cond_true, List.nil_append, own22]
end Go.Proofs.Ytlnfojhmgncfiaa.Px.PxU
