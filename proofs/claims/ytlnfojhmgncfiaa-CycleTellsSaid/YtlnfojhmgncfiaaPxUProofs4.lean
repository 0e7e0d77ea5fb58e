/- What the document says of a round. -/
import Derived.Test.YtlnfojhmgncfiaaPxUProofs3
import Derived.Test.YtlnfojhmgncfiaaPxSpecCycle
set_option linter.unusedVariables false
set_option linter.unusedSimpArgs false
namespace Go.Proofs.Ytlnfojhmgncfiaa.Px.PxU
open Go Go.Proofs
set_option linter.unusedSimpArgs false
set_option linter.unusedVariables false

theorem run_newelref22_Many (a0 : Plan) (hg : smallP a0 = true) : ∃ F d, run k49 F d 27 Try.f27 s_newelref22_Many (a0, ()) = some (r_newelref22_Many.enc (manyP a0)) := by
  refine ⟨200, 6, ?_⟩
  rw [tree_newelref22_Many]
  have h : a0.stops.length ≤ 70 := by simpa [smallP] using hg
  rw [IntWalk.i64_in (2 * ((a0.stops.length : Nat) : Int)) (by omega), IntWalk.i64_in (2 * ((a0.stops.length : Nat) : Int) - 2) (by omega)]
  rfl

theorem sizeP_iff {p : Plan} : sizeP p = true ↔ p.stops.length ≤ 70 ∧ 2 ≤ p.stops.length := by simp [sizeP]
theorem sizeP_small {p : Plan} (h : sizeP p = true) : smallP p = true := by
  rw [sizeP_iff] at h
  simp [smallP, h.1]

theorem run_newelref22_Stop (a0 : Plan) (a1 : Int) (hg : stopROk a0 a1 = true) : ∃ F d, run k50 F d 20 Try.f20 s_newelref22_Stop (a0, a1, ()) = some (r_newelref22_Stop.enc (stopR a0 a1)) := by
  refine ⟨200, 6, ?_⟩
  rw [tree_newelref22_Stop]
  simp only [stopROk, Bool.and_eq_true, decide_eq_true_eq] at hg
  obtain ⟨hz, h0, h1⟩ := hg
  have hs := sizeP_small hz
  rw [sizeP_iff] at hz
  obtain ⟨i, rfl⟩ : ∃ i : Nat, a1 = (i : Int) := ⟨a1.toNat, by omega⟩
  have hN : (rowP a0).length = 2 * a0.stops.length - 2 := rowL_length hz.2
  have hm : manyP a0 = ((2 * a0.stops.length - 2 : Nat) : Int) := by unfold manyP; omega
  have hmne : (manyP a0 != 0) = true := by rw [bne_iff_ne, hm]; omega
  have ht : Int.tmod ((i : Nat) : Int) (manyP a0) = ((i % (2 * a0.stops.length - 2) : Nat) : Int) := by
    rw [hm, Int.tmod_eq_emod_of_nonneg (by omega)]; rfl
  have hlt : i % (2 * a0.stops.length - 2) < 2 * a0.stops.length - 2 := Nat.mod_lt _ (by omega)
  have hleg : legAt (rowP a0) i = (rowP a0).getD (i % (2 * a0.stops.length - 2)) 0 := by unfold legAt; rw [hN]
  simp only [r_newelref22_Stop, Res.int, stopR, Int.toNat_natCast, hleg, ht, hmne, hs, beqn, ble0, Bool.and_self, Bool.and_true, Bool.true_and, cond_true]
  generalize i % (2 * a0.stops.length - 2) = m at *
  by_cases hk : m < a0.stops.length
  · have e1 : decide (((m : Nat) : Int) < ((a0.stops.length : Nat) : Int)) = true := by simp; omega
    have e2 : decide ((0 : Int) ≤ ((m : Nat) : Int)) = true := by simp
    have e3 : decide (m < a0.stops.length) = true := by simp; omega
    simp only [e1, e2, Int.toNat_natCast, Nat.zero_add, e3, Bool.and_self, cond_true]
    unfold rowP
    rw [rowL_lo hk]
  · have e1 : decide (((m : Nat) : Int) < ((a0.stops.length : Nat) : Int)) = false := by simp; omega
    have e4 : IntKind.wrap IntKind.i64 (manyP a0 - ((m : Nat) : Int)) = ((2 * a0.stops.length - 2 - m : Nat) : Int) := by rw [IntWalk.i64_in _ (by omega)]; omega
    have e2 : (decide ((0 : Int) ≤ ((2 * a0.stops.length - 2 - m : Nat) : Int)) && decide (((2 * a0.stops.length - 2 - m : Nat) : Int) < ((a0.stops.length : Nat) : Int))) = true := by simp; omega
    have e3 : decide (2 * a0.stops.length - 2 - m < a0.stops.length) = true := by simp; omega
    simp only [e1, e4, e2, Int.toNat_natCast, Nat.zero_add, e3, Bool.and_self, cond_true, cond_false]
    unfold rowP
    rw [rowL_hi (by omega) hlt]

theorem place_wrap {p : Plan} {n : Int} (h : p.stops.length ≤ 70) (h2 : 2 ≤ p.stops.length) (c1 : 1 ≤ p.cars) (n0 : 0 ≤ n) (n1 : n ≤ 8) : IntKind.wrap IntKind.i64 (Int.tdiv (IntKind.wrap IntKind.i64 (n * manyP p)) p.cars) = placeP p n ∧ 0 ≤ placeP p n ∧ placeP p n ≤ 1104 := by
  have b1 : n * manyP p ≤ 8 * 138 := Int.mul_le_mul n1 (by unfold manyP; omega) (by unfold manyP; omega) (by omega)
  have b2 : 0 ≤ n * manyP p := Int.mul_nonneg n0 (by unfold manyP; omega)
  have e : placeP p n = Int.tdiv (n * manyP p) p.cars := rfl
  have hn := Int.natAbs_tdiv_le_natAbs (n * manyP p) p.cars
  have hnn : 0 ≤ Int.tdiv (n * manyP p) p.cars := Int.tdiv_nonneg b2 (by omega)
  rw [IntWalk.i64_in (n * manyP p) (by omega), IntWalk.i64_in (Int.tdiv (n * manyP p) p.cars) (by omega), e]
  exact ⟨rfl, hnn, by omega⟩

theorem run_newelref22_Place (a0 : Plan) (hg : placeROk a0 = true) : ∃ F d, run k51 F d 21 Try.f21 s_newelref22_Place (a0, ()) = some (r_newelref22_Place.enc (placeR a0)) := by
  refine ⟨200, 6, ?_⟩
  rw [tree_newelref22_Place]
  simp only [placeROk, Bool.and_eq_true, decide_eq_true_eq] at hg
  obtain ⟨hz, c1, c2, c3, c4⟩ := hg
  have hs := sizeP_small hz
  rw [sizeP_iff] at hz
  have e0 : (a0.cars != 0) = true := by rw [bne_iff_ne]; omega
  simp only [hs, e0, beqn, ble0, Bool.and_self, Bool.and_true, Bool.true_and, cond_true, (place_wrap hz.1 hz.2 c1 c3 c4).1]
  rfl

theorem run_newelref22_Begin (a0 : Plan) (hg : placeROk a0 = true) : ∃ F d, run k52 F d 28 Try.f28 s_newelref22_Begin (a0, ()) = some (r_newelref22_Begin.enc (beginR a0)) := by
  refine ⟨200, 6, ?_⟩
  rw [tree_newelref22_Begin]
  have hg' := hg
  simp only [placeROk, Bool.and_eq_true, decide_eq_true_eq] at hg'
  obtain ⟨hz, c1, c2, c3, c4⟩ := hg'
  have hz' := hz
  rw [sizeP_iff] at hz'
  obtain ⟨_, p1, p2⟩ := place_wrap hz'.1 hz'.2 c1 c3 c4
  have hso : stopROk a0 (placeR a0) = true := by
    rw [stopROk, hz, Bool.true_and, Bool.and_eq_true, decide_eq_true_eq, decide_eq_true_eq]
    exact ⟨p1, by unfold placeR; omega⟩
  simp only [hg, hso, beqn, ble0, Bool.and_self, Bool.and_true, Bool.true_and, cond_true]
  rfl

theorem run_newelref22_told (a0 : Plan) (a1 : Going) (hg : toldOk a0 a1 = true) : ∃ F d, run k53 F d 41 Try.f41 s_newelref22_told (a0, a1, ()) = some (r_newelref22_told.enc (toldR a0 a1)) := by
  refine ⟨200, 6, ?_⟩
  rw [tree_newelref22_told]
  have hso : stopROk a0 a1.next = true := hg
  simp only [hso, beqn, ble0, Bool.and_self, Bool.and_true, Bool.true_and, cond_true]
  simp only [r_newelref22_told, Res.agg, toldR, toldCmd, cGoing_enc]
  rw [show (a1.c.phase != 0) = !(a1.c.phase == 0) from rfl]
  cases hp : (a1.c.phase == 0)
  · rfl
  · simp only [Bool.not_true, cond_false, cond_true]
    by_cases h1 : a1.c.floor = stopR a0 a1.next
    · have e1 : (a1.c.floor == stopR a0 a1.next) = true := by simpa using h1
      have e2 : decide (a1.c.floor < stopR a0 a1.next) = false := by simp; omega
      have e3 : decide (a1.c.floor > stopR a0 a1.next) = false := by simp; omega
      simp only [e1, e2, e3, cond_true, cond_false]
    · have e1 : (a1.c.floor == stopR a0 a1.next) = false := by simpa using h1
      by_cases h2 : a1.c.floor < stopR a0 a1.next
      · have e2 : decide (a1.c.floor < stopR a0 a1.next) = true := by simpa using h2
        have e3 : decide (a1.c.floor > stopR a0 a1.next) = false := by simp; omega
        simp only [e1, e2, e3, cond_true, cond_false]
      · have e2 : decide (a1.c.floor < stopR a0 a1.next) = false := by simpa using h2
        have e3 : decide (a1.c.floor > stopR a0 a1.next) = true := by simp; omega
        simp only [e1, e2, e3, cond_true, cond_false]

theorem run_newelref22_Step (a0 : Gear) (a1 : Plan) (a2 : Going) (hg : stepROk a0 a1 a2 = true) : ∃ F d, run k54 F d 29 Try.f29 s_newelref22_Step (a0, a1, a2, ()) = some (r_newelref22_Step.enc (stepR a0 a1 a2)) := by
  refine ⟨200, 6, ?_⟩
  rw [tree_newelref22_Step]
  simp only [stepROk, Bool.and_eq_true, decide_eq_true_eq] at hg
  obtain ⟨hz, n0, n1, hok⟩ := hg
  have w := IntWalk.i64_in (a2.next + 1) (by omega)
  have t1 : ∀ c cmd, toldOk a1 ⟨c, a2.next + 1, cmd⟩ = true := fun c cmd => by
    simp only [toldOk, hz, Bool.true_and, Bool.and_eq_true, decide_eq_true_eq]; omega
  have t2 : ∀ c cmd, toldOk a1 ⟨c, a2.next, cmd⟩ = true := fun c cmd => by
    simp only [toldOk, hz, Bool.true_and, Bool.and_eq_true, decide_eq_true_eq]; omega
  simp only [hok, w, t1, t2, beqn, ble0, Bool.and_self, Bool.and_true, Bool.true_and, cond_true]
  have hc : (stepC a0 a2.c ⟨a2.cmd, false, false⟩).c = tickC a0 (begunC a0 a2.c a2.cmd) false := rfl
  simp only [r_newelref22_Step, Res.agg, stepR, stepGo, toldR, hc, cGoing_enc]
  cases (a2.c.phase == 3)
  · rfl
  · cases ((tickC a0 (begunC a0 a2.c a2.cmd) false).phase == 0) <;> rfl
end Go.Proofs.Ytlnfojhmgncfiaa.Px.PxU
