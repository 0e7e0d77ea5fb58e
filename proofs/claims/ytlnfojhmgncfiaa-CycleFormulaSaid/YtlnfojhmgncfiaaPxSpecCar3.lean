/- With each tick a car that is not idle has less rest. -/
import Derived.Test.YtlnfojhmgncfiaaPxSpecCar2
set_option linter.unusedVariables false
set_option linter.unusedSimpArgs false
namespace Go.Proofs.Ytlnfojhmgncfiaa.Px
open Go

theorem restD_falls {g : Gear} {d : Door} (h : Bool) (hG : gearB g = true) (hD : doorB d = true) (hp : d.phase ≠ 0) : restD g (stepD g d h).d ≤ restD g d - 1 := by
  obtain ⟨p, l, q⟩ := d
  simp only [gearB_iff, timesB_iff, doorB_iff] at hG hD
  simp only at hp
  simp only [stepD, heldD, goesD, isHeld, door0, restD, Bool.cond_eq_ite, beq_iff_eq, Bool.and_eq_true, decide_eq_true_eq]
  have e1 : (g.most - (q + 1)) * (g.times.open_ + g.dwell + g.times.close) = (g.most - q) * (g.times.open_ + g.dwell + g.times.close) - (g.times.open_ + g.dwell + g.times.close) := by
    rw [show g.most - (q + 1) = g.most - q - 1 by omega, Int.sub_mul, Int.one_mul]
  have e2 : g.most > q → (g.times.open_ + g.dwell + g.times.close) ≤ (g.most - q) * (g.times.open_ + g.dwell + g.times.close) := fun hq => by
    have := Int.mul_le_mul_of_nonneg_right (show 1 ≤ g.most - q by omega) (show 0 ≤ g.times.open_ + g.dwell + g.times.close by omega)
    rwa [Int.one_mul] at this
  generalize hm : (g.most - q) * (g.times.open_ + g.dwell + g.times.close) = m at *
  rw [if_neg hp]
  split
  · dsimp only
    split
    · simp only [e1]
      (repeat' split) <;> omega
    · simp only [e1]
      (repeat' split) <;> omega
  · split
    · dsimp only
      simp only [hm]
      (repeat' split) <;> omega
    · split
      · dsimp only
        simp only [hm]
        (repeat' split) <;> omega
      · split
        · dsimp only
          simp only [hm]
          (repeat' split) <;> omega
        · dsimp only
          rw [if_pos rfl]
          (repeat' split) <;> omega

theorem restC_zero {g : Gear} {c : Car} (hG : gearB g = true) (hB : carB g.floors c = true) : 0 ≤ restC g c ∧ restC g c ≤ 200000 ∧ (restC g c = 0 ↔ c.phase = 0) := by
  obtain ⟨fl, dr, ph, lf, d⟩ := c
  simp only [carB_iff] at hB
  obtain ⟨hF, hf, hD, hP⟩ := hB
  have hd := restD_bound g d hG hD
  have hE : doorB ⟨1, g.times.open_, 0⟩ = true := by simp only [gearB_iff, timesB_iff] at hG; rw [doorB_iff]; simp; omega
  have he := restD_bound g ⟨1, g.times.open_, 0⟩ hG hE
  simp only [restC, Bool.cond_eq_ite, beq_iff_eq]
  generalize restD g d = rd at *
  generalize restD g ⟨1, g.times.open_, 0⟩ = re at *
  (repeat' split) <;> omega

theorem restC_falls {g : Gear} {c : Car} {o : Order} (h : stepOk g c o = true) (hf : o.fault = false) (hp : c.phase ≠ 0) : restC g (stepC g c o).c ≤ restC g c - 1 := by
  obtain ⟨fl, dr, ph, lf, d⟩ := c
  obtain ⟨cmd, held, fault⟩ := o
  simp only at hf hp
  subst hf
  simp only [stepOk, carOk, Bool.and_eq_true] at h
  obtain ⟨⟨hG, hB⟩, hC⟩ := h
  simp only [carB_iff] at hB
  obtain ⟨hF, hf, hD, hP⟩ := hB
  have hE : doorB ⟨1, g.times.open_, 0⟩ = true := by simp only [gearB_iff, timesB_iff] at hG; rw [doorB_iff]; simp; omega
  have he := restD_bound g ⟨1, g.times.open_, 0⟩ hG hE
  have h0 : restD g door0 = 0 := rfl
  have hfa : d.phase ≠ 0 → restD g (stepD g d held).d ≤ restD g d - 1 := restD_falls held hG hD
  have hN := stepD_doorB held hG hD
  have hn := restD_bound g (stepD g d held).d hG hN
  simp only [stepC, begunC, tickC, restC, cond_false]
  rcases hP with ⟨rfl, rfl, rfl, hd0⟩ | ⟨rfl, hdr, hlo, hhi, hl1, hl2, hd0⟩ | ⟨rfl, rfl, hl1, hl2, hd0⟩ | ⟨rfl, rfl, rfl, hd0⟩
  · exact absurd rfl hp
  · simp [Bool.cond_eq_ite]
    (repeat' split) <;> simp [h0] at * <;> omega
  · simp [Bool.cond_eq_ite]
    (repeat' split) <;> simp at * <;> omega
  · have := hfa hd0
    simp [Bool.cond_eq_ite]
    generalize stepD g d held = sd at *
    (repeat' split) <;> simp at * <;> omega
end Go.Proofs.Ytlnfojhmgncfiaa.Px
