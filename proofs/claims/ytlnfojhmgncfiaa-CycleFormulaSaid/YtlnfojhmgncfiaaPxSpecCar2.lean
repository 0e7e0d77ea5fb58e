/- What a tick makes of a car: the laws of doors and cars. -/
import Derived.Test.YtlnfojhmgncfiaaPxSpecCar
set_option linter.unusedVariables false
set_option linter.unusedSimpArgs false
namespace Go.Proofs.Ytlnfojhmgncfiaa.Px
open Go

theorem stepD_doorB {g : Gear} {d : Door} (h : Bool) (hG : gearB g = true) (hD : doorB d = true) : doorB (stepD g d h).d = true := by
  obtain ⟨p, l, hh⟩ := d
  simp only [gearB_iff, timesB_iff, doorB_iff] at *
  simp only [stepD, heldD, goesD, isHeld, door0, Bool.cond_eq_ite, beq_iff_eq, Bool.and_eq_true, decide_eq_true_eq]
  repeat' split
  all_goals (dsimp only; omega)

theorem stepD_chime {g : Gear} {d : Door} (h : Bool) (hc : (stepD g d h).chime = true) : d.phase = 2 := by
  obtain ⟨p, l, hh⟩ := d
  simp only [stepD, Bool.cond_eq_ite] at hc
  split at hc
  · cases hc
  · split at hc
    · cases hc
    · simp only [Bool.and_eq_true, beq_iff_eq] at hc
      exact hc.1

theorem stepC_facts {g : Gear} {c : Car} {o : Order} (h : stepOk g c o = true) :
    carB g.floors (stepC g c o).c = true ∧ (stepC g c o).o.floor = c.floor ∧ (-1 ≤ (stepC g c o).c.floor - c.floor ∧ (stepC g c o).c.floor - c.floor ≤ 1) ∧
    ((stepC g c o).o.motor ≠ 0 → (stepC g c o).o.door = 0 ∧ (stepC g c o).c.door.phase = 0 ∧ (stepC g c o).o.chime = false) ∧
    ((stepC g c o).c.floor ≠ c.floor → (stepC g c o).o.motor = (stepC g c o).c.floor - c.floor) ∧
    ((stepC g c o).o.door = 0 ∨ ((stepC g c o).o.motor = 0 ∧ (stepC g c o).c.floor = c.floor ∧ (stepC g c o).c.phase ≠ 1)) ∧
    ((stepC g c o).o.chime = true → (stepC g c o).o.door = 2) := by
  obtain ⟨fl, dr, ph, lf, ⟨dp, dl, dh⟩⟩ := c
  obtain ⟨cmd, held, fault⟩ := o
  simp only [stepOk, carOk, Bool.and_eq_true] at h
  obtain ⟨⟨hG, hB⟩, hC⟩ := h
  have hB' := hB
  simp only [carB_iff, wthin_iff] at hB' hC
  obtain ⟨hF, hf, hD, hP⟩ := hB'
  cases fault
  case true =>
    simp only [stepC, cond_true]
    refine ⟨hB, ?_, ?_, ?_, ?_, ?_, ?_⟩ <;> simp <;> omega
  have hN := stepD_doorB held hG hD
  have hch := stepD_chime (g := g) (d := ⟨dp, dl, dh⟩) held
  simp only [gearB_iff, timesB_iff] at hG
  simp only [stepC, begunC, beganC, tickC, door0, cond_false]
  rcases hP with ⟨rfl, rfl, rfl, rfl⟩ | ⟨rfl, hdr, hlo, hhi, hl1, hl2, rfl⟩ | ⟨rfl, rfl, hl1, hl2, rfl⟩ | ⟨rfl, rfl, rfl, hd0⟩
  · obtain rfl | rfl | rfl | rfl : cmd = 0 ∨ cmd = 1 ∨ cmd = 2 ∨ cmd = 3 := by omega
    all_goals simp [Bool.cond_eq_ite]
    all_goals (repeat' split)
    all_goals simp [carB_iff, doorB_iff] at *
    all_goals omega
  · simp [Bool.cond_eq_ite]
    all_goals (repeat' split)
    all_goals simp [carB_iff, doorB_iff] at *
    all_goals omega
  · simp [Bool.cond_eq_ite]
    all_goals (repeat' split)
    all_goals simp [carB_iff, doorB_iff] at *
    all_goals omega
  · simp [Bool.cond_eq_ite]
    generalize stepD g ⟨dp, dl, dh⟩ held = sd at *
    obtain ⟨⟨p, l, q⟩, ch⟩ := sd
    simp only at *
    refine ⟨?_, ?_⟩
    · simp only [carB_iff]
      refine ⟨hF, hf, hN, ?_⟩
      split <;> simp <;> omega
    · refine ⟨?_, hch⟩
      split <;> simp
end Go.Proofs.Ytlnfojhmgncfiaa.Px
