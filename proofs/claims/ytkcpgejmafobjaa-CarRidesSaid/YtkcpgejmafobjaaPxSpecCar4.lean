/- A car that is told to open: tick by tick. -/
import Derived.Test.YtkcpgejmafobjaaPxSpecCar3
namespace Go.Proofs.Ytkcpgejmafobjaa.Px
open Go

def allO (g : Gear) : Int := g.times.level + g.times.open_ + g.dwell + g.times.close
def pathO (g : Gear) (fl i : Int) : Car :=
  if i < g.times.level then ⟨fl, 0, 2, g.times.level - i, door0⟩
  else if i < g.times.level + g.times.open_ then ⟨fl, 0, 3, 0, ⟨1, g.times.level + g.times.open_ - i, 0⟩⟩
  else if i < g.times.level + g.times.open_ + g.dwell then ⟨fl, 0, 3, 0, ⟨2, g.times.level + g.times.open_ + g.dwell - i, 0⟩⟩
  else if i < allO g then ⟨fl, 0, 3, 0, ⟨3, allO g - i, 0⟩⟩
  else ⟨fl, 0, 0, 0, door0⟩

theorem pathO_ok {g : Gear} {fl i : Int} (hG : gearB g = true) (hf : 0 ≤ fl ∧ fl ≤ g.floors - 1) (hi : 0 ≤ i) : carOk g (pathO g fl i) = true := by
  simp only [carOk, hG, Bool.true_and, carB_iff]
  have hG' := hG
  simp only [gearB_iff, timesB_iff] at hG'
  unfold pathO allO
  (repeat' split) <;> simp [doorB_iff, door0] <;> omega

theorem pathO_step {g : Gear} {fl i : Int} {cmd : Int} (hG : gearB g = true) (hf : 0 ≤ fl ∧ fl ≤ g.floors - 1) (hi : 0 ≤ i) (hN : i < allO g) (hc : 0 ≤ cmd ∧ cmd ≤ 3) :
    (car_Step g (pathO g fl i) ⟨cmd, false, false⟩).1 = pathO g fl (i + 1) ∧ (car_Step g (pathO g fl i) ⟨cmd, false, false⟩).2.2 = 0 ∧ (pathO g fl i).phase ≠ 0 ∧
    (car_Step g (pathO g fl i) ⟨cmd, false, false⟩).2.1.motor = 0 ∧
    ((car_Step g (pathO g fl i) ⟨cmd, false, false⟩).2.1.door = 2 ↔ g.times.level + g.times.open_ ≤ i ∧ i < g.times.level + g.times.open_ + g.dwell) ∧
    ((car_Step g (pathO g fl i) ⟨cmd, false, false⟩).2.1.chime = true ↔ g.times.level + g.times.open_ ≤ i ∧ i < g.times.level + g.times.open_ + g.dwell ∧ g.times.level + g.times.open_ + g.dwell - i = g.times.lead) := by
  have hok := pathO_ok hG hf hi
  have hs : stepOk g (pathO g fl i) ⟨cmd, false, false⟩ = true := by simp [stepOk, hok, wthin, hc]
  have hw : wthin cmd 0 3 = true := wthin_iff.2 hc
  simp only [gearB_iff, timesB_iff] at hG
  simp only [car_Step, hs, hok, cond_true, stepC, hw, errOf, cond_false]
  unfold pathO allO at *
  (repeat' split) <;> simp [begunC, tickC, stepD, goesD, isHeld, door0, Bool.cond_eq_ite] at * <;> (repeat' split) <;> simp at * <;> omega
end Go.Proofs.Ytkcpgejmafobjaa.Px
