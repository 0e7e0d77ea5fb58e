/- A car that rides: tick by tick. -/
import Derived.Test.YtkcpgejmafobjaaPxSpecCar4
namespace Go.Proofs.Ytkcpgejmafobjaa.Px
open Go

def pathR (g : Gear) (fl dir i : Int) : Car := if i < g.times.travel then ⟨fl, dir, 1, g.times.travel - i, door0⟩ else ⟨fl + dir, 0, 0, 0, door0⟩

theorem pathR_step {g : Gear} {fl dir i : Int} {o : Order} (hG : gearB g = true) (hf : 0 ≤ fl ∧ fl ≤ g.floors - 1) (hd : dir = 1 ∨ dir = -1) (hn : 0 ≤ fl + dir ∧ fl + dir ≤ g.floors - 1) (hi : 1 ≤ i) (hN : i < g.times.travel) (hc : 0 ≤ o.cmd ∧ o.cmd ≤ 3) (ho : o.fault = false) :
    (car_Step g (pathR g fl dir i) o).1 = pathR g fl dir (i + 1) ∧ (car_Step g (pathR g fl dir i) o).2.2 = 0 ∧ (car_Step g (pathR g fl dir i) o).2.1.motor = dir := by
  obtain ⟨cmd, held, fault⟩ := o
  simp only at hc ho
  subst ho
  have hG' := hG
  simp only [gearB_iff, timesB_iff] at hG'
  have hok : carOk g (pathR g fl dir i) = true := by
    simp only [carOk, hG, Bool.true_and, carB_iff]
    unfold pathR
    rw [if_pos hN]
    simp [doorB_iff, door0]
    omega
  have hs : stepOk g (pathR g fl dir i) ⟨cmd, held, false⟩ = true := by simp [stepOk, hok, wthin, hc]
  have hw : wthin cmd 0 3 = true := wthin_iff.2 hc
  simp only [car_Step, hs, hok, cond_true, stepC, hw, errOf, cond_false]
  unfold pathR at *
  (repeat' split) <;> simp [begunC, tickC, Bool.cond_eq_ite] at * <;> (repeat' split) <;> (try simp at *) <;> (try omega)
end Go.Proofs.Ytkcpgejmafobjaa.Px
