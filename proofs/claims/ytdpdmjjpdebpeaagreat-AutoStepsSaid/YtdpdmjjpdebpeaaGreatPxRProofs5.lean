/- A car in step is that of its round. -/
import Derived.Test.YtdpdmjjpdebpeaaGreatPxRProofs4
set_option linter.unusedVariables false
set_option linter.unusedSimpArgs false
namespace Go.Proofs.YtdpdmjjpdebpeaaGreat.Px.PxR
open Go Go.Proofs
set_option linter.unusedSimpArgs false
set_option linter.unusedVariables false

theorem or_not_self (b : Bool) : (b || !!!b) = true := by cases b <;> rfl

theorem home_carB {a : Auto} (he : errAuto a = 0) (hp : plannedM a.mode = true) : carB a.config.floors { floor := homeO a.config a.mode a.nth, dir := 0, phase := 0, left := 0, door := { phase := 0, left := 0, held := 0 } } = true := by
  obtain ⟨hG, hB, h2, h64, hr, hL, hlen, hdf⟩ := round_facts he hp
  obtain ⟨h1, _, _⟩ := errAuto_zero he
  obtain ⟨k1, _⟩ := errHome_zero h1
  have kf := (conf_facts k1).1
  obtain ⟨b2, b3, b4, b5, b6, _, _⟩ := planB_iff.1 hB
  obtain ⟨q1, q2⟩ := placeP_range b2 b3 b5 b6
  have hh : homeO a.config a.mode a.nth = legAt (rowP (planO a.config a.mode a.nth)) (placeP (planO a.config a.mode a.nth) (planO a.config a.mode a.nth).car).toNat := by
    unfold homeO legAt
    rw [hp, Nat.mod_eq_of_lt (by omega)]
    simp only [cond_true, cycle_First, hB]
  obtain ⟨l1, l2⟩ := hL (placeP (planO a.config a.mode a.nth) (planO a.config a.mode a.nth).car).toNat
  have l2' : homeO a.config a.mode a.nth ≤ a.config.floors - 1 := by rw [hh]; exact l2
  rw [← hh] at l1
  rw [carB_iff]
  refine ⟨kf, ⟨l1, l2'⟩, doorB_iff.2 (.inl ⟨rfl, rfl, rfl⟩), .inl ⟨rfl, rfl, rfl, rfl⟩⟩

end Go.Proofs.YtdpdmjjpdebpeaaGreat.Px.PxR
