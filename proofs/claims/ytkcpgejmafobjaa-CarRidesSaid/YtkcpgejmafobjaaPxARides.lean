/- CarRides: its loop. -/
import Derived.Test.YtkcpgejmafobjaaPxACfg
import Derived.Test.YtkcpgejmafobjaaPxLoop
import Derived.Test.YtkcpgejmafobjaaPxSpecCar5
import Derived.Laws.Bits128
namespace Go.Proofs.Ytkcpgejmafobjaa.Px.PxA
open Go Go.Proofs
noncomputable def bodyR : Code := Try.f7.body.getD .skip
def dirsR : List Bool := [true, true, true, true, true, true, true, true, true, true, true, false, true, false]
def keepR : List Nat := [2, 3, 4, 5, 6, 7, 8, 9, 10, 12]
noncomputable def kR : Cfg (X := els) := { k29 with lp := [(7, 32762, (keepR, 5))] }
def tmR (fl : Int) (up : Bool) (n : Nat) (cmd dir i : Int) : List Slot := setN (setN (setN (setN (setN (setN (setN (setN (setN (setN (padTo 127 []) 2 (.is (.bool false))) 3 (.is (.ptr 2 0))) 4 (.is (.int .i64 fl))) 5 (.is (.bool up))) 6 (.is (.sl 0 0 3 n none))) 7 (.is (.int .i64 cmd))) 8 (.is (.int .i64 dir))) 9 (.is (.ptr 3 0))) 10 (.is (.ptr 4 0))) 12 (.is (.int .i64 i))
def stR (g : Gear) (fl : Int) (up : Bool) (l : List Order) (cmd dir : Int) (c : Car) (o : OutT) (i : Int) : St (X := els) := { tm := tmR fl up l.length cmd dir i, hp := [.vec (.order : El) l false, .raw (cGear.enc g ++ [.int .i64 fl, .bool up, .sl 0 0 3 l.length none]), .raw (cGear.enc g), .raw (cCar.enc c), .raw (cOutT.enc o)] }
noncomputable abbrev ciR (fuel : Nat) : CallIn (X := els) (R := Option AV) := callD kR none fuel 4
noncomputable def atR (l : List Order) (i : Int) : Order := l.getD (0 + i.toNat) ⟨0, false, false⟩
noncomputable def toldR (g : Gear) (c : Car) (l : List Order) (i : Int) : Car × OutT × Int := car_Step g c ⟨bits .and .i64 (atR l i).cmd 3, (atR l i).held, false⟩
noncomputable def idleR (g : Gear) (c : Car) : Car × OutT × Int := car_Step g c ⟨0, false, false⟩
theorem bodyR_eq (fuel : Nat) (g : Gear) (fl : Int) (up : Bool) (l : List Order) (cmd dir : Int) (c : Car) (o : OutT) (i : Int) (K : Ex → St (X := els) → Option AV) :
    exec kR none (ciR fuel) fuel 7 65524 (codeAt (dirsR ++ [false]) bodyR) (stR g fl up l cmd dir c o i) (forgetK none keepR 5 K) =
      cond (decide (i < g.times.travel))
        (cond (cond (cond (c.phase != 1) true (o.motor != dir)) true (c.floor != fl)) (K .ret (stR g fl up l cmd dir c o i))
          (cond (decide (i < (l.length : Int)))
            (cond (decide (0 ≤ i) && decide (i < (l.length : Int)))
              (cond (decide (0 + i.toNat < l.length))
                (cond ((toldR g c l i).2.2 != 0) (K .ret (stR g fl up l cmd dir (toldR g c l i).1 (toldR g c l i).2.1 i)) (K .normal (stR g fl up l cmd dir (toldR g c l i).1 (toldR g c l i).2.1 (IntKind.i64.wrap (i + 1))))) none) none)
            (cond ((idleR g c).2.2 != 0) (K .ret (stR g fl up l cmd dir (idleR g c).1 (idleR g c).2.1 i)) (K .normal (stR g fl up l cmd dir (idleR g c).1 (idleR g c).2.1 (IntKind.i64.wrap (i + 1)))))))
        (K (.exit 0) (stR g fl up l cmd dir c o i)) := by kernel_rfl
noncomputable def sR := Sig.cons true dRide Sig.nil
noncomputable def contR (fuel : Nat) : Ex → St (X := els) → Option AV := contAt kR none (ciR fuel) fuel 7 dirsR 1 bodyR (endK kR none Try.f7 (fun v _ => some v))
noncomputable def firstR (g : Gear) (fl cmd : Int) : Car × OutT × Int := car_Step g ⟨fl, 0, 0, 0, door0⟩ ⟨cmd, false, false⟩
theorem postR_eq (fuel : Nat) (g : Gear) (fl : Int) (up : Bool) (l : List Order) (cmd dir : Int) (c : Car) (o : OutT) (i : Int) :
    contR fuel (.exit 0) (stR g fl up l cmd dir c o i) = some (.bool (cond (cond true (c.floor == IntKind.i64.wrap (fl + dir) && (c.dir == 0 && (c.phase == 0 && (c.left == 0 && (c.door.phase == 0 && (c.door.left == 0 && (c.door.held == 0 && true))))))) false) (o.motor == dir) false)) := by kernel_rfl
noncomputable def goR (fuel : Nat) (g : Gear) (fl : Int) (up : Bool) (l : List Order) (cmd dir : Int) : Option AV :=
  cond (cond ((firstR g fl cmd).2.2 != 0) true (decide ((l.length : Int) > 100))) (some (.bool true))
    (cond (cond (decide (IntKind.i64.wrap (fl + dir) < 0)) true (decide (IntKind.i64.wrap (fl + dir) ≥ g.floors)))
      (some (.bool (cond (cond true ((firstR g fl cmd).1.floor == fl && ((firstR g fl cmd).1.dir == 0 && ((firstR g fl cmd).1.phase == 0 && ((firstR g fl cmd).1.left == 0 && ((firstR g fl cmd).1.door.phase == 0 && ((firstR g fl cmd).1.door.left == 0 && ((firstR g fl cmd).1.door.held == 0 && true))))))) false) ((firstR g fl cmd).2.1.motor == 0 && ((firstR g fl cmd).2.1.door == 0 && ((firstR g fl cmd).2.1.floor == fl && ((firstR g fl cmd).2.1.chime == false && true)))) false)))
      (iter none (fun s' K' => exec kR none (ciR fuel) fuel 7 65524 (codeAt (dirsR ++ [false]) bodyR) s' (forgetK none keepR 5 K')) fuel (stR g fl up l cmd dir (firstR g fl cmd).1 (firstR g fl cmd).2.1 1) (contR fuel)))
theorem preR_eq (fuel : Nat) (g : Gear) (fl : Int) (up : Bool) (l : List Order) :
    run kR fuel 4 7 Try.f7 sR (⟨g, fl, up, l⟩, ()) = cond up (goR fuel g fl up l 1 1) (goR fuel g fl up l 2 (-1)) := by kernel_rfl
theorem and3_range (n : Int) : 0 ≤ bits .and .i64 n 3 ∧ bits .and .i64 n 3 ≤ 3 := by
  have h3 : (BitVec.ofInt 64 3).toNat = 2 ^ 2 - 1 := by decide
  have key : (BitVec.ofInt 64 n &&& BitVec.ofInt 64 3).toNat = (n % ((2 ^ 64 : Nat) : Int)).toNat % 2 ^ 2 := by
    rw [BitVec.toNat_and, BitVec.toNat_ofInt, h3, Nat.and_two_pow_sub_one_eq_mod]
  have : bits .and .i64 n 3 = n % 4 := by
    show IntKind.i64.wrap ((BitVec.ofInt 64 n &&& BitVec.ofInt 64 3).toNat : Nat) = n % 4
    rw [key, IntKind.wrap_i64]
    omega
  omega
theorem loopR_ok (fuel : Nat) {g : Gear} (hG : gearB g = true) {fl dir cmd : Int} (up : Bool) (l : List Order) (hf : 0 ≤ fl ∧ fl ≤ g.floors - 1) (hd : dir = 1 ∨ dir = -1) (hn : 0 ≤ fl + dir ∧ fl + dir ≤ g.floors - 1) : ∀ (n : Nat) (i : Int) (o : OutT), g.times.travel - i = n → 1 ≤ i → o.motor = dir → ∀ m, n < m →
    iter none (fun s' K' => exec kR none (ciR fuel) fuel 7 65524 (codeAt (dirsR ++ [false]) bodyR) s' (forgetK none keepR 5 K')) m (stR g fl up l cmd dir (pathR g fl dir i) o i) (contR fuel) = some (.bool true) := by
  have hG' := hG
  simp only [gearB_iff, timesB_iff] at hG'
  intro n
  induction n with
  | zero =>
    intro i o hni hi ho m hm
    obtain ⟨m, rfl⟩ : ∃ k, m = k + 1 := ⟨m - 1, by omega⟩
    rw [iter, bodyR_eq, show decide (i < g.times.travel) = false by simp; omega, cond_false]
    show contR fuel (.exit 0) _ = _
    rw [postR_eq, IntWalk.i64_in (fl + dir) (by omega)]
    have hp : pathR g fl dir i = ⟨fl + dir, 0, 0, 0, door0⟩ := by unfold pathR; rw [if_neg (by omega)]
    rw [hp]
    simp [ho, door0]
  | succ n ih =>
    intro i o hni hi ho m hm
    obtain ⟨m, rfl⟩ : ∃ k, m = k + 1 := ⟨m - 1, by omega⟩
    have hp : pathR g fl dir i = ⟨fl, dir, 1, g.times.travel - i, door0⟩ := by unfold pathR; rw [if_pos (by omega)]
    rw [iter, bodyR_eq, show decide (i < g.times.travel) = true by simp; omega, cond_true, show (cond (cond ((pathR g fl dir i).phase != 1) true (o.motor != dir)) true ((pathR g fl dir i).floor != fl)) = false by rw [hp]; simp [ho], cond_false, IntWalk.i64_in (i + 1) (by omega)]
    cases hl : decide (i < (l.length : Int))
    · obtain ⟨h1, h2, h3⟩ := pathR_step (o := ⟨0, false, false⟩) hG hf hd hn hi (by omega) (by simp) rfl
      have h1 : (idleR g (pathR g fl dir i)).1 = _ := h1
      have h2 : (idleR g (pathR g fl dir i)).2.2 = 0 := h2
      rw [cond_false, h2, h1]
      exact ih (i + 1) _ (by omega) (by omega) h3 m (by omega)
    · have hlt : i < (l.length : Int) := by simpa using hl
      have hb : 0 ≤ bits .and .i64 (atR l i).cmd 3 ∧ bits .and .i64 (atR l i).cmd 3 ≤ 3 := and3_range _
      obtain ⟨h1, h2, h3⟩ := pathR_step (o := ⟨bits .and .i64 (atR l i).cmd 3, (atR l i).held, false⟩) hG hf hd hn hi (by omega) hb rfl
      have h1 : (toldR g (pathR g fl dir i) l i).1 = _ := h1
      have h2 : (toldR g (pathR g fl dir i) l i).2.2 = 0 := h2
      rw [cond_true, show (decide (0 ≤ i) && true) = true by simp; omega, cond_true, show decide (0 + i.toNat < l.length) = true by simp; omega, cond_true, h2, h1]
      exact ih (i + 1) _ (by omega) (by omega) h3 m (by omega)

theorem law_rides : ∀ x, sR.wf x → ∃ fuel d, run kR fuel d 7 Try.f7 sR x = some (.bool true) := by
  rintro ⟨⟨g, fl, up, l⟩, ⟨⟩⟩ _
  refine ⟨200, 4, ?_⟩
  rw [preR_eq]
  have key : ∀ (cmd dir : Int), (cmd = 1 ∧ dir = 1 ∨ cmd = 2 ∧ dir = -1) → goR 200 g fl up l cmd dir = some (.bool true) := by
    intro cmd dir hcd
    unfold goR
    cases he : cond ((firstR g fl cmd).2.2 != 0) true (decide ((l.length : Int) > 100))
    case true => rfl
    rw [cond_false]
    have he1 : (firstR g fl cmd).2.2 = 0 := by
      cases h : ((firstR g fl cmd).2.2 != 0)
      · simpa using h
      · rw [h] at he; cases he
    have hok : carOk g ⟨fl, 0, 0, 0, door0⟩ = true := by
      cases hc : carOk g ⟨fl, 0, 0, 0, door0⟩
      · simp [firstR, car_Step, hc, stepOk, errOf] at he1
      · rfl
    have hok' := hok
    simp only [carOk, Bool.and_eq_true, carB_iff] at hok
    obtain ⟨hG, hF, hf, hD, _⟩ := hok
    have hG' := hG
    simp only [gearB_iff, timesB_iff] at hG'
    have hs : stepOk g ⟨fl, 0, 0, 0, door0⟩ ⟨cmd, false, false⟩ = true := by
      simp [stepOk, hok', wthin]; omega
    rw [IntWalk.i64_in (fl + dir) (by omega)]
    cases hout : cond (decide (fl + dir < 0)) true (decide (fl + dir ≥ g.floors))
    · have hn : 0 ≤ fl + dir ∧ fl + dir ≤ g.floors - 1 := by
        simp only [Bool.cond_eq_ite] at hout
        split at hout
        · cases hout
        · simp at *; omega
      rw [cond_false]
      have hw : wthin (fl + dir) 0 (g.floors - 1) = true := wthin_iff.2 hn
      have e1 : (firstR g fl cmd).1 = pathR g fl dir 1 := by
        simp only [firstR, car_Step, hs, cond_true, stepC, cond_false]
        unfold pathR
        rcases hcd with ⟨rfl, rfl⟩ | ⟨rfl, rfl⟩ <;> (repeat' split) <;> simp [begunC, beganC, tickC, door0, Bool.cond_eq_ite, hw, wthin] <;> (repeat' split) <;> (try simp at *) <;> (try omega)
      have e2 : (firstR g fl cmd).2.1.motor = dir := by
        simp only [firstR, car_Step, hs, cond_true, stepC, cond_false]
        rcases hcd with ⟨rfl, rfl⟩ | ⟨rfl, rfl⟩ <;> simp [begunC, beganC, Bool.cond_eq_ite, wthin] <;> (repeat' split) <;> (try simp at *) <;> (try omega)
      rw [e1]
      exact loopR_ok 200 hG up l hf (by omega) hn (g.times.travel - 1).toNat 1 _ (by omega) (by omega) e2 200 (by omega)
    · rw [cond_true]
      have hn : ¬ (0 ≤ fl + dir ∧ fl + dir ≤ g.floors - 1) := by
        simp only [Bool.cond_eq_ite] at hout
        split at hout
        · simp at *; omega
        · simp at *; omega
      have hw : wthin (fl + dir) 0 (g.floors - 1) = false := by
        cases h : wthin (fl + dir) 0 (g.floors - 1)
        · rfl
        · exact absurd (wthin_iff.1 h) hn
      simp only [firstR, car_Step, hs, cond_true, stepC, cond_false]
      rcases hcd with ⟨rfl, rfl⟩ | ⟨rfl, rfl⟩ <;> simp [begunC, beganC, tickC, door0, Bool.cond_eq_ite, wthin] <;> (repeat' split) <;> (try simp at *) <;> (try omega)
  cases up
  · exact key 2 (-1) (.inr ⟨rfl, rfl⟩)
  · exact key 1 1 (.inl ⟨rfl, rfl⟩)
end Go.Proofs.Ytkcpgejmafobjaa.Px.PxA
