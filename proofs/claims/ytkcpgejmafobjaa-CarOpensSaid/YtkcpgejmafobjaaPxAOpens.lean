/- CarOpens: its loop. -/
import Derived.Test.YtkcpgejmafobjaaPxACfg
import Derived.Test.YtkcpgejmafobjaaPxLoop
import Derived.Test.YtkcpgejmafobjaaPxSpecCar4
namespace Go.Proofs.Ytkcpgejmafobjaa.Px.PxA
open Go Go.Proofs
def keepO : List Nat := [1, 2, 4, 5, 6, 8, 9, 10, 11]
noncomputable def kO : Cfg (X := els) := { k29 with lp := [(8, 1018, (keepO, 4))] }
def dirsO : List Bool := [true, true, true, true, true, true, false, true, false]
noncomputable def bodyO : Code := Try.f8.body.getD .skip
def tmO (fl op ch i : Int) : List Slot := setN (setN (setN (setN (setN (setN (setN (setN (setN (padTo 95 []) 1 (.is (.int .i64 fl))) 2 (.is (.ptr 0 0))) 4 (.is (.bool false))) 5 (.is (.ptr 1 0))) 6 (.is (.ptr 2 0))) 8 (.is (.ptr 3 0))) 9 (.is (.int .i64 op))) 10 (.is (.int .i64 ch))) 11 (.is (.int .i64 i))
def stO (g : Gear) (fl : Int) (c : Car) (o : OutT) (op ch i : Int) : St (X := els) := { tm := tmO fl op ch i, hp := [.raw (cGear.enc g), .raw (cCar.enc c), .raw (cOutT.enc o), .raw (cTimes.enc g.times)] }
noncomputable def upC (g : Gear) (c : Car) : Car × OutT × Int := car_Step g c ⟨1, false, false⟩
noncomputable def boundO (g : Gear) : Int := IntKind.i64.wrap (IntKind.i64.wrap (IntKind.i64.wrap (g.times.level + g.times.open_) + g.dwell) + g.times.close)
noncomputable abbrev ciO (fuel : Nat) : CallIn (X := els) (R := Option AV) := callD kO none fuel 4
theorem body_eq (fuel : Nat) (g : Gear) (fl : Int) (c : Car) (o : OutT) (op ch i : Int) (K : Ex → St (X := els) → Option AV) :
    exec kO none (ciO fuel) fuel 8 2036 (codeAt (dirsO ++ [false]) bodyO) (stO g fl c o op ch i) (forgetK none keepO 4 K) =
      cond (decide (i < boundO g))
        (cond (cond (c.phase == 0) true (o.motor != 0)) (K .ret (stO g fl c o op ch i))
          (cond ((upC g c).2.2 != 0) (K .ret (stO g fl (upC g c).1 (upC g c).2.1 op ch i))
            (cond ((upC g c).2.1.door == 2)
              (cond (upC g c).2.1.chime (K .normal (stO g fl (upC g c).1 (upC g c).2.1 (IntKind.i64.wrap (op + 1)) (IntKind.i64.wrap (ch + 1)) (IntKind.i64.wrap (i + 1))))
                (K .normal (stO g fl (upC g c).1 (upC g c).2.1 (IntKind.i64.wrap (op + 1)) ch (IntKind.i64.wrap (i + 1)))))
              (cond (upC g c).2.1.chime (K .normal (stO g fl (upC g c).1 (upC g c).2.1 op (IntKind.i64.wrap (ch + 1)) (IntKind.i64.wrap (i + 1))))
                (K .normal (stO g fl (upC g c).1 (upC g c).2.1 op ch (IntKind.i64.wrap (i + 1))))))))
        (K (.exit 0) (stO g fl c o op ch i)) := by kernel_rfl
noncomputable def sO := Sig.cons true (Dat.ofCel cGear) (Sig.cons false (Dat.ofCel (Cel.int .i64)) Sig.nil)
noncomputable def contO (fuel : Nat) : Ex → St (X := els) → Option AV := contAt kO none (ciO fuel) fuel 8 dirsO 1 bodyO (endK kO none Try.f8 (fun v _ => some v))
noncomputable def firstO (g : Gear) (fl : Int) : Car × OutT × Int := car_Step g ⟨fl, 0, 0, 0, door0⟩ ⟨3, false, false⟩
theorem pre_eq (fuel : Nat) (g : Gear) (fl : Int) :
    run kO fuel 4 8 Try.f8 sO (g, fl, ()) = cond ((firstO g fl).2.2 != 0) (some (.bool true))
      (iter none (fun s' K' => exec kO none (ciO fuel) fuel 8 2036 (codeAt (dirsO ++ [false]) bodyO) s' (forgetK none keepO 4 K')) fuel (stO g fl (firstO g fl).1 (firstO g fl).2.1 0 0 1) (contO fuel)) := by kernel_rfl
theorem post_eq (fuel : Nat) (g : Gear) (fl : Int) (c : Car) (o : OutT) (op ch i : Int) :
    contO fuel (.exit 0) (stO g fl c o op ch i) = some (.bool (cond (cond (cond (cond true (c.floor == fl && (c.dir == 0 && (c.phase == 0 && (c.left == 0 && (c.door.phase == 0 && (c.door.left == 0 && (c.door.held == 0 && true))))))) false) (op == g.dwell) false) ((ch == 1) == decide (g.times.lead ≤ g.dwell)) false) (decide (ch ≤ 1)) false)) := by kernel_rfl
def opAt (g : Gear) (i : Int) : Int := if i ≤ g.times.level + g.times.open_ then 0 else if i ≤ g.times.level + g.times.open_ + g.dwell then i - (g.times.level + g.times.open_) else g.dwell
def chAt (g : Gear) (i : Int) : Int := if g.times.lead ≤ g.dwell ∧ g.times.level + g.times.open_ + g.dwell - g.times.lead < i then 1 else 0

theorem loop_ok (fuel : Nat) {g : Gear} (hG : gearB g = true) {fl : Int} (hf : 0 ≤ fl ∧ fl ≤ g.floors - 1) : ∀ (n : Nat) (i : Int) (o : OutT), allO g - i = n → 1 ≤ i → o.motor = 0 → ∀ m, n < m →
    iter none (fun s' K' => exec kO none (ciO fuel) fuel 8 2036 (codeAt (dirsO ++ [false]) bodyO) s' (forgetK none keepO 4 K')) m (stO g fl (pathO g fl i) o (opAt g i) (chAt g i) i) (contO fuel) = some (.bool true) := by
  have hG' := hG
  simp only [gearB_iff, timesB_iff] at hG'
  have hb : boundO g = allO g := by
    unfold boundO allO
    rw [IntWalk.i64_in (g.times.level + g.times.open_) (by omega), IntWalk.i64_in (g.times.level + g.times.open_ + g.dwell) (by omega), IntWalk.i64_in _ (by omega)]
  intro n
  induction n with
  | zero =>
    intro i o hn hi ho m hm
    obtain ⟨m, rfl⟩ : ∃ k, m = k + 1 := ⟨m - 1, by omega⟩
    have hi' : i = allO g := by omega
    rw [iter, body_eq, hb, show decide (i < allO g) = false by simp; omega, cond_false]
    show contO fuel (.exit 0) _ = _
    rw [post_eq]
    have hp : pathO g fl i = ⟨fl, 0, 0, 0, door0⟩ := by
      subst hi'
      unfold pathO allO
      (repeat' split) <;> first | rfl | (exfalso; omega)
    have hop : opAt g i = g.dwell := by unfold opAt; rw [hi']; unfold allO; (repeat' split) <;> omega
    have hch : chAt g i = if g.times.lead ≤ g.dwell then 1 else 0 := by unfold chAt; rw [hi']; unfold allO; (repeat' split) <;> omega
    rw [hp, hop, hch]
    by_cases hl : g.times.lead ≤ g.dwell <;> simp [hl, door0]
  | succ n ih =>
    intro i o hn hi ho m hm
    obtain ⟨m, rfl⟩ : ∃ k, m = k + 1 := ⟨m - 1, by omega⟩
    obtain ⟨h1, h2, h3, h4, h5, h6⟩ := pathO_step (cmd := 1) hG hf (by omega : 0 ≤ i) (by omega) (by omega)
    have hall : allO g ≤ 1000 := by unfold allO; omega
    rw [iter, body_eq, hb, show decide (i < allO g) = true by simp; omega, cond_true, show ((pathO g fl i).phase == 0) = false by simpa using h3, cond_false, show (o.motor != 0) = false by simp [ho], cond_false]
    have e1 : (upC g (pathO g fl i)).1 = pathO g fl (i + 1) := h1
    have e2 : (upC g (pathO g fl i)).2.2 = 0 := h2
    have e4 : (upC g (pathO g fl i)).2.1.motor = 0 := h4
    have e5 : (upC g (pathO g fl i)).2.1.door = 2 ↔ _ := h5
    have e6 : (upC g (pathO g fl i)).2.1.chime = true ↔ _ := h6
    rw [e2, e1]
    generalize (upC g (pathO g fl i)).2.1 = o1 at *
    have hopr : 0 ≤ opAt g i ∧ opAt g i ≤ 300 := by unfold opAt; (repeat' split) <;> omega
    have hchr : 0 ≤ chAt g i ∧ chAt g i ≤ 1 := by unfold chAt; (repeat' split) <;> omega
    rw [IntWalk.i64_in (i + 1) (by omega), IntWalk.i64_in (opAt g i + 1) (by omega), IntWalk.i64_in (chAt g i + 1) (by omega)]
    have hih := ih (i + 1) o1 (by omega) (by omega) e4 m (by omega)
    have hop : opAt g (i + 1) = if o1.door = 2 then opAt g i + 1 else opAt g i := by
      unfold opAt; simp only [e5]; (repeat' split) <;> omega
    have hch : chAt g (i + 1) = if o1.chime = true then chAt g i + 1 else chAt g i := by
      unfold chAt; simp only [e6]; (repeat' split) <;> omega
    rw [hop, hch] at hih
    by_cases hd : o1.door = 2
    · rw [if_pos hd] at hih
      rw [show (o1.door == 2) = true by simpa using hd, cond_true]
      cases hc : o1.chime
      · rw [hc] at hih; exact hih
      · rw [hc] at hih; exact hih
    · rw [if_neg hd] at hih
      rw [show (o1.door == 2) = false by simpa using hd, cond_false]
      cases hc : o1.chime
      · rw [hc] at hih; exact hih
      · rw [hc] at hih; exact hih

theorem law_opens : ∀ x, sO.wf x → ∃ fuel d, run kO fuel d 8 Try.f8 sO x = some (.bool true) := by
  rintro ⟨g, fl, ⟨⟩⟩ _
  refine ⟨2000, 4, ?_⟩
  rw [pre_eq]
  cases he : ((firstO g fl).2.2 != 0)
  case true => rfl
  rw [cond_false]
  have hok : carOk g ⟨fl, 0, 0, 0, door0⟩ = true := by
    cases hc : carOk g ⟨fl, 0, 0, 0, door0⟩
    · simp [firstO, car_Step, hc] at he
    · rfl
  have hok' := hok
  simp only [carOk, Bool.and_eq_true, carB_iff] at hok
  obtain ⟨hG, hF, hf, hD, _⟩ := hok
  have hG' := hG
  simp only [gearB_iff, timesB_iff] at hG'
  have hs : stepOk g ⟨fl, 0, 0, 0, door0⟩ ⟨3, false, false⟩ = true := by simp [stepOk, hok', wthin]
  have e1 : (firstO g fl).1 = pathO g fl 1 := by
    simp only [firstO, car_Step, hs, cond_true, stepC, cond_false]
    unfold pathO allO
    (repeat' split) <;> simp [begunC, beganC, tickC, door0, Bool.cond_eq_ite] <;> (repeat' split) <;> (try simp) <;> (try omega)
  have e2 : (firstO g fl).2.1.motor = 0 := by
    simp [firstO, car_Step, hs, stepC, begunC, beganC]
  have := loop_ok 2000 hG hf (allO g - 1).toNat 1 (firstO g fl).2.1 (by unfold allO; omega) (by omega) e2 2000 (by unfold allO; omega)
  rw [show opAt g 1 = 0 by unfold opAt; rw [if_pos (by omega)], show chAt g 1 = 0 by unfold chAt; rw [if_neg (by omega)]] at this
  rw [e1]
  exact this
end Go.Proofs.Ytkcpgejmafobjaa.Px.PxA
