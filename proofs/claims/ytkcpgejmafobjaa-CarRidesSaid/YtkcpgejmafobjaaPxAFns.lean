/- A seat's functions are what their contracts say. -/
import Derived.Test.YtkcpgejmafobjaaPxACfg
import Derived.Test.YtkcpgejmafobjaaPxSpecCar3
namespace Go.Proofs.Ytkcpgejmafobjaa.Px.PxA
open Go Go.Proofs
set_option linter.unusedSimpArgs false
set_option linter.unusedVariables false

theorem tree_door_within (a0 : Int) (a1 : Int) (a2 : Int) : run k0 20 4 37 Try.f37 s_door_within (a0, a1, a2, ()) =
some (AV.bool (bif decide (a1 ≤ a0) then decide (a0 ≤ a2) else false)) := by kernel_rfl
theorem run_door_within (a0 : Int) (a1 : Int) (a2 : Int) : run k0 20 4 37 Try.f37 s_door_within (a0, a1, a2, ()) = some (r_door_within.enc (wthin a0 a1 a2)) := by
  rw [tree_door_within]
  simp only [r_door_within, Res.bool, wthin, Bool.cond_false_right]
theorem p1 : Prog Try.prog (fun _ => True) k1 := p0.addFn (s := s_door_within) (r := r_door_within) (.of Try.func37 (by kernel_rfl) (by kernel_rfl)) (fun x _ => run_door_within x.1 x.2.1 x.2.2.1)

theorem tree_car_within (a0 : Int) (a1 : Int) (a2 : Int) : run k1 20 4 19 Try.f19 s_car_within (a0, a1, a2, ()) =
some (AV.bool (bif decide (a1 ≤ a0) then decide (a0 ≤ a2) else false)) := by kernel_rfl
theorem run_car_within (a0 : Int) (a1 : Int) (a2 : Int) : run k1 20 4 19 Try.f19 s_car_within (a0, a1, a2, ()) = some (r_car_within.enc (wthin a0 a1 a2)) := by
  rw [tree_car_within]
  simp only [r_car_within, Res.bool, wthin, Bool.cond_false_right]
theorem p2 : Prog Try.prog (fun _ => True) k2 := p1.addFn (s := s_car_within) (r := r_car_within) (.of Try.func19 (by kernel_rfl) (by kernel_rfl)) (fun x _ => run_car_within x.1 x.2.1 x.2.2.1)

theorem tree_door_times (a0 : Times) : run k2 20 4 35 Try.f35 s_door_times (a0, ()) =
bif !wthin (Times.travel a0) 1 60 then some (AV.bool false)
else
  bif !wthin (Times.level a0) 1 60 then some (AV.bool false)
  else
    bif !wthin (Times.open_ a0) 1 60 then some (AV.bool false)
    else
      bif !wthin (Times.dwell a0) 1 60 then some (AV.bool false)
      else
        bif !wthin (Times.lead a0) 1 60 then some (AV.bool false)
        else bif !wthin (Times.close a0) 1 60 then some (AV.bool false) else some (AV.bool (wthin (Times.hold a0) 0 60)) := by kernel_rfl
theorem run_door_times (a0 : Times) : run k2 20 4 35 Try.f35 s_door_times (a0, ()) = some (r_door_times.enc (timesB a0)) := by
  rw [tree_door_times]
  simp only [r_door_times, Res.bool, timesB]
  cases wthin a0.travel 1 60 <;> cases wthin a0.level 1 60 <;> cases wthin a0.open_ 1 60 <;> cases wthin a0.dwell 1 60 <;> cases wthin a0.lead 1 60 <;> cases wthin a0.close 1 60 <;> rfl
theorem p3 : Prog Try.prog (fun _ => True) k3 := p2.addFn (s := s_door_times) (r := r_door_times) (.of Try.func35 (by kernel_rfl) (by kernel_rfl)) (fun x _ => run_door_times x.1)

theorem tree_door_gear (a0 : Gear) : run k3 20 4 36 Try.f36 s_door_gear (a0, ()) =
some
  (AV.bool
    (bif
        bif bif timesB (Gear.times a0) then wthin (Gear.floors a0) 2 64 else false then wthin (Gear.dwell a0) 1 300
        else false then
      wthin (Gear.most a0) 0 60
    else false)) := by kernel_rfl
theorem run_door_gear (a0 : Gear) : run k3 20 4 36 Try.f36 s_door_gear (a0, ()) = some (r_door_gear.enc (gearB a0)) := by
  rw [tree_door_gear]
  simp only [r_door_gear, Res.bool, gearB, Bool.cond_false_right]
theorem p4 : Prog Try.prog (fun _ => True) k4 := p3.addFn (s := s_door_gear) (r := r_door_gear) (.of Try.func36 (by kernel_rfl) (by kernel_rfl)) (fun x _ => run_door_gear x.1)

theorem tree_newelref17_tick (a0 : Int) : run k4 20 4 33 Try.f33 s_newelref17_tick (a0, ()) =
some (AV.bool (bif decide (a0 ≥ 1) then decide (a0 ≤ 60) else false)) := by kernel_rfl
theorem run_newelref17_tick (a0 : Int) : run k4 20 4 33 Try.f33 s_newelref17_tick (a0, ()) = some (r_newelref17_tick.enc (tickB a0)) := by
  rw [tree_newelref17_tick]
  simp only [r_newelref17_tick, Res.bool, tickB, wthin, Bool.cond_false_right, ge_iff_le]
theorem p5 : Prog Try.prog (fun _ => True) k5 := p4.addFn (s := s_newelref17_tick) (r := r_newelref17_tick) (.of Try.func33 (by kernel_rfl) (by kernel_rfl)) (fun x _ => run_newelref17_tick x.1)

theorem tree_newelref17_Times (a0 : Times) : run k5 20 4 22 Try.f22 s_newelref17_Times (a0, ()) =
some
  (AV.bool
    (bif
        bif
            bif
                bif
                    bif
                        bif bif tickB (Times.travel a0) then tickB (Times.level a0) else false then
                          tickB (Times.open_ a0)
                        else false then
                      tickB (Times.dwell a0)
                    else false then
                  tickB (Times.lead a0)
                else false then
              tickB (Times.close a0)
            else false then
          decide (Times.hold a0 ≥ 0)
        else false then
      decide (Times.hold a0 ≤ 60)
    else false)) := by kernel_rfl
theorem run_newelref17_Times (a0 : Times) : run k5 20 4 22 Try.f22 s_newelref17_Times (a0, ()) = some (r_newelref17_Times.enc (timesB a0)) := by
  rw [tree_newelref17_Times]
  refine congrArg (fun b => some (AV.bool b)) ?_
  rw [Bool.eq_iff_iff]
  simp [timesB, tickB, wthin]
  try omega
theorem p6 : Prog Try.prog (fun _ => True) k6 := p5.addFn (s := s_newelref17_Times) (r := r_newelref17_Times) (.of Try.func22 (by kernel_rfl) (by kernel_rfl)) (fun x _ => run_newelref17_Times x.1)

theorem tree_newelref17_Gear (a0 : Gear) : run k6 20 4 11 Try.f11 s_newelref17_Gear (a0, ()) =
some
  (AV.bool
    (bif
        bif
            bif
                bif
                    bif bif timesB (Gear.times a0) then decide (Gear.floors a0 ≥ 2) else false then
                      decide (Gear.floors a0 ≤ 64)
                    else false then
                  decide (Gear.dwell a0 ≥ 1)
                else false then
              decide (Gear.dwell a0 ≤ 300)
            else false then
          decide (Gear.most a0 ≥ 0)
        else false then
      decide (Gear.most a0 ≤ 60)
    else false)) := by kernel_rfl
theorem run_newelref17_Gear (a0 : Gear) : run k6 20 4 11 Try.f11 s_newelref17_Gear (a0, ()) = some (r_newelref17_Gear.enc (gearB a0)) := by
  rw [tree_newelref17_Gear]
  refine congrArg (fun b => some (AV.bool b)) ?_
  rw [Bool.eq_iff_iff]
  simp [gearB, wthin, _root_.and_assoc]
  try omega
theorem p7 : Prog Try.prog (fun _ => True) k7 := p6.addFn (s := s_newelref17_Gear) (r := r_newelref17_Gear) (.of Try.func11 (by kernel_rfl) (by kernel_rfl)) (fun x _ => run_newelref17_Gear x.1)

theorem tree_newelref17_May (a0 : Door) : run k7 20 4 23 Try.f23 s_newelref17_May (a0, ()) =
bif Door.phase a0 == 0 then some (AV.bool (bif Door.left a0 == 0 then Door.held a0 == 0 else false))
else
  bif
      bif bif decide (Door.held a0 < 0) then true else decide (Door.held a0 > 60) then true
      else decide (Door.left a0 < 1) then
    some (AV.bool false)
  else
    bif Door.phase a0 == 2 then some (AV.bool (decide (Door.left a0 ≤ 300)))
    else
      some
        (AV.bool
          (bif bif Door.phase a0 == 1 then true else Door.phase a0 == 3 then decide (Door.left a0 ≤ 60) else false)) := by kernel_rfl
theorem run_newelref17_May (a0 : Door) : run k7 20 4 23 Try.f23 s_newelref17_May (a0, ()) = some (r_newelref17_May.enc (doorB a0)) := by
  rw [tree_newelref17_May]
  simp only [r_newelref17_May, Res.bool, Bool.cond_false_right, Bool.cond_true_left]
  simp only [beq_eq_false_iff_ne, Bool.cond_eq_ite, bne_iff_ne, ne_eq, Bool.and_eq_true, Bool.or_eq_true, decide_eq_true_eq, beq_iff_eq, Bool.not_eq_true', decide_eq_false_iff_not]
  repeat' split
  all_goals (refine congrArg (fun b => some (AV.bool b)) ?_; rw [Bool.eq_iff_iff, doorB_iff]; simp only [Bool.false_eq_true, false_iff, true_iff, beq_eq_false_iff_ne, Bool.cond_eq_ite, bne_iff_ne, ne_eq, Bool.and_eq_true, Bool.or_eq_true, decide_eq_true_eq, beq_iff_eq, Bool.not_eq_true', decide_eq_false_iff_not]; omega)
theorem p8 : Prog Try.prog (fun _ => True) k8 := p7.addFn (s := s_newelref17_May) (r := r_newelref17_May) (.of Try.func23 (by kernel_rfl) (by kernel_rfl)) (fun x _ => run_newelref17_May x.1)

theorem tree_newelref17_Step (a0 : Gear) (a1 : Door) (a2 : Bool) : run k8 20 4 26 Try.f26 s_newelref17_Step (a0, a1, a2, ()) =
bif Door.phase a1 == 0 then
  some
    (AV.agg
      [AV.int IntKind.i64 (Door.phase a1), AV.int IntKind.i64 (Door.left a1), AV.int IntKind.i64 (Door.held a1),
        AV.bool false])
else
  bif bif bif a2 then decide (Door.held a1 < Gear.most a0) else false then decide (Door.phase a1 > 1) else false then
    bif Door.phase a1 == 2 then
      some
        (AV.agg
          [AV.int IntKind.i64 2, AV.int IntKind.i64 (Gear.dwell a0),
            AV.int IntKind.i64 (IntKind.wrap IntKind.i64 (Door.held a1 + 1)), AV.bool false])
    else
      some
        (AV.agg
          [AV.int IntKind.i64 1, AV.int IntKind.i64 (Times.open_ (Gear.times a0)),
            AV.int IntKind.i64 (IntKind.wrap IntKind.i64 (Door.held a1 + 1)), AV.bool false])
  else
    bif decide (IntKind.wrap IntKind.i64 (Door.left a1 - 1) > 0) then
      some
        (AV.agg
          [AV.int IntKind.i64 (Door.phase a1), AV.int IntKind.i64 (IntKind.wrap IntKind.i64 (Door.left a1 - 1)),
            AV.int IntKind.i64 (Door.held a1),
            AV.bool (bif Door.phase a1 == 2 then Door.left a1 == Times.lead (Gear.times a0) else false)])
    else
      bif Door.phase a1 == 1 then
        some
          (AV.agg
            [AV.int IntKind.i64 2, AV.int IntKind.i64 (Gear.dwell a0), AV.int IntKind.i64 (Door.held a1),
              AV.bool (bif Door.phase a1 == 2 then Door.left a1 == Times.lead (Gear.times a0) else false)])
      else
        bif Door.phase a1 == 2 then
          some
            (AV.agg
              [AV.int IntKind.i64 3, AV.int IntKind.i64 (Times.close (Gear.times a0)),
                AV.int IntKind.i64 (Door.held a1),
                AV.bool (bif Door.phase a1 == 2 then Door.left a1 == Times.lead (Gear.times a0) else false)])
        else
          some
            (AV.agg
              [AV.int IntKind.i64 0, AV.int IntKind.i64 0, AV.int IntKind.i64 0,
                AV.bool (bif Door.phase a1 == 2 then Door.left a1 == Times.lead (Gear.times a0) else false)]) := by kernel_rfl
theorem run_newelref17_Step (a0 : Gear) (a1 : Door) (a2 : Bool) (hg : dStepOk2 a0 a1 a2 = true) : run k8 20 4 26 Try.f26 s_newelref17_Step (a0, a1, a2, ()) = some (r_newelref17_Step.enc (stepD a0 a1 a2)) := by
  rw [tree_newelref17_Step]
  simp only [dStepOk2, Bool.and_eq_true, gearB_iff, doorB_iff, timesB_iff] at hg
  have h1 := IntWalk.i64_in (a1.held + 1) (by omega)
  have h2 := IntWalk.i64_in (a1.left - 1) (by omega)
  rw [h1, h2]
  simp only [r_newelref17_Step, Res.bool, Res.int, Res.agg, Res.tup2, Res.tup3, cDoor_enc, cCar_enc, cOutT_enc, cDoorStepped_enc, cCarStepped_enc, cGear_enc, stepD, heldD, goesD, isHeld, door0, Bool.cond_false_right, Bool.cond_true_left]
  all_goals try simp only [beq_eq_false_iff_ne, Bool.cond_eq_ite, bne_iff_ne, ne_eq, Bool.and_eq_true, Bool.or_eq_true, decide_eq_true_eq, beq_iff_eq, Bool.not_eq_true', decide_eq_false_iff_not]
  repeat' split
  all_goals first | rfl | (exfalso; omega) | (simp_all; done) | (simp_all; omega)
theorem p9 : Prog Try.prog (fun _ => True) k9 := p8.addFn (s := s_newelref17_Step) (r := r_newelref17_Step) (.of Try.func26 (by kernel_rfl) (by kernel_rfl)) (fun x hg => run_newelref17_Step x.1 x.2.1 x.2.2.1 hg)

theorem tree_newelref17_Rest (a0 : Gear) (a1 : Door) : run k9 20 4 30 Try.f30 s_newelref17_Rest (a0, a1, ()) =
bif Door.phase a1 == 0 then some (AV.int IntKind.i64 0)
else
  bif Door.phase a1 == 1 then
    bif Door.phase a1 == 2 then
      bif decide (Gear.most a0 > Door.held a1) then
        some
          (AV.int IntKind.i64
            (IntKind.wrap IntKind.i64
              (IntKind.wrap IntKind.i64
                  (IntKind.wrap IntKind.i64
                      (IntKind.wrap IntKind.i64 (Door.left a1 + Gear.dwell a0) + Times.close (Gear.times a0)) +
                    Times.close (Gear.times a0)) +
                IntKind.wrap IntKind.i64
                  (IntKind.wrap IntKind.i64 (Gear.most a0 - Door.held a1) *
                    IntKind.wrap IntKind.i64
                      (IntKind.wrap IntKind.i64 (Times.open_ (Gear.times a0) + Gear.dwell a0) +
                        Times.close (Gear.times a0))))))
      else
        some
          (AV.int IntKind.i64
            (IntKind.wrap IntKind.i64
              (IntKind.wrap IntKind.i64
                  (IntKind.wrap IntKind.i64 (Door.left a1 + Gear.dwell a0) + Times.close (Gear.times a0)) +
                Times.close (Gear.times a0))))
    else
      bif decide (Gear.most a0 > Door.held a1) then
        some
          (AV.int IntKind.i64
            (IntKind.wrap IntKind.i64
              (IntKind.wrap IntKind.i64
                  (IntKind.wrap IntKind.i64 (Door.left a1 + Gear.dwell a0) + Times.close (Gear.times a0)) +
                IntKind.wrap IntKind.i64
                  (IntKind.wrap IntKind.i64 (Gear.most a0 - Door.held a1) *
                    IntKind.wrap IntKind.i64
                      (IntKind.wrap IntKind.i64 (Times.open_ (Gear.times a0) + Gear.dwell a0) +
                        Times.close (Gear.times a0))))))
      else
        some
          (AV.int IntKind.i64
            (IntKind.wrap IntKind.i64
              (IntKind.wrap IntKind.i64 (Door.left a1 + Gear.dwell a0) + Times.close (Gear.times a0))))
  else
    bif Door.phase a1 == 2 then
      bif decide (Gear.most a0 > Door.held a1) then
        some
          (AV.int IntKind.i64
            (IntKind.wrap IntKind.i64
              (IntKind.wrap IntKind.i64 (Door.left a1 + Times.close (Gear.times a0)) +
                IntKind.wrap IntKind.i64
                  (IntKind.wrap IntKind.i64 (Gear.most a0 - Door.held a1) *
                    IntKind.wrap IntKind.i64
                      (IntKind.wrap IntKind.i64 (Times.open_ (Gear.times a0) + Gear.dwell a0) +
                        Times.close (Gear.times a0))))))
      else some (AV.int IntKind.i64 (IntKind.wrap IntKind.i64 (Door.left a1 + Times.close (Gear.times a0))))
    else
      bif decide (Gear.most a0 > Door.held a1) then
        some
          (AV.int IntKind.i64
            (IntKind.wrap IntKind.i64
              (Door.left a1 +
                IntKind.wrap IntKind.i64
                  (IntKind.wrap IntKind.i64 (Gear.most a0 - Door.held a1) *
                    IntKind.wrap IntKind.i64
                      (IntKind.wrap IntKind.i64 (Times.open_ (Gear.times a0) + Gear.dwell a0) +
                        Times.close (Gear.times a0))))))
      else some (AV.int IntKind.i64 (Door.left a1)) := by kernel_rfl
theorem run_newelref17_Rest (a0 : Gear) (a1 : Door) (hg : dStepOk a0 a1 = true) : run k9 20 4 30 Try.f30 s_newelref17_Rest (a0, a1, ()) = some (r_newelref17_Rest.enc (restD a0 a1)) := by
  rw [tree_newelref17_Rest]
  simp only [dStepOk, Bool.and_eq_true, gearB_iff, doorB_iff, timesB_iff] at hg
  simp only [IntWalk.i64_in (a0.times.open_ + a0.dwell) (by omega), IntWalk.i64_in (a0.times.open_ + a0.dwell + a0.times.close) (by omega), IntWalk.i64_in (a0.most - a1.held) (by omega), restD]
  have hm : a0.most > a1.held → 0 ≤ (a0.most - a1.held) * (a0.times.open_ + a0.dwell + a0.times.close) ∧ (a0.most - a1.held) * (a0.times.open_ + a0.dwell + a0.times.close) ≤ 1000000 := fun h => ⟨Int.mul_nonneg (by omega) (by omega), Int.le_trans (Int.mul_le_mul (by omega : a0.most - a1.held ≤ 60) (by omega : a0.times.open_ + a0.dwell + a0.times.close ≤ 420) (by omega) (by omega)) (by omega)⟩
  generalize (a0.most - a1.held) * (a0.times.open_ + a0.dwell + a0.times.close) = m at hm
  simp only [IntWalk.i64_in (a1.left + a0.dwell) (by omega), IntWalk.i64_in (a1.left + a0.dwell + a0.times.close) (by omega), IntWalk.i64_in (a1.left + a0.times.close) (by omega), IntKind.wrap_i64]
  simp only [r_newelref17_Rest, Res.bool, Res.int, Res.agg, Res.tup2, Res.tup3, cDoor_enc, cCar_enc, cOutT_enc, cDoorStepped_enc, cCarStepped_enc, cGear_enc, restD, Bool.cond_false_right, Bool.cond_true_left]
  all_goals try simp only [beq_eq_false_iff_ne, Bool.cond_eq_ite, bne_iff_ne, ne_eq, Bool.and_eq_true, Bool.or_eq_true, decide_eq_true_eq, beq_iff_eq, Bool.not_eq_true', decide_eq_false_iff_not]
  repeat' split
  all_goals first | rfl | (exfalso; omega) | (simp_all; done) | (simp_all; omega)
theorem p10 : Prog Try.prog (fun _ => True) k10 := p9.addFn (s := s_newelref17_Rest) (r := r_newelref17_Rest) (.of Try.func30 (by kernel_rfl) (by kernel_rfl)) (fun x hg => run_newelref17_Rest x.1 x.2.1 hg)

theorem tree_door_on (a0 : Door) (a1 : Int) (a2 : Int) : run k10 20 4 41 Try.f41 s_door_on (a0, a1, a2, ()) =
bif IntKind.wrap IntKind.i64 (Door.left a0 - 1) == 0 then
  some (AV.agg [AV.int IntKind.i64 a1, AV.int IntKind.i64 a2, AV.int IntKind.i64 (Door.held a0)])
else
  some
    (AV.agg
      [AV.int IntKind.i64 (Door.phase a0), AV.int IntKind.i64 (IntKind.wrap IntKind.i64 (Door.left a0 - 1)),
        AV.int IntKind.i64 (Door.held a0)]) := by kernel_rfl
theorem run_door_on (a0 : Door) (a1 : Int) (a2 : Int) : run k10 20 4 41 Try.f41 s_door_on (a0, a1, a2, ()) = some (r_door_on.enc (onD a0 a1 a2)) := by
  rw [tree_door_on]
  simp only [r_door_on, Res.bool, Res.int, Res.agg, Res.tup2, Res.tup3, cDoor_enc, cCar_enc, cOutT_enc, cDoorStepped_enc, cCarStepped_enc, cGear_enc, onD, Bool.cond_false_right, Bool.cond_true_left]
  all_goals try simp only [beq_eq_false_iff_ne, Bool.cond_eq_ite, bne_iff_ne, ne_eq, Bool.and_eq_true, Bool.or_eq_true, decide_eq_true_eq, beq_iff_eq, Bool.not_eq_true', decide_eq_false_iff_not]
  repeat' split
  all_goals first | rfl | (exfalso; omega) | (simp_all; done) | (simp_all; omega)
theorem p11 : Prog Try.prog (fun _ => True) k11 := p10.addFn (s := s_door_on) (r := r_door_on) (.of Try.func41 (by kernel_rfl) (by kernel_rfl)) (fun x _ => run_door_on x.1 x.2.1 x.2.2.1)

theorem tree_door_phases_1 (a0 : Gear) (a1 : Door) (a2 : Bool) : run k11 20 4 39 Try.f39 s_door_phases_1 (a0, a1, a2, ()) =
some (AV.agg [AV.int IntKind.i64 (Door.phase a1), AV.int IntKind.i64 (Door.left a1), AV.int IntKind.i64 (Door.held a1)]) := by kernel_rfl
theorem run_door_phases_1 (a0 : Gear) (a1 : Door) (a2 : Bool) : run k11 20 4 39 Try.f39 s_door_phases_1 (a0, a1, a2, ()) = some (r_door_phases_1.enc (phase1 a0 a1 a2)) := by
  rw [tree_door_phases_1]
  simp only [r_door_phases_1, Res.bool, Res.int, Res.agg, Res.tup2, Res.tup3, cDoor_enc, cCar_enc, cOutT_enc, cDoorStepped_enc, cCarStepped_enc, cGear_enc, phase1, Bool.cond_false_right, Bool.cond_true_left]
  all_goals try simp only [beq_eq_false_iff_ne, Bool.cond_eq_ite, bne_iff_ne, ne_eq, Bool.and_eq_true, Bool.or_eq_true, decide_eq_true_eq, beq_iff_eq, Bool.not_eq_true', decide_eq_false_iff_not]
  repeat' split
  all_goals first | rfl | (exfalso; omega) | (simp_all; done) | (simp_all; omega)
theorem p12 : Prog Try.prog (fun _ => True) k12 := p11.addFn (s := s_door_phases_1) (r := r_door_phases_1) (.of Try.func39 (by kernel_rfl) (by kernel_rfl)) (fun x _ => run_door_phases_1 x.1 x.2.1 x.2.2.1)

theorem tree_door_phases_2 (a0 : Gear) (a1 : Door) (a2 : Bool) : run k12 20 4 40 Try.f40 s_door_phases_2 (a0, a1, a2, ()) =
some
  (AV.agg
    [AV.int IntKind.i64 (Door.phase (onD a1 2 (Gear.dwell a0))),
      AV.int IntKind.i64 (Door.left (onD a1 2 (Gear.dwell a0))),
      AV.int IntKind.i64 (Door.held (onD a1 2 (Gear.dwell a0)))]) := by kernel_rfl
theorem run_door_phases_2 (a0 : Gear) (a1 : Door) (a2 : Bool) : run k12 20 4 40 Try.f40 s_door_phases_2 (a0, a1, a2, ()) = some (r_door_phases_2.enc (phase2 a0 a1 a2)) := by
  rw [tree_door_phases_2]
  simp only [r_door_phases_2, Res.bool, Res.int, Res.agg, Res.tup2, Res.tup3, cDoor_enc, cCar_enc, cOutT_enc, cDoorStepped_enc, cCarStepped_enc, cGear_enc, phase2, Bool.cond_false_right, Bool.cond_true_left]
  all_goals try simp only [beq_eq_false_iff_ne, Bool.cond_eq_ite, bne_iff_ne, ne_eq, Bool.and_eq_true, Bool.or_eq_true, decide_eq_true_eq, beq_iff_eq, Bool.not_eq_true', decide_eq_false_iff_not]
  repeat' split
  all_goals first | rfl | (exfalso; omega) | (simp_all; done) | (simp_all; omega)
theorem p13 : Prog Try.prog (fun _ => True) k13 := p12.addFn (s := s_door_phases_2) (r := r_door_phases_2) (.of Try.func40 (by kernel_rfl) (by kernel_rfl)) (fun x _ => run_door_phases_2 x.1 x.2.1 x.2.2.1)

theorem tree_door_open (a0 : Gear) (a1 : Door) (a2 : Bool) : run k13 20 4 42 Try.f42 s_door_open (a0, a1, a2, ()) =
bif a2 then
  some
    (AV.agg
      [AV.int IntKind.i64 (Door.phase a1), AV.int IntKind.i64 (Gear.dwell a0),
        AV.int IntKind.i64 (IntKind.wrap IntKind.i64 (Door.held a1 + 1))])
else
  some
    (AV.agg
      [AV.int IntKind.i64 (Door.phase (onD a1 3 (Times.close (Gear.times a0)))),
        AV.int IntKind.i64 (Door.left (onD a1 3 (Times.close (Gear.times a0)))),
        AV.int IntKind.i64 (Door.held (onD a1 3 (Times.close (Gear.times a0))))]) := by kernel_rfl
theorem run_door_open (a0 : Gear) (a1 : Door) (a2 : Bool) : run k13 20 4 42 Try.f42 s_door_open (a0, a1, a2, ()) = some (r_door_open.enc (openD a0 a1 a2)) := by
  rw [tree_door_open]
  simp only [r_door_open, Res.bool, Res.int, Res.agg, Res.tup2, Res.tup3, cDoor_enc, cCar_enc, cOutT_enc, cDoorStepped_enc, cCarStepped_enc, cGear_enc, openD, Bool.cond_false_right, Bool.cond_true_left]
  all_goals try simp only [beq_eq_false_iff_ne, Bool.cond_eq_ite, bne_iff_ne, ne_eq, Bool.and_eq_true, Bool.or_eq_true, decide_eq_true_eq, beq_iff_eq, Bool.not_eq_true', decide_eq_false_iff_not]
  repeat' split
  all_goals first | rfl | (exfalso; omega) | (simp_all; done) | (simp_all; omega)
theorem p14 : Prog Try.prog (fun _ => True) k14 := p13.addFn (s := s_door_open) (r := r_door_open) (.of Try.func42 (by kernel_rfl) (by kernel_rfl)) (fun x _ => run_door_open x.1 x.2.1 x.2.2.1)

theorem tree_door_closing (a0 : Gear) (a1 : Door) (a2 : Bool) : run k14 20 4 43 Try.f43 s_door_closing (a0, a1, a2, ()) =
bif a2 then
  some
    (AV.agg
      [AV.int IntKind.i64 1, AV.int IntKind.i64 (Times.open_ (Gear.times a0)),
        AV.int IntKind.i64 (IntKind.wrap IntKind.i64 (Door.held a1 + 1))])
else
  bif Door.phase (onD a1 0 0) == 0 then
    some
      (AV.agg
        [AV.int IntKind.i64 (Door.phase (onD a1 0 0)), AV.int IntKind.i64 (Door.left (onD a1 0 0)),
          AV.int IntKind.i64 0])
  else
    some
      (AV.agg
        [AV.int IntKind.i64 (Door.phase (onD a1 0 0)), AV.int IntKind.i64 (Door.left (onD a1 0 0)),
          AV.int IntKind.i64 (Door.held (onD a1 0 0))]) := by kernel_rfl
theorem run_door_closing (a0 : Gear) (a1 : Door) (a2 : Bool) : run k14 20 4 43 Try.f43 s_door_closing (a0, a1, a2, ()) = some (r_door_closing.enc (closingD a0 a1 a2)) := by
  rw [tree_door_closing]
  simp only [r_door_closing, Res.bool, Res.int, Res.agg, Res.tup2, Res.tup3, cDoor_enc, cCar_enc, cOutT_enc, cDoorStepped_enc, cCarStepped_enc, cGear_enc, closingD, Bool.cond_false_right, Bool.cond_true_left]
  all_goals try simp only [beq_eq_false_iff_ne, Bool.cond_eq_ite, bne_iff_ne, ne_eq, Bool.and_eq_true, Bool.or_eq_true, decide_eq_true_eq, beq_iff_eq, Bool.not_eq_true', decide_eq_false_iff_not]
  repeat' split
  all_goals first | rfl | (exfalso; omega) | (simp_all; done) | (simp_all; omega)
theorem p15 : Prog Try.prog (fun _ => True) k15 := p14.addFn (s := s_door_closing) (r := r_door_closing) (.of Try.func43 (by kernel_rfl) (by kernel_rfl)) (fun x _ => run_door_closing x.1 x.2.1 x.2.2.1)

theorem run_door_phases : run k15 20 4 38 Try.f38 s_door_phases (()) = some (r_door_phases.enc (())) := by kernel_rfl
theorem p16 : Prog Try.prog (fun _ => True) k16 := p15.addFn (s := s_door_phases) (r := r_door_phases) (.of Try.func38 (by kernel_rfl) (by kernel_rfl)) (fun _ _ => run_door_phases )

theorem tree_door_Check_0 (l : Int) (h : Int) : run k16 20 4 29 Try.f29 s_door_Check ((⟨0, l, h⟩ : Door), ()) =
bif bif !wthin l 0 0 then true else !wthin h 0 0 then some (AV.int IntKind.i64 170) else some (AV.int IntKind.i64 0) := by kernel_rfl
theorem run_door_Check_0 (l : Int) (h : Int) : run k16 20 4 29 Try.f29 s_door_Check ((⟨0, l, h⟩ : Door), ()) = some (r_door_Check.enc (door_Check (⟨0, l, h⟩ : Door))) := by
  rw [tree_door_Check_0]
  simp only [r_door_Check, Res.bool, Res.int, Res.agg, Res.tup2, Res.tup3, cDoor_enc, cCar_enc, cOutT_enc, cDoorStepped_enc, cCarStepped_enc, cGear_enc, door_Check, errOf, doorB, mostOf, wthin, Bool.cond_false_right, Bool.cond_true_left]
  all_goals try simp only [beq_eq_false_iff_ne, Bool.cond_eq_ite, bne_iff_ne, ne_eq, Bool.and_eq_true, Bool.or_eq_true, decide_eq_true_eq, beq_iff_eq, Bool.not_eq_true', decide_eq_false_iff_not]
  repeat' split
  all_goals first | rfl | (exfalso; omega) | (simp_all; done) | (simp_all; omega)
theorem tree_door_Check_1 (l : Int) (h : Int) : run k16 20 4 29 Try.f29 s_door_Check ((⟨1, l, h⟩ : Door), ()) =
bif bif !wthin l 1 60 then true else !wthin h 0 60 then some (AV.int IntKind.i64 170) else some (AV.int IntKind.i64 0) := by kernel_rfl
theorem run_door_Check_1 (l : Int) (h : Int) : run k16 20 4 29 Try.f29 s_door_Check ((⟨1, l, h⟩ : Door), ()) = some (r_door_Check.enc (door_Check (⟨1, l, h⟩ : Door))) := by
  rw [tree_door_Check_1]
  simp only [r_door_Check, Res.bool, Res.int, Res.agg, Res.tup2, Res.tup3, cDoor_enc, cCar_enc, cOutT_enc, cDoorStepped_enc, cCarStepped_enc, cGear_enc, door_Check, errOf, doorB, mostOf, wthin, Bool.cond_false_right, Bool.cond_true_left]
  all_goals try simp only [beq_eq_false_iff_ne, Bool.cond_eq_ite, bne_iff_ne, ne_eq, Bool.and_eq_true, Bool.or_eq_true, decide_eq_true_eq, beq_iff_eq, Bool.not_eq_true', decide_eq_false_iff_not]
  repeat' split
  all_goals first | rfl | (exfalso; omega) | (simp_all; done) | (simp_all; omega)
theorem tree_door_Check_2 (l : Int) (h : Int) : run k16 20 4 29 Try.f29 s_door_Check ((⟨2, l, h⟩ : Door), ()) =
bif bif !wthin l 1 300 then true else !wthin h 0 60 then some (AV.int IntKind.i64 170) else some (AV.int IntKind.i64 0) := by kernel_rfl
theorem run_door_Check_2 (l : Int) (h : Int) : run k16 20 4 29 Try.f29 s_door_Check ((⟨2, l, h⟩ : Door), ()) = some (r_door_Check.enc (door_Check (⟨2, l, h⟩ : Door))) := by
  rw [tree_door_Check_2]
  simp only [r_door_Check, Res.bool, Res.int, Res.agg, Res.tup2, Res.tup3, cDoor_enc, cCar_enc, cOutT_enc, cDoorStepped_enc, cCarStepped_enc, cGear_enc, door_Check, errOf, doorB, mostOf, wthin, Bool.cond_false_right, Bool.cond_true_left]
  all_goals try simp only [beq_eq_false_iff_ne, Bool.cond_eq_ite, bne_iff_ne, ne_eq, Bool.and_eq_true, Bool.or_eq_true, decide_eq_true_eq, beq_iff_eq, Bool.not_eq_true', decide_eq_false_iff_not]
  repeat' split
  all_goals first | rfl | (exfalso; omega) | (simp_all; done) | (simp_all; omega)
theorem tree_door_Check_3 (l : Int) (h : Int) : run k16 20 4 29 Try.f29 s_door_Check ((⟨3, l, h⟩ : Door), ()) =
bif bif !wthin l 1 60 then true else !wthin h 0 60 then some (AV.int IntKind.i64 170) else some (AV.int IntKind.i64 0) := by kernel_rfl
theorem run_door_Check_3 (l : Int) (h : Int) : run k16 20 4 29 Try.f29 s_door_Check ((⟨3, l, h⟩ : Door), ()) = some (r_door_Check.enc (door_Check (⟨3, l, h⟩ : Door))) := by
  rw [tree_door_Check_3]
  simp only [r_door_Check, Res.bool, Res.int, Res.agg, Res.tup2, Res.tup3, cDoor_enc, cCar_enc, cOutT_enc, cDoorStepped_enc, cCarStepped_enc, cGear_enc, door_Check, errOf, doorB, mostOf, wthin, Bool.cond_false_right, Bool.cond_true_left]
  all_goals try simp only [beq_eq_false_iff_ne, Bool.cond_eq_ite, bne_iff_ne, ne_eq, Bool.and_eq_true, Bool.or_eq_true, decide_eq_true_eq, beq_iff_eq, Bool.not_eq_true', decide_eq_false_iff_not]
  repeat' split
  all_goals first | rfl | (exfalso; omega) | (simp_all; done) | (simp_all; omega)
theorem tree_door_Check_m (n : Nat) (l : Int) (h : Int) : run k16 20 4 29 Try.f29 s_door_Check ((⟨(Int.ofNat (n + 4)), l, h⟩ : Door), ()) =
some (AV.int IntKind.i64 170) := by kernel_rfl
theorem run_door_Check_m (n : Nat) (l : Int) (h : Int) : run k16 20 4 29 Try.f29 s_door_Check ((⟨(Int.ofNat (n + 4)), l, h⟩ : Door), ()) = some (r_door_Check.enc (door_Check (⟨(Int.ofNat (n + 4)), l, h⟩ : Door))) := by
  rw [tree_door_Check_m]
  try rfl
theorem tree_door_Check_n (n : Nat) (l : Int) (h : Int) : run k16 20 4 29 Try.f29 s_door_Check ((⟨(Int.negSucc n), l, h⟩ : Door), ()) =
some (AV.int IntKind.i64 170) := by kernel_rfl
theorem run_door_Check_n (n : Nat) (l : Int) (h : Int) : run k16 20 4 29 Try.f29 s_door_Check ((⟨(Int.negSucc n), l, h⟩ : Door), ()) = some (r_door_Check.enc (door_Check (⟨(Int.negSucc n), l, h⟩ : Door))) := by
  rw [tree_door_Check_n]
  try rfl
theorem run_door_Check (a0 : Door) : run k16 20 4 29 Try.f29 s_door_Check (a0, ()) = some (r_door_Check.enc (door_Check a0)) := by
  obtain ⟨p, l, h⟩ := a0
  rcases p with n | n
  · rcases n with _ | _ | _ | _ | n
    · exact run_door_Check_0 l h
    · exact run_door_Check_1 l h
    · exact run_door_Check_2 l h
    · exact run_door_Check_3 l h
    · exact run_door_Check_m n l h
  · exact run_door_Check_n n l h
theorem p17 : Prog Try.prog (fun _ => True) k17 := p16.addFn (s := s_door_Check) (r := r_door_Check) (.of Try.func29 (by kernel_rfl) (by kernel_rfl)) (fun x _ => run_door_Check x.1)

theorem tree_door_Ask (a0 : Times) (a1 : Door) : run k17 20 4 27 Try.f27 s_door_Ask (a0, a1, ()) =
bif bif !timesB a0 then true else door_Check a1 != 0 then
  some (AV.tup [AV.agg [AV.int IntKind.i64 0, AV.int IntKind.i64 0, AV.int IntKind.i64 0], AV.int IntKind.i64 170])
else
  bif Door.phase a1 == 0 then
    some
      (AV.tup
        [AV.agg [AV.int IntKind.i64 1, AV.int IntKind.i64 (Times.open_ a0), AV.int IntKind.i64 0],
          AV.int IntKind.i64 0])
  else
    some
      (AV.tup
        [AV.agg
            [AV.int IntKind.i64 (Door.phase a1), AV.int IntKind.i64 (Door.left a1), AV.int IntKind.i64 (Door.held a1)],
          AV.int IntKind.i64 0]) := by kernel_rfl
theorem run_door_Ask (a0 : Times) (a1 : Door) : run k17 20 4 27 Try.f27 s_door_Ask (a0, a1, ()) = some (r_door_Ask.enc (door_Ask a0 a1)) := by
  rw [tree_door_Ask]
  simp only [r_door_Ask, Res.bool, Res.int, Res.agg, Res.tup2, Res.tup3, cDoor_enc, cCar_enc, cOutT_enc, cDoorStepped_enc, cCarStepped_enc, cGear_enc, door_Ask, door_Check, errOf, askD, door0]
  cases timesB a0 <;> cases doorB a1 <;> cases (a1.phase == 0) <;> rfl
theorem p18 : Prog Try.prog (fun _ => True) k18 := p17.addFn (s := s_door_Ask) (r := r_door_Ask) (.of Try.func27 (by kernel_rfl) (by kernel_rfl)) (fun x _ => run_door_Ask x.1 x.2.1)

theorem tree_door_Step_0 (a0 : Gear) (a2 : Bool) (l : Int) (h : Int) : run k18 20 4 32 Try.f32 s_door_Step (a0, (⟨0, l, h⟩ : Door), a2, ()) =
bif bif !gearB a0 then true else door_Check { phase := 0, left := l, held := h } != 0 then
  some
    (AV.tup
      [AV.agg [AV.int IntKind.i64 0, AV.int IntKind.i64 0, AV.int IntKind.i64 0], AV.bool false,
        AV.int IntKind.i64 170])
else
  some
    (AV.tup
      [AV.agg [AV.int IntKind.i64 0, AV.int IntKind.i64 l, AV.int IntKind.i64 h], AV.bool false, AV.int IntKind.i64 0]) := by kernel_rfl
theorem run_door_Step_0 (a0 : Gear) (a2 : Bool) (l : Int) (h : Int) : run k18 20 4 32 Try.f32 s_door_Step (a0, (⟨0, l, h⟩ : Door), a2, ()) = some (r_door_Step.enc (door_Step a0 (⟨0, l, h⟩ : Door) a2)) := by
  rw [tree_door_Step_0]
  simp only [r_door_Step, Res.bool, Res.int, Res.agg, Res.tup2, Res.tup3, cDoor_enc, cCar_enc, cOutT_enc, cDoorStepped_enc, cCarStepped_enc, cGear_enc, door_Step, door_Check, errOf, dStepOk]
  cases gearB a0 <;> cases doorB _ <;> rfl
theorem tree_door_Step_1 (a0 : Gear) (a2 : Bool) (l : Int) (h : Int) : run k18 20 4 32 Try.f32 s_door_Step (a0, (⟨1, l, h⟩ : Door), a2, ()) =
bif bif !gearB a0 then true else door_Check { phase := 1, left := l, held := h } != 0 then
  some
    (AV.tup
      [AV.agg [AV.int IntKind.i64 0, AV.int IntKind.i64 0, AV.int IntKind.i64 0], AV.bool false,
        AV.int IntKind.i64 170])
else
  some
    (AV.tup
      [AV.agg
          [AV.int IntKind.i64
              (Door.phase
                (phase2 a0 { phase := 1, left := l, held := h } (bif a2 then decide (h < Gear.most a0) else false))),
            AV.int IntKind.i64
              (Door.left
                (phase2 a0 { phase := 1, left := l, held := h } (bif a2 then decide (h < Gear.most a0) else false))),
            AV.int IntKind.i64
              (Door.held
                (phase2 a0 { phase := 1, left := l, held := h } (bif a2 then decide (h < Gear.most a0) else false)))],
        AV.bool false, AV.int IntKind.i64 0]) := by kernel_rfl
theorem run_door_Step_1 (a0 : Gear) (a2 : Bool) (l : Int) (h : Int) : run k18 20 4 32 Try.f32 s_door_Step (a0, (⟨1, l, h⟩ : Door), a2, ()) = some (r_door_Step.enc (door_Step a0 (⟨1, l, h⟩ : Door) a2)) := by
  rw [tree_door_Step_1]
  simp only [r_door_Step, Res.bool, Res.int, Res.agg, Res.tup2, Res.tup3, cDoor_enc, cCar_enc, cOutT_enc, cDoorStepped_enc, cCarStepped_enc, cGear_enc, door_Step, door_Check, errOf, dStepOk]
  cases hg : gearB a0 <;> cases hd : doorB _ <;> try rfl
  simp only [gearB_iff, doorB_iff, timesB_iff] at hg hd
  have h1 := IntWalk.i64_in (h + 1) (by omega)
  have h2 := IntWalk.i64_in (l - 1) (by omega)
  simp only [phase2, openD, closingD, onD, h1, h2, stepD, heldD, goesD, isHeld, door0, Bool.cond_false_right, Bool.cond_true_left]
  clear h1 h2
  cases a2 <;> simp only [beq_eq_false_iff_ne, Bool.cond_eq_ite, bne_iff_ne, ne_eq, Bool.and_eq_true, Bool.or_eq_true, decide_eq_true_eq, beq_iff_eq, Bool.not_eq_true', decide_eq_false_iff_not]
  all_goals simp
  all_goals repeat' split
  all_goals first | rfl | (exfalso; omega) | (simp_all; done) | (simp_all; omega)
theorem tree_door_Step_2 (a0 : Gear) (a2 : Bool) (l : Int) (h : Int) : run k18 20 4 32 Try.f32 s_door_Step (a0, (⟨2, l, h⟩ : Door), a2, ()) =
bif bif !gearB a0 then true else door_Check { phase := 2, left := l, held := h } != 0 then
  some
    (AV.tup
      [AV.agg [AV.int IntKind.i64 0, AV.int IntKind.i64 0, AV.int IntKind.i64 0], AV.bool false,
        AV.int IntKind.i64 170])
else
  some
    (AV.tup
      [AV.agg
          [AV.int IntKind.i64
              (Door.phase
                (openD a0 { phase := 2, left := l, held := h } (bif a2 then decide (h < Gear.most a0) else false))),
            AV.int IntKind.i64
              (Door.left
                (openD a0 { phase := 2, left := l, held := h } (bif a2 then decide (h < Gear.most a0) else false))),
            AV.int IntKind.i64
              (Door.held
                (openD a0 { phase := 2, left := l, held := h } (bif a2 then decide (h < Gear.most a0) else false)))],
        AV.bool
          (bif bif true then l == Times.lead (Gear.times a0) else false then
            !bif a2 then decide (h < Gear.most a0) else false
          else false),
        AV.int IntKind.i64 0]) := by kernel_rfl
theorem run_door_Step_2 (a0 : Gear) (a2 : Bool) (l : Int) (h : Int) : run k18 20 4 32 Try.f32 s_door_Step (a0, (⟨2, l, h⟩ : Door), a2, ()) = some (r_door_Step.enc (door_Step a0 (⟨2, l, h⟩ : Door) a2)) := by
  rw [tree_door_Step_2]
  simp only [r_door_Step, Res.bool, Res.int, Res.agg, Res.tup2, Res.tup3, cDoor_enc, cCar_enc, cOutT_enc, cDoorStepped_enc, cCarStepped_enc, cGear_enc, door_Step, door_Check, errOf, dStepOk]
  cases hg : gearB a0 <;> cases hd : doorB _ <;> try rfl
  simp only [gearB_iff, doorB_iff, timesB_iff] at hg hd
  have h1 := IntWalk.i64_in (h + 1) (by omega)
  have h2 := IntWalk.i64_in (l - 1) (by omega)
  simp only [phase2, openD, closingD, onD, h1, h2, stepD, heldD, goesD, isHeld, door0, Bool.cond_false_right, Bool.cond_true_left]
  clear h1 h2
  cases a2 <;> simp only [beq_eq_false_iff_ne, Bool.cond_eq_ite, bne_iff_ne, ne_eq, Bool.and_eq_true, Bool.or_eq_true, decide_eq_true_eq, beq_iff_eq, Bool.not_eq_true', decide_eq_false_iff_not]
  all_goals simp
  all_goals repeat' split
  all_goals first | rfl | (exfalso; omega) | (simp_all; done) | (simp_all; omega)
theorem tree_door_Step_3 (a0 : Gear) (a2 : Bool) (l : Int) (h : Int) : run k18 20 4 32 Try.f32 s_door_Step (a0, (⟨3, l, h⟩ : Door), a2, ()) =
bif bif !gearB a0 then true else door_Check { phase := 3, left := l, held := h } != 0 then
  some
    (AV.tup
      [AV.agg [AV.int IntKind.i64 0, AV.int IntKind.i64 0, AV.int IntKind.i64 0], AV.bool false,
        AV.int IntKind.i64 170])
else
  some
    (AV.tup
      [AV.agg
          [AV.int IntKind.i64
              (Door.phase
                (closingD a0 { phase := 3, left := l, held := h } (bif a2 then decide (h < Gear.most a0) else false))),
            AV.int IntKind.i64
              (Door.left
                (closingD a0 { phase := 3, left := l, held := h } (bif a2 then decide (h < Gear.most a0) else false))),
            AV.int IntKind.i64
              (Door.held
                (closingD a0 { phase := 3, left := l, held := h }
                  (bif a2 then decide (h < Gear.most a0) else false)))],
        AV.bool false, AV.int IntKind.i64 0]) := by kernel_rfl
theorem run_door_Step_3 (a0 : Gear) (a2 : Bool) (l : Int) (h : Int) : run k18 20 4 32 Try.f32 s_door_Step (a0, (⟨3, l, h⟩ : Door), a2, ()) = some (r_door_Step.enc (door_Step a0 (⟨3, l, h⟩ : Door) a2)) := by
  rw [tree_door_Step_3]
  simp only [r_door_Step, Res.bool, Res.int, Res.agg, Res.tup2, Res.tup3, cDoor_enc, cCar_enc, cOutT_enc, cDoorStepped_enc, cCarStepped_enc, cGear_enc, door_Step, door_Check, errOf, dStepOk]
  cases hg : gearB a0 <;> cases hd : doorB _ <;> try rfl
  simp only [gearB_iff, doorB_iff, timesB_iff] at hg hd
  have h1 := IntWalk.i64_in (h + 1) (by omega)
  have h2 := IntWalk.i64_in (l - 1) (by omega)
  simp only [phase2, openD, closingD, onD, h1, h2, stepD, heldD, goesD, isHeld, door0, Bool.cond_false_right, Bool.cond_true_left]
  clear h1 h2
  cases a2 <;> simp only [beq_eq_false_iff_ne, Bool.cond_eq_ite, bne_iff_ne, ne_eq, Bool.and_eq_true, Bool.or_eq_true, decide_eq_true_eq, beq_iff_eq, Bool.not_eq_true', decide_eq_false_iff_not]
  all_goals simp
  all_goals repeat' split
  all_goals first | rfl | (exfalso; omega) | (simp_all; done) | (simp_all; omega)
theorem tree_door_Step_m (n : Nat) (a0 : Gear) (a2 : Bool) (l : Int) (h : Int) : run k18 20 4 32 Try.f32 s_door_Step (a0, (⟨(Int.ofNat (n + 4)), l, h⟩ : Door), a2, ()) =
bif bif !gearB a0 then true else true then
  some
    (AV.tup
      [AV.agg [AV.int IntKind.i64 0, AV.int IntKind.i64 0, AV.int IntKind.i64 0], AV.bool false,
        AV.int IntKind.i64 170])
else none := by kernel_rfl
theorem run_door_Step_m (n : Nat) (a0 : Gear) (a2 : Bool) (l : Int) (h : Int) : run k18 20 4 32 Try.f32 s_door_Step (a0, (⟨(Int.ofNat (n + 4)), l, h⟩ : Door), a2, ()) = some (r_door_Step.enc (door_Step a0 (⟨(Int.ofNat (n + 4)), l, h⟩ : Door) a2)) := by
  rw [tree_door_Step_m]
  have hd : doorB ⟨Int.ofNat (n + 4), l, h⟩ = false := rfl
  simp only [r_door_Step, Res.bool, Res.int, Res.agg, Res.tup2, Res.tup3, cDoor_enc, cCar_enc, cOutT_enc, cDoorStepped_enc, cCarStepped_enc, cGear_enc, door_Step, dStepOk, errOf]
  rw [hd]
  cases gearB a0 <;> rfl
theorem tree_door_Step_n (n : Nat) (a0 : Gear) (a2 : Bool) (l : Int) (h : Int) : run k18 20 4 32 Try.f32 s_door_Step (a0, (⟨(Int.negSucc n), l, h⟩ : Door), a2, ()) =
bif bif !gearB a0 then true else true then
  some
    (AV.tup
      [AV.agg [AV.int IntKind.i64 0, AV.int IntKind.i64 0, AV.int IntKind.i64 0], AV.bool false,
        AV.int IntKind.i64 170])
else none := by kernel_rfl
theorem run_door_Step_n (n : Nat) (a0 : Gear) (a2 : Bool) (l : Int) (h : Int) : run k18 20 4 32 Try.f32 s_door_Step (a0, (⟨(Int.negSucc n), l, h⟩ : Door), a2, ()) = some (r_door_Step.enc (door_Step a0 (⟨(Int.negSucc n), l, h⟩ : Door) a2)) := by
  rw [tree_door_Step_n]
  have hd : doorB ⟨Int.negSucc n, l, h⟩ = false := rfl
  simp only [r_door_Step, Res.bool, Res.int, Res.agg, Res.tup2, Res.tup3, cDoor_enc, cCar_enc, cOutT_enc, cDoorStepped_enc, cCarStepped_enc, cGear_enc, door_Step, dStepOk, errOf]
  rw [hd]
  cases gearB a0 <;> rfl
theorem run_door_Step (a0 : Gear) (a1 : Door) (a2 : Bool) : run k18 20 4 32 Try.f32 s_door_Step (a0, a1, a2, ()) = some (r_door_Step.enc (door_Step a0 a1 a2)) := by
  obtain ⟨p, l, h⟩ := a1
  rcases p with n | n
  · rcases n with _ | _ | _ | _ | n
    · exact run_door_Step_0 a0 a2 l h
    · exact run_door_Step_1 a0 a2 l h
    · exact run_door_Step_2 a0 a2 l h
    · exact run_door_Step_3 a0 a2 l h
    · exact run_door_Step_m n a0 a2 l h
  · exact run_door_Step_n n a0 a2 l h
theorem p19 : Prog Try.prog (fun _ => True) k19 := p18.addFn (s := s_door_Step) (r := r_door_Step) (.of Try.func32 (by kernel_rfl) (by kernel_rfl)) (fun x _ => run_door_Step x.1 x.2.1 x.2.2.1)

theorem tree_door_Rest (a0 : Gear) (a1 : Door) : run k19 20 4 28 Try.f28 s_door_Rest (a0, a1, ()) =
bif bif !gearB a0 then true else door_Check a1 != 0 then some (AV.tup [AV.int IntKind.i64 0, AV.int IntKind.i64 170])
else
  bif Door.phase a1 == 0 then some (AV.tup [AV.int IntKind.i64 0, AV.int IntKind.i64 0])
  else
    bif Door.phase a1 == 1 then
      some
        (AV.tup
          [AV.int IntKind.i64
              (IntKind.wrap IntKind.i64
                (IntKind.wrap IntKind.i64
                    (Door.left a1 + IntKind.wrap IntKind.i64 (Gear.dwell a0 + Times.close (Gear.times a0))) +
                  IntKind.wrap IntKind.i64
                    ((bif decide (0 > IntKind.wrap IntKind.i64 (Gear.most a0 - Door.held a1)) then 0
                      else IntKind.wrap IntKind.i64 (Gear.most a0 - Door.held a1)) *
                      IntKind.wrap IntKind.i64
                        (IntKind.wrap IntKind.i64 (Times.open_ (Gear.times a0) + Gear.dwell a0) +
                          Times.close (Gear.times a0))))),
            AV.int IntKind.i64 0])
    else
      bif Door.phase a1 == 2 then
        some
          (AV.tup
            [AV.int IntKind.i64
                (IntKind.wrap IntKind.i64
                  (IntKind.wrap IntKind.i64 (Door.left a1 + Times.close (Gear.times a0)) +
                    IntKind.wrap IntKind.i64
                      ((bif decide (0 > IntKind.wrap IntKind.i64 (Gear.most a0 - Door.held a1)) then 0
                        else IntKind.wrap IntKind.i64 (Gear.most a0 - Door.held a1)) *
                        IntKind.wrap IntKind.i64
                          (IntKind.wrap IntKind.i64 (Times.open_ (Gear.times a0) + Gear.dwell a0) +
                            Times.close (Gear.times a0))))),
              AV.int IntKind.i64 0])
      else
        some
          (AV.tup
            [AV.int IntKind.i64
                (IntKind.wrap IntKind.i64
                  (Door.left a1 +
                    IntKind.wrap IntKind.i64
                      ((bif decide (0 > IntKind.wrap IntKind.i64 (Gear.most a0 - Door.held a1)) then 0
                        else IntKind.wrap IntKind.i64 (Gear.most a0 - Door.held a1)) *
                        IntKind.wrap IntKind.i64
                          (IntKind.wrap IntKind.i64 (Times.open_ (Gear.times a0) + Gear.dwell a0) +
                            Times.close (Gear.times a0))))),
              AV.int IntKind.i64 0]) := by kernel_rfl
theorem run_door_Rest (a0 : Gear) (a1 : Door) : run k19 20 4 28 Try.f28 s_door_Rest (a0, a1, ()) = some (r_door_Rest.enc (door_Rest a0 a1)) := by
  rw [tree_door_Rest]
  simp only [r_door_Rest, Res.bool, Res.int, Res.agg, Res.tup2, Res.tup3, cDoor_enc, cCar_enc, cOutT_enc, cDoorStepped_enc, cCarStepped_enc, cGear_enc, door_Rest, door_Check, errOf, dStepOk]
  cases hg : gearB a0 <;> cases hd : doorB a1 <;> try rfl
  simp only [gearB_iff, doorB_iff, timesB_iff] at hg hd
  simp only [IntWalk.i64_in (a0.times.open_ + a0.dwell) (by omega), IntWalk.i64_in (a0.times.open_ + a0.dwell + a0.times.close) (by omega), IntWalk.i64_in (a0.most - a1.held) (by omega), restD, IntWalk.i64_in (a0.dwell + a0.times.close) (by omega)]
  have hm : a0.most > a1.held → 0 ≤ (a0.most - a1.held) * (a0.times.open_ + a0.dwell + a0.times.close) ∧ (a0.most - a1.held) * (a0.times.open_ + a0.dwell + a0.times.close) ≤ 1000000 := fun h => ⟨Int.mul_nonneg (by omega) (by omega), Int.le_trans (Int.mul_le_mul (by omega : a0.most - a1.held ≤ 60) (by omega : a0.times.open_ + a0.dwell + a0.times.close ≤ 420) (by omega) (by omega)) (by omega)⟩
  have hz : (bif decide (0 > a0.most - a1.held) then 0 else a0.most - a1.held) * (a0.times.open_ + a0.dwell + a0.times.close) = bif decide (a0.most > a1.held) then (a0.most - a1.held) * (a0.times.open_ + a0.dwell + a0.times.close) else 0 := by
    simp only [beq_eq_false_iff_ne, Bool.cond_eq_ite, bne_iff_ne, ne_eq, Bool.and_eq_true, Bool.or_eq_true, decide_eq_true_eq, beq_iff_eq, Bool.not_eq_true', decide_eq_false_iff_not]
    split
    · rw [if_neg (by omega)]; omega
    · split
      · rfl
      · rw [show a0.most - a1.held = 0 by omega]; omega
  rw [hz]
  generalize (a0.most - a1.held) * (a0.times.open_ + a0.dwell + a0.times.close) = m at hm
  simp only [IntKind.wrap_i64, beq_eq_false_iff_ne, Bool.cond_eq_ite, bne_iff_ne, ne_eq, Bool.and_eq_true, Bool.or_eq_true, decide_eq_true_eq, beq_iff_eq, Bool.not_eq_true', decide_eq_false_iff_not]
  simp
  repeat' split
  all_goals first | rfl | (exfalso; omega) | (simp_all; done) | (simp_all; omega) | omega
theorem p20 : Prog Try.prog (fun _ => True) k20 := p19.addFn (s := s_door_Rest) (r := r_door_Rest) (.of Try.func28 (by kernel_rfl) (by kernel_rfl)) (fun x _ => run_door_Rest x.1 x.2.1)

theorem tree_car_Check (a0 : Int) (a1 : Car) : run k20 20 4 16 Try.f16 s_car_Check (a0, a1, ()) =
bif Car.phase a1 == 0 then
  bif
      !bif
            bif
                bif
                    bif
                        bif wthin a0 2 64 then wthin (Car.floor a1) 0 (IntKind.wrap IntKind.i64 (a0 - 1))
                        else false then
                      door_Check (Car.door a1) == 0
                    else false then
                  Car.dir a1 == 0
                else false then
              Car.left a1 == 0
            else false then
          Door.phase (Car.door a1) == 0
        else false then
    some (AV.int IntKind.i64 180)
  else some (AV.int IntKind.i64 0)
else
  bif Car.phase a1 == 1 then
    bif
        !bif
              bif
                  bif
                      bif
                          bif
                              bif wthin a0 2 64 then wthin (Car.floor a1) 0 (IntKind.wrap IntKind.i64 (a0 - 1))
                              else false then
                            door_Check (Car.door a1) == 0
                          else false then
                        bif Car.dir a1 == 1 then true else Car.dir a1 == -1
                      else false then
                    wthin (IntKind.wrap IntKind.i64 (Car.floor a1 + Car.dir a1)) 0 (IntKind.wrap IntKind.i64 (a0 - 1))
                  else false then
                wthin (Car.left a1) 1 60
              else false then
            Door.phase (Car.door a1) == 0
          else false then
      some (AV.int IntKind.i64 180)
    else some (AV.int IntKind.i64 0)
  else
    bif Car.phase a1 == 2 then
      bif
          !bif
                bif
                    bif
                        bif
                            bif wthin a0 2 64 then wthin (Car.floor a1) 0 (IntKind.wrap IntKind.i64 (a0 - 1))
                            else false then
                          door_Check (Car.door a1) == 0
                        else false then
                      Car.dir a1 == 0
                    else false then
                  wthin (Car.left a1) 1 60
                else false then
              Door.phase (Car.door a1) == 0
            else false then
        some (AV.int IntKind.i64 180)
      else some (AV.int IntKind.i64 0)
    else
      bif Car.phase a1 == 3 then
        bif
            !bif
                  bif
                      bif
                          bif
                              bif wthin a0 2 64 then wthin (Car.floor a1) 0 (IntKind.wrap IntKind.i64 (a0 - 1))
                              else false then
                            door_Check (Car.door a1) == 0
                          else false then
                        Car.dir a1 == 0
                      else false then
                    Car.left a1 == 0
                  else false then
                !Door.phase (Car.door a1) == 0
              else false then
          some (AV.int IntKind.i64 180)
        else some (AV.int IntKind.i64 0)
      else some (AV.int IntKind.i64 180) := by kernel_rfl
theorem run_car_Check (a0 : Int) (a1 : Car) : run k20 20 4 16 Try.f16 s_car_Check (a0, a1, ()) = some (r_car_Check.enc (car_Check a0 a1)) := by
  rw [tree_car_Check]
  simp only [r_car_Check, Res.int, car_Check, carB, door_Check]
  cases h1 : wthin a0 2 64
  · cases a1.phase == 0 <;> cases a1.phase == 1 <;> cases a1.phase == 2 <;> cases a1.phase == 3 <;> rfl
  rw [wthin_iff] at h1
  rw [IntWalk.i64_in (a0 - 1) (by omega)]
  cases h2 : wthin a1.floor 0 (a0 - 1)
  · cases a1.phase == 0 <;> cases a1.phase == 1 <;> cases a1.phase == 2 <;> cases a1.phase == 3 <;> rfl
  rw [wthin_iff] at h2
  cases hp0 : (a1.phase == 0)
  case true => cases doorB a1.door <;> cases a1.dir == 0 <;> cases a1.left == 0 <;> cases a1.door.phase == 0 <;> rfl
  cases hp1 : (a1.phase == 1)
  case true =>
    by_cases hd : a1.dir = 1 ∨ a1.dir = -1
    · rw [IntWalk.i64_in (a1.floor + a1.dir) (by omega)]
      cases doorB a1.door <;> cases a1.dir == 1 <;> cases a1.dir == -1 <;> cases wthin (a1.floor + a1.dir) 0 (a0 - 1) <;> cases wthin a1.left 1 60 <;> cases a1.door.phase == 0 <;> rfl
    · rw [show (a1.dir == 1) = false by simp; omega, show (a1.dir == -1) = false by simp; omega]
      cases doorB a1.door <;> rfl
  cases hp2 : (a1.phase == 2)
  case true => cases doorB a1.door <;> cases a1.dir == 0 <;> cases wthin a1.left 1 60 <;> cases a1.door.phase == 0 <;> rfl
  cases a1.phase == 3 <;> cases doorB a1.door <;> cases a1.dir == 0 <;> cases a1.left == 0 <;> cases a1.door.phase == 0 <;> rfl
theorem p21 : Prog Try.prog (fun _ => True) k21 := p20.addFn (s := s_car_Check) (r := r_car_Check) (.of Try.func16 (by kernel_rfl) (by kernel_rfl)) (fun x _ => run_car_Check x.1 x.2.1)

theorem tree_car_check (a0 : Gear) (a1 : Car) : run k21 20 4 18 Try.f18 s_car_check (a0, a1, ()) =
bif errOf (dStepOk a0 { phase := 0, left := 0, held := 0 }) 170 != 0 then some (AV.int IntKind.i64 180)
else some (AV.int IntKind.i64 (car_Check (Gear.floors a0) a1)) := by kernel_rfl
theorem run_car_check (a0 : Gear) (a1 : Car) : run k21 20 4 18 Try.f18 s_car_check (a0, a1, ()) = some (r_car_check.enc (car_check a0 a1)) := by
  rw [tree_car_check]
  have hd : doorB ⟨0, 0, 0⟩ = true := rfl
  simp only [r_car_check, Res.int, car_check, carOk, car_Check, dStepOk, hd, Bool.and_true]
  cases gearB a0 <;> cases carB a0.floors a1 <;> rfl
theorem p22 : Prog Try.prog (fun _ => True) k22 := p21.addFn (s := s_car_check) (r := r_car_check) (.of Try.func18 (by kernel_rfl) (by kernel_rfl)) (fun x _ => run_car_check x.1 x.2.1)

theorem tree_car_Step (a0 : Gear) (a1 : Car) (a2 : Order) : run k22 20 4 10 Try.f10 s_car_Step (a0, a1, a2, ()) =
bif car_check a0 a1 != 0 then
  some
    (AV.tup
      [AV.agg
          [AV.int IntKind.i64 0, AV.int IntKind.i64 0, AV.int IntKind.i64 0, AV.int IntKind.i64 0, AV.int IntKind.i64 0,
            AV.int IntKind.i64 0, AV.int IntKind.i64 0],
        AV.agg [AV.int IntKind.i64 0, AV.int IntKind.i64 0, AV.int IntKind.i64 0, AV.bool false],
        AV.int IntKind.i64 (car_check a0 a1)])
else
  bif !wthin (Order.cmd a2) 0 3 then
    some
      (AV.tup
        [AV.agg
            [AV.int IntKind.i64 0, AV.int IntKind.i64 0, AV.int IntKind.i64 0, AV.int IntKind.i64 0,
              AV.int IntKind.i64 0, AV.int IntKind.i64 0, AV.int IntKind.i64 0],
          AV.agg [AV.int IntKind.i64 0, AV.int IntKind.i64 0, AV.int IntKind.i64 0, AV.bool false],
          AV.int IntKind.i64 181])
  else
    bif Order.fault a2 then
      some
        (AV.tup
          [AV.agg
              [AV.int IntKind.i64 (Car.floor a1), AV.int IntKind.i64 (Car.dir a1), AV.int IntKind.i64 (Car.phase a1),
                AV.int IntKind.i64 (Car.left a1), AV.int IntKind.i64 (Door.phase (Car.door a1)),
                AV.int IntKind.i64 (Door.left (Car.door a1)), AV.int IntKind.i64 (Door.held (Car.door a1))],
            AV.agg
              [AV.int IntKind.i64 0, AV.int IntKind.i64 (Door.phase (Car.door a1)), AV.int IntKind.i64 (Car.floor a1),
                AV.bool false],
            AV.int IntKind.i64 0])
    else
      bif Car.phase a1 == 0 then
        bif Order.cmd a2 == 1 then
          bif
              bif true then
                wthin (IntKind.wrap IntKind.i64 (Car.floor a1 + 1)) 0 (IntKind.wrap IntKind.i64 (Gear.floors a0 - 1))
              else false then
            bif IntKind.wrap IntKind.i64 (Times.travel (Gear.times a0) - 1) == 0 then
              some
                (AV.tup
                  [AV.agg
                      [AV.int IntKind.i64 (IntKind.wrap IntKind.i64 (Car.floor a1 + 1)), AV.int IntKind.i64 0,
                        AV.int IntKind.i64 0, AV.int IntKind.i64 0, AV.int IntKind.i64 0, AV.int IntKind.i64 0,
                        AV.int IntKind.i64 0],
                    AV.agg
                      [AV.int IntKind.i64 1, AV.int IntKind.i64 (Door.phase (Car.door a1)),
                        AV.int IntKind.i64 (Car.floor a1), AV.bool false],
                    AV.int IntKind.i64 0])
            else
              some
                (AV.tup
                  [AV.agg
                      [AV.int IntKind.i64 (Car.floor a1), AV.int IntKind.i64 1, AV.int IntKind.i64 1,
                        AV.int IntKind.i64 (IntKind.wrap IntKind.i64 (Times.travel (Gear.times a0) - 1)),
                        AV.int IntKind.i64 (Door.phase (Car.door a1)), AV.int IntKind.i64 (Door.left (Car.door a1)),
                        AV.int IntKind.i64 (Door.held (Car.door a1))],
                    AV.agg
                      [AV.int IntKind.i64 1, AV.int IntKind.i64 (Door.phase (Car.door a1)),
                        AV.int IntKind.i64 (Car.floor a1), AV.bool false],
                    AV.int IntKind.i64 0])
          else
            bif Car.phase a1 == 1 then
              bif IntKind.wrap IntKind.i64 (Car.left a1 - 1) == 0 then
                some
                  (AV.tup
                    [AV.agg
                        [AV.int IntKind.i64 (IntKind.wrap IntKind.i64 (Car.floor a1 + Car.dir a1)),
                          AV.int IntKind.i64 0, AV.int IntKind.i64 0, AV.int IntKind.i64 0, AV.int IntKind.i64 0,
                          AV.int IntKind.i64 0, AV.int IntKind.i64 0],
                      AV.agg
                        [AV.int IntKind.i64 (Car.dir a1), AV.int IntKind.i64 (Door.phase (Car.door a1)),
                          AV.int IntKind.i64 (Car.floor a1), AV.bool false],
                      AV.int IntKind.i64 0])
              else
                some
                  (AV.tup
                    [AV.agg
                        [AV.int IntKind.i64 (Car.floor a1), AV.int IntKind.i64 (Car.dir a1),
                          AV.int IntKind.i64 (Car.phase a1),
                          AV.int IntKind.i64 (IntKind.wrap IntKind.i64 (Car.left a1 - 1)),
                          AV.int IntKind.i64 (Door.phase (Car.door a1)), AV.int IntKind.i64 (Door.left (Car.door a1)),
                          AV.int IntKind.i64 (Door.held (Car.door a1))],
                      AV.agg
                        [AV.int IntKind.i64 (Car.dir a1), AV.int IntKind.i64 (Door.phase (Car.door a1)),
                          AV.int IntKind.i64 (Car.floor a1), AV.bool false],
                      AV.int IntKind.i64 0])
            else
              bif Car.phase a1 == 2 then
                bif IntKind.wrap IntKind.i64 (Car.left a1 - 1) == 0 then
                  some
                    (AV.tup
                      [AV.agg
                          [AV.int IntKind.i64 (Car.floor a1), AV.int IntKind.i64 (Car.dir a1), AV.int IntKind.i64 3,
                            AV.int IntKind.i64 (IntKind.wrap IntKind.i64 (Car.left a1 - 1)),
                            AV.int IntKind.i64
                              (Door.phase
                                (bif timesB (Gear.times a0) && doorB (Car.door a1) then
                                  askD (Gear.times a0) (Car.door a1)
                                else door0)),
                            AV.int IntKind.i64
                              (Door.left
                                (bif timesB (Gear.times a0) && doorB (Car.door a1) then
                                  askD (Gear.times a0) (Car.door a1)
                                else door0)),
                            AV.int IntKind.i64
                              (Door.held
                                (bif timesB (Gear.times a0) && doorB (Car.door a1) then
                                  askD (Gear.times a0) (Car.door a1)
                                else door0))],
                        AV.agg
                          [AV.int IntKind.i64 (Car.dir a1), AV.int IntKind.i64 (Door.phase (Car.door a1)),
                            AV.int IntKind.i64 (Car.floor a1), AV.bool false],
                        AV.int IntKind.i64 0])
                else
                  some
                    (AV.tup
                      [AV.agg
                          [AV.int IntKind.i64 (Car.floor a1), AV.int IntKind.i64 (Car.dir a1),
                            AV.int IntKind.i64 (Car.phase a1),
                            AV.int IntKind.i64 (IntKind.wrap IntKind.i64 (Car.left a1 - 1)),
                            AV.int IntKind.i64 (Door.phase (Car.door a1)), AV.int IntKind.i64 (Door.left (Car.door a1)),
                            AV.int IntKind.i64 (Door.held (Car.door a1))],
                        AV.agg
                          [AV.int IntKind.i64 (Car.dir a1), AV.int IntKind.i64 (Door.phase (Car.door a1)),
                            AV.int IntKind.i64 (Car.floor a1), AV.bool false],
                        AV.int IntKind.i64 0])
              else
                bif Car.phase a1 == 3 then
                  bif
                      Door.phase
                          (bif dStepOk a0 (Car.door a1) then DoorStepped.d (stepD a0 (Car.door a1) (Order.held a2))
                          else door0) ==
                        0 then
                    some
                      (AV.tup
                        [AV.agg
                            [AV.int IntKind.i64 (Car.floor a1), AV.int IntKind.i64 (Car.dir a1), AV.int IntKind.i64 0,
                              AV.int IntKind.i64 (Car.left a1),
                              AV.int IntKind.i64
                                (Door.phase
                                  (bif dStepOk a0 (Car.door a1) then
                                    DoorStepped.d (stepD a0 (Car.door a1) (Order.held a2))
                                  else door0)),
                              AV.int IntKind.i64
                                (Door.left
                                  (bif dStepOk a0 (Car.door a1) then
                                    DoorStepped.d (stepD a0 (Car.door a1) (Order.held a2))
                                  else door0)),
                              AV.int IntKind.i64
                                (Door.held
                                  (bif dStepOk a0 (Car.door a1) then
                                    DoorStepped.d (stepD a0 (Car.door a1) (Order.held a2))
                                  else door0))],
                          AV.agg
                            [AV.int IntKind.i64 (Car.dir a1), AV.int IntKind.i64 (Door.phase (Car.door a1)),
                              AV.int IntKind.i64 (Car.floor a1),
                              AV.bool
                                (dStepOk a0 (Car.door a1) &&
                                  DoorStepped.chime (stepD a0 (Car.door a1) (Order.held a2)))],
                          AV.int IntKind.i64 0])
                  else
                    some
                      (AV.tup
                        [AV.agg
                            [AV.int IntKind.i64 (Car.floor a1), AV.int IntKind.i64 (Car.dir a1),
                              AV.int IntKind.i64 (Car.phase a1), AV.int IntKind.i64 (Car.left a1),
                              AV.int IntKind.i64
                                (Door.phase
                                  (bif dStepOk a0 (Car.door a1) then
                                    DoorStepped.d (stepD a0 (Car.door a1) (Order.held a2))
                                  else door0)),
                              AV.int IntKind.i64
                                (Door.left
                                  (bif dStepOk a0 (Car.door a1) then
                                    DoorStepped.d (stepD a0 (Car.door a1) (Order.held a2))
                                  else door0)),
                              AV.int IntKind.i64
                                (Door.held
                                  (bif dStepOk a0 (Car.door a1) then
                                    DoorStepped.d (stepD a0 (Car.door a1) (Order.held a2))
                                  else door0))],
                          AV.agg
                            [AV.int IntKind.i64 (Car.dir a1), AV.int IntKind.i64 (Door.phase (Car.door a1)),
                              AV.int IntKind.i64 (Car.floor a1),
                              AV.bool
                                (dStepOk a0 (Car.door a1) &&
                                  DoorStepped.chime (stepD a0 (Car.door a1) (Order.held a2)))],
                          AV.int IntKind.i64 0])
                else
                  some
                    (AV.tup
                      [AV.agg
                          [AV.int IntKind.i64 (Car.floor a1), AV.int IntKind.i64 (Car.dir a1),
                            AV.int IntKind.i64 (Car.phase a1), AV.int IntKind.i64 (Car.left a1),
                            AV.int IntKind.i64 (Door.phase (Car.door a1)), AV.int IntKind.i64 (Door.left (Car.door a1)),
                            AV.int IntKind.i64 (Door.held (Car.door a1))],
                        AV.agg
                          [AV.int IntKind.i64 (Car.dir a1), AV.int IntKind.i64 (Door.phase (Car.door a1)),
                            AV.int IntKind.i64 (Car.floor a1), AV.bool false],
                        AV.int IntKind.i64 0])
        else
          bif Order.cmd a2 == 2 then
            bif
                bif true then
                  wthin (IntKind.wrap IntKind.i64 (Car.floor a1 + -1)) 0 (IntKind.wrap IntKind.i64 (Gear.floors a0 - 1))
                else false then
              bif IntKind.wrap IntKind.i64 (Times.travel (Gear.times a0) - 1) == 0 then
                some
                  (AV.tup
                    [AV.agg
                        [AV.int IntKind.i64 (IntKind.wrap IntKind.i64 (Car.floor a1 + -1)), AV.int IntKind.i64 0,
                          AV.int IntKind.i64 0, AV.int IntKind.i64 0, AV.int IntKind.i64 0, AV.int IntKind.i64 0,
                          AV.int IntKind.i64 0],
                      AV.agg
                        [AV.int IntKind.i64 (-1), AV.int IntKind.i64 (Door.phase (Car.door a1)),
                          AV.int IntKind.i64 (Car.floor a1), AV.bool false],
                      AV.int IntKind.i64 0])
              else
                some
                  (AV.tup
                    [AV.agg
                        [AV.int IntKind.i64 (Car.floor a1), AV.int IntKind.i64 (-1), AV.int IntKind.i64 1,
                          AV.int IntKind.i64 (IntKind.wrap IntKind.i64 (Times.travel (Gear.times a0) - 1)),
                          AV.int IntKind.i64 (Door.phase (Car.door a1)), AV.int IntKind.i64 (Door.left (Car.door a1)),
                          AV.int IntKind.i64 (Door.held (Car.door a1))],
                      AV.agg
                        [AV.int IntKind.i64 (-1), AV.int IntKind.i64 (Door.phase (Car.door a1)),
                          AV.int IntKind.i64 (Car.floor a1), AV.bool false],
                      AV.int IntKind.i64 0])
            else
              bif Car.phase a1 == 1 then
                bif IntKind.wrap IntKind.i64 (Car.left a1 - 1) == 0 then
                  some
                    (AV.tup
                      [AV.agg
                          [AV.int IntKind.i64 (IntKind.wrap IntKind.i64 (Car.floor a1 + Car.dir a1)),
                            AV.int IntKind.i64 0, AV.int IntKind.i64 0, AV.int IntKind.i64 0, AV.int IntKind.i64 0,
                            AV.int IntKind.i64 0, AV.int IntKind.i64 0],
                        AV.agg
                          [AV.int IntKind.i64 (Car.dir a1), AV.int IntKind.i64 (Door.phase (Car.door a1)),
                            AV.int IntKind.i64 (Car.floor a1), AV.bool false],
                        AV.int IntKind.i64 0])
                else
                  some
                    (AV.tup
                      [AV.agg
                          [AV.int IntKind.i64 (Car.floor a1), AV.int IntKind.i64 (Car.dir a1),
                            AV.int IntKind.i64 (Car.phase a1),
                            AV.int IntKind.i64 (IntKind.wrap IntKind.i64 (Car.left a1 - 1)),
                            AV.int IntKind.i64 (Door.phase (Car.door a1)), AV.int IntKind.i64 (Door.left (Car.door a1)),
                            AV.int IntKind.i64 (Door.held (Car.door a1))],
                        AV.agg
                          [AV.int IntKind.i64 (Car.dir a1), AV.int IntKind.i64 (Door.phase (Car.door a1)),
                            AV.int IntKind.i64 (Car.floor a1), AV.bool false],
                        AV.int IntKind.i64 0])
              else
                bif Car.phase a1 == 2 then
                  bif IntKind.wrap IntKind.i64 (Car.left a1 - 1) == 0 then
                    some
                      (AV.tup
                        [AV.agg
                            [AV.int IntKind.i64 (Car.floor a1), AV.int IntKind.i64 (Car.dir a1), AV.int IntKind.i64 3,
                              AV.int IntKind.i64 (IntKind.wrap IntKind.i64 (Car.left a1 - 1)),
                              AV.int IntKind.i64
                                (Door.phase
                                  (bif timesB (Gear.times a0) && doorB (Car.door a1) then
                                    askD (Gear.times a0) (Car.door a1)
                                  else door0)),
                              AV.int IntKind.i64
                                (Door.left
                                  (bif timesB (Gear.times a0) && doorB (Car.door a1) then
                                    askD (Gear.times a0) (Car.door a1)
                                  else door0)),
                              AV.int IntKind.i64
                                (Door.held
                                  (bif timesB (Gear.times a0) && doorB (Car.door a1) then
                                    askD (Gear.times a0) (Car.door a1)
                                  else door0))],
                          AV.agg
                            [AV.int IntKind.i64 (Car.dir a1), AV.int IntKind.i64 (Door.phase (Car.door a1)),
                              AV.int IntKind.i64 (Car.floor a1), AV.bool false],
                          AV.int IntKind.i64 0])
                  else
                    some
                      (AV.tup
                        [AV.agg
                            [AV.int IntKind.i64 (Car.floor a1), AV.int IntKind.i64 (Car.dir a1),
                              AV.int IntKind.i64 (Car.phase a1),
                              AV.int IntKind.i64 (IntKind.wrap IntKind.i64 (Car.left a1 - 1)),
                              AV.int IntKind.i64 (Door.phase (Car.door a1)),
                              AV.int IntKind.i64 (Door.left (Car.door a1)),
                              AV.int IntKind.i64 (Door.held (Car.door a1))],
                          AV.agg
                            [AV.int IntKind.i64 (Car.dir a1), AV.int IntKind.i64 (Door.phase (Car.door a1)),
                              AV.int IntKind.i64 (Car.floor a1), AV.bool false],
                          AV.int IntKind.i64 0])
                else
                  bif Car.phase a1 == 3 then
                    bif
                        Door.phase
                            (bif dStepOk a0 (Car.door a1) then DoorStepped.d (stepD a0 (Car.door a1) (Order.held a2))
                            else door0) ==
                          0 then
                      some
                        (AV.tup
                          [AV.agg
                              [AV.int IntKind.i64 (Car.floor a1), AV.int IntKind.i64 (Car.dir a1), AV.int IntKind.i64 0,
                                AV.int IntKind.i64 (Car.left a1),
                                AV.int IntKind.i64
                                  (Door.phase
                                    (bif dStepOk a0 (Car.door a1) then
                                      DoorStepped.d (stepD a0 (Car.door a1) (Order.held a2))
                                    else door0)),
                                AV.int IntKind.i64
                                  (Door.left
                                    (bif dStepOk a0 (Car.door a1) then
                                      DoorStepped.d (stepD a0 (Car.door a1) (Order.held a2))
                                    else door0)),
                                AV.int IntKind.i64
                                  (Door.held
                                    (bif dStepOk a0 (Car.door a1) then
                                      DoorStepped.d (stepD a0 (Car.door a1) (Order.held a2))
                                    else door0))],
                            AV.agg
                              [AV.int IntKind.i64 (Car.dir a1), AV.int IntKind.i64 (Door.phase (Car.door a1)),
                                AV.int IntKind.i64 (Car.floor a1),
                                AV.bool
                                  (dStepOk a0 (Car.door a1) &&
                                    DoorStepped.chime (stepD a0 (Car.door a1) (Order.held a2)))],
                            AV.int IntKind.i64 0])
                    else
                      some
                        (AV.tup
                          [AV.agg
                              [AV.int IntKind.i64 (Car.floor a1), AV.int IntKind.i64 (Car.dir a1),
                                AV.int IntKind.i64 (Car.phase a1), AV.int IntKind.i64 (Car.left a1),
                                AV.int IntKind.i64
                                  (Door.phase
                                    (bif dStepOk a0 (Car.door a1) then
                                      DoorStepped.d (stepD a0 (Car.door a1) (Order.held a2))
                                    else door0)),
                                AV.int IntKind.i64
                                  (Door.left
                                    (bif dStepOk a0 (Car.door a1) then
                                      DoorStepped.d (stepD a0 (Car.door a1) (Order.held a2))
                                    else door0)),
                                AV.int IntKind.i64
                                  (Door.held
                                    (bif dStepOk a0 (Car.door a1) then
                                      DoorStepped.d (stepD a0 (Car.door a1) (Order.held a2))
                                    else door0))],
                            AV.agg
                              [AV.int IntKind.i64 (Car.dir a1), AV.int IntKind.i64 (Door.phase (Car.door a1)),
                                AV.int IntKind.i64 (Car.floor a1),
                                AV.bool
                                  (dStepOk a0 (Car.door a1) &&
                                    DoorStepped.chime (stepD a0 (Car.door a1) (Order.held a2)))],
                            AV.int IntKind.i64 0])
                  else
                    some
                      (AV.tup
                        [AV.agg
                            [AV.int IntKind.i64 (Car.floor a1), AV.int IntKind.i64 (Car.dir a1),
                              AV.int IntKind.i64 (Car.phase a1), AV.int IntKind.i64 (Car.left a1),
                              AV.int IntKind.i64 (Door.phase (Car.door a1)),
                              AV.int IntKind.i64 (Door.left (Car.door a1)),
                              AV.int IntKind.i64 (Door.held (Car.door a1))],
                          AV.agg
                            [AV.int IntKind.i64 (Car.dir a1), AV.int IntKind.i64 (Door.phase (Car.door a1)),
                              AV.int IntKind.i64 (Car.floor a1), AV.bool false],
                          AV.int IntKind.i64 0])
          else
            bif Order.cmd a2 == 3 then
              bif IntKind.wrap IntKind.i64 (Times.level (Gear.times a0) - 1) == 0 then
                some
                  (AV.tup
                    [AV.agg
                        [AV.int IntKind.i64 (Car.floor a1), AV.int IntKind.i64 (Car.dir a1), AV.int IntKind.i64 3,
                          AV.int IntKind.i64 (IntKind.wrap IntKind.i64 (Times.level (Gear.times a0) - 1)),
                          AV.int IntKind.i64
                            (Door.phase
                              (bif timesB (Gear.times a0) && doorB (Car.door a1) then askD (Gear.times a0) (Car.door a1)
                              else door0)),
                          AV.int IntKind.i64
                            (Door.left
                              (bif timesB (Gear.times a0) && doorB (Car.door a1) then askD (Gear.times a0) (Car.door a1)
                              else door0)),
                          AV.int IntKind.i64
                            (Door.held
                              (bif timesB (Gear.times a0) && doorB (Car.door a1) then askD (Gear.times a0) (Car.door a1)
                              else door0))],
                      AV.agg
                        [AV.int IntKind.i64 (Car.dir a1), AV.int IntKind.i64 (Door.phase (Car.door a1)),
                          AV.int IntKind.i64 (Car.floor a1), AV.bool false],
                      AV.int IntKind.i64 0])
              else
                some
                  (AV.tup
                    [AV.agg
                        [AV.int IntKind.i64 (Car.floor a1), AV.int IntKind.i64 (Car.dir a1), AV.int IntKind.i64 2,
                          AV.int IntKind.i64 (IntKind.wrap IntKind.i64 (Times.level (Gear.times a0) - 1)),
                          AV.int IntKind.i64 (Door.phase (Car.door a1)), AV.int IntKind.i64 (Door.left (Car.door a1)),
                          AV.int IntKind.i64 (Door.held (Car.door a1))],
                      AV.agg
                        [AV.int IntKind.i64 (Car.dir a1), AV.int IntKind.i64 (Door.phase (Car.door a1)),
                          AV.int IntKind.i64 (Car.floor a1), AV.bool false],
                      AV.int IntKind.i64 0])
            else
              bif Car.phase a1 == 1 then
                bif IntKind.wrap IntKind.i64 (Car.left a1 - 1) == 0 then
                  some
                    (AV.tup
                      [AV.agg
                          [AV.int IntKind.i64 (IntKind.wrap IntKind.i64 (Car.floor a1 + Car.dir a1)),
                            AV.int IntKind.i64 0, AV.int IntKind.i64 0, AV.int IntKind.i64 0, AV.int IntKind.i64 0,
                            AV.int IntKind.i64 0, AV.int IntKind.i64 0],
                        AV.agg
                          [AV.int IntKind.i64 (Car.dir a1), AV.int IntKind.i64 (Door.phase (Car.door a1)),
                            AV.int IntKind.i64 (Car.floor a1), AV.bool false],
                        AV.int IntKind.i64 0])
                else
                  some
                    (AV.tup
                      [AV.agg
                          [AV.int IntKind.i64 (Car.floor a1), AV.int IntKind.i64 (Car.dir a1),
                            AV.int IntKind.i64 (Car.phase a1),
                            AV.int IntKind.i64 (IntKind.wrap IntKind.i64 (Car.left a1 - 1)),
                            AV.int IntKind.i64 (Door.phase (Car.door a1)), AV.int IntKind.i64 (Door.left (Car.door a1)),
                            AV.int IntKind.i64 (Door.held (Car.door a1))],
                        AV.agg
                          [AV.int IntKind.i64 (Car.dir a1), AV.int IntKind.i64 (Door.phase (Car.door a1)),
                            AV.int IntKind.i64 (Car.floor a1), AV.bool false],
                        AV.int IntKind.i64 0])
              else
                bif Car.phase a1 == 2 then
                  bif IntKind.wrap IntKind.i64 (Car.left a1 - 1) == 0 then
                    some
                      (AV.tup
                        [AV.agg
                            [AV.int IntKind.i64 (Car.floor a1), AV.int IntKind.i64 (Car.dir a1), AV.int IntKind.i64 3,
                              AV.int IntKind.i64 (IntKind.wrap IntKind.i64 (Car.left a1 - 1)),
                              AV.int IntKind.i64
                                (Door.phase
                                  (bif timesB (Gear.times a0) && doorB (Car.door a1) then
                                    askD (Gear.times a0) (Car.door a1)
                                  else door0)),
                              AV.int IntKind.i64
                                (Door.left
                                  (bif timesB (Gear.times a0) && doorB (Car.door a1) then
                                    askD (Gear.times a0) (Car.door a1)
                                  else door0)),
                              AV.int IntKind.i64
                                (Door.held
                                  (bif timesB (Gear.times a0) && doorB (Car.door a1) then
                                    askD (Gear.times a0) (Car.door a1)
                                  else door0))],
                          AV.agg
                            [AV.int IntKind.i64 (Car.dir a1), AV.int IntKind.i64 (Door.phase (Car.door a1)),
                              AV.int IntKind.i64 (Car.floor a1), AV.bool false],
                          AV.int IntKind.i64 0])
                  else
                    some
                      (AV.tup
                        [AV.agg
                            [AV.int IntKind.i64 (Car.floor a1), AV.int IntKind.i64 (Car.dir a1),
                              AV.int IntKind.i64 (Car.phase a1),
                              AV.int IntKind.i64 (IntKind.wrap IntKind.i64 (Car.left a1 - 1)),
                              AV.int IntKind.i64 (Door.phase (Car.door a1)),
                              AV.int IntKind.i64 (Door.left (Car.door a1)),
                              AV.int IntKind.i64 (Door.held (Car.door a1))],
                          AV.agg
                            [AV.int IntKind.i64 (Car.dir a1), AV.int IntKind.i64 (Door.phase (Car.door a1)),
                              AV.int IntKind.i64 (Car.floor a1), AV.bool false],
                          AV.int IntKind.i64 0])
                else
                  bif Car.phase a1 == 3 then
                    bif
                        Door.phase
                            (bif dStepOk a0 (Car.door a1) then DoorStepped.d (stepD a0 (Car.door a1) (Order.held a2))
                            else door0) ==
                          0 then
                      some
                        (AV.tup
                          [AV.agg
                              [AV.int IntKind.i64 (Car.floor a1), AV.int IntKind.i64 (Car.dir a1), AV.int IntKind.i64 0,
                                AV.int IntKind.i64 (Car.left a1),
                                AV.int IntKind.i64
                                  (Door.phase
                                    (bif dStepOk a0 (Car.door a1) then
                                      DoorStepped.d (stepD a0 (Car.door a1) (Order.held a2))
                                    else door0)),
                                AV.int IntKind.i64
                                  (Door.left
                                    (bif dStepOk a0 (Car.door a1) then
                                      DoorStepped.d (stepD a0 (Car.door a1) (Order.held a2))
                                    else door0)),
                                AV.int IntKind.i64
                                  (Door.held
                                    (bif dStepOk a0 (Car.door a1) then
                                      DoorStepped.d (stepD a0 (Car.door a1) (Order.held a2))
                                    else door0))],
                            AV.agg
                              [AV.int IntKind.i64 (Car.dir a1), AV.int IntKind.i64 (Door.phase (Car.door a1)),
                                AV.int IntKind.i64 (Car.floor a1),
                                AV.bool
                                  (dStepOk a0 (Car.door a1) &&
                                    DoorStepped.chime (stepD a0 (Car.door a1) (Order.held a2)))],
                            AV.int IntKind.i64 0])
                    else
                      some
                        (AV.tup
                          [AV.agg
                              [AV.int IntKind.i64 (Car.floor a1), AV.int IntKind.i64 (Car.dir a1),
                                AV.int IntKind.i64 (Car.phase a1), AV.int IntKind.i64 (Car.left a1),
                                AV.int IntKind.i64
                                  (Door.phase
                                    (bif dStepOk a0 (Car.door a1) then
                                      DoorStepped.d (stepD a0 (Car.door a1) (Order.held a2))
                                    else door0)),
                                AV.int IntKind.i64
                                  (Door.left
                                    (bif dStepOk a0 (Car.door a1) then
                                      DoorStepped.d (stepD a0 (Car.door a1) (Order.held a2))
                                    else door0)),
                                AV.int IntKind.i64
                                  (Door.held
                                    (bif dStepOk a0 (Car.door a1) then
                                      DoorStepped.d (stepD a0 (Car.door a1) (Order.held a2))
                                    else door0))],
                            AV.agg
                              [AV.int IntKind.i64 (Car.dir a1), AV.int IntKind.i64 (Door.phase (Car.door a1)),
                                AV.int IntKind.i64 (Car.floor a1),
                                AV.bool
                                  (dStepOk a0 (Car.door a1) &&
                                    DoorStepped.chime (stepD a0 (Car.door a1) (Order.held a2)))],
                            AV.int IntKind.i64 0])
                  else
                    some
                      (AV.tup
                        [AV.agg
                            [AV.int IntKind.i64 (Car.floor a1), AV.int IntKind.i64 (Car.dir a1),
                              AV.int IntKind.i64 (Car.phase a1), AV.int IntKind.i64 (Car.left a1),
                              AV.int IntKind.i64 (Door.phase (Car.door a1)),
                              AV.int IntKind.i64 (Door.left (Car.door a1)),
                              AV.int IntKind.i64 (Door.held (Car.door a1))],
                          AV.agg
                            [AV.int IntKind.i64 (Car.dir a1), AV.int IntKind.i64 (Door.phase (Car.door a1)),
                              AV.int IntKind.i64 (Car.floor a1), AV.bool false],
                          AV.int IntKind.i64 0])
      else
        bif Car.phase a1 == 1 then
          bif IntKind.wrap IntKind.i64 (Car.left a1 - 1) == 0 then
            some
              (AV.tup
                [AV.agg
                    [AV.int IntKind.i64 (IntKind.wrap IntKind.i64 (Car.floor a1 + Car.dir a1)), AV.int IntKind.i64 0,
                      AV.int IntKind.i64 0, AV.int IntKind.i64 0, AV.int IntKind.i64 0, AV.int IntKind.i64 0,
                      AV.int IntKind.i64 0],
                  AV.agg
                    [AV.int IntKind.i64 (Car.dir a1), AV.int IntKind.i64 (Door.phase (Car.door a1)),
                      AV.int IntKind.i64 (Car.floor a1), AV.bool false],
                  AV.int IntKind.i64 0])
          else
            some
              (AV.tup
                [AV.agg
                    [AV.int IntKind.i64 (Car.floor a1), AV.int IntKind.i64 (Car.dir a1),
                      AV.int IntKind.i64 (Car.phase a1),
                      AV.int IntKind.i64 (IntKind.wrap IntKind.i64 (Car.left a1 - 1)),
                      AV.int IntKind.i64 (Door.phase (Car.door a1)), AV.int IntKind.i64 (Door.left (Car.door a1)),
                      AV.int IntKind.i64 (Door.held (Car.door a1))],
                  AV.agg
                    [AV.int IntKind.i64 (Car.dir a1), AV.int IntKind.i64 (Door.phase (Car.door a1)),
                      AV.int IntKind.i64 (Car.floor a1), AV.bool false],
                  AV.int IntKind.i64 0])
        else
          bif Car.phase a1 == 2 then
            bif IntKind.wrap IntKind.i64 (Car.left a1 - 1) == 0 then
              some
                (AV.tup
                  [AV.agg
                      [AV.int IntKind.i64 (Car.floor a1), AV.int IntKind.i64 (Car.dir a1), AV.int IntKind.i64 3,
                        AV.int IntKind.i64 (IntKind.wrap IntKind.i64 (Car.left a1 - 1)),
                        AV.int IntKind.i64
                          (Door.phase
                            (bif timesB (Gear.times a0) && doorB (Car.door a1) then askD (Gear.times a0) (Car.door a1)
                            else door0)),
                        AV.int IntKind.i64
                          (Door.left
                            (bif timesB (Gear.times a0) && doorB (Car.door a1) then askD (Gear.times a0) (Car.door a1)
                            else door0)),
                        AV.int IntKind.i64
                          (Door.held
                            (bif timesB (Gear.times a0) && doorB (Car.door a1) then askD (Gear.times a0) (Car.door a1)
                            else door0))],
                    AV.agg
                      [AV.int IntKind.i64 (Car.dir a1), AV.int IntKind.i64 (Door.phase (Car.door a1)),
                        AV.int IntKind.i64 (Car.floor a1), AV.bool false],
                    AV.int IntKind.i64 0])
            else
              some
                (AV.tup
                  [AV.agg
                      [AV.int IntKind.i64 (Car.floor a1), AV.int IntKind.i64 (Car.dir a1),
                        AV.int IntKind.i64 (Car.phase a1),
                        AV.int IntKind.i64 (IntKind.wrap IntKind.i64 (Car.left a1 - 1)),
                        AV.int IntKind.i64 (Door.phase (Car.door a1)), AV.int IntKind.i64 (Door.left (Car.door a1)),
                        AV.int IntKind.i64 (Door.held (Car.door a1))],
                    AV.agg
                      [AV.int IntKind.i64 (Car.dir a1), AV.int IntKind.i64 (Door.phase (Car.door a1)),
                        AV.int IntKind.i64 (Car.floor a1), AV.bool false],
                    AV.int IntKind.i64 0])
          else
            bif Car.phase a1 == 3 then
              bif
                  Door.phase
                      (bif dStepOk a0 (Car.door a1) then DoorStepped.d (stepD a0 (Car.door a1) (Order.held a2))
                      else door0) ==
                    0 then
                some
                  (AV.tup
                    [AV.agg
                        [AV.int IntKind.i64 (Car.floor a1), AV.int IntKind.i64 (Car.dir a1), AV.int IntKind.i64 0,
                          AV.int IntKind.i64 (Car.left a1),
                          AV.int IntKind.i64
                            (Door.phase
                              (bif dStepOk a0 (Car.door a1) then DoorStepped.d (stepD a0 (Car.door a1) (Order.held a2))
                              else door0)),
                          AV.int IntKind.i64
                            (Door.left
                              (bif dStepOk a0 (Car.door a1) then DoorStepped.d (stepD a0 (Car.door a1) (Order.held a2))
                              else door0)),
                          AV.int IntKind.i64
                            (Door.held
                              (bif dStepOk a0 (Car.door a1) then DoorStepped.d (stepD a0 (Car.door a1) (Order.held a2))
                              else door0))],
                      AV.agg
                        [AV.int IntKind.i64 (Car.dir a1), AV.int IntKind.i64 (Door.phase (Car.door a1)),
                          AV.int IntKind.i64 (Car.floor a1),
                          AV.bool
                            (dStepOk a0 (Car.door a1) && DoorStepped.chime (stepD a0 (Car.door a1) (Order.held a2)))],
                      AV.int IntKind.i64 0])
              else
                some
                  (AV.tup
                    [AV.agg
                        [AV.int IntKind.i64 (Car.floor a1), AV.int IntKind.i64 (Car.dir a1),
                          AV.int IntKind.i64 (Car.phase a1), AV.int IntKind.i64 (Car.left a1),
                          AV.int IntKind.i64
                            (Door.phase
                              (bif dStepOk a0 (Car.door a1) then DoorStepped.d (stepD a0 (Car.door a1) (Order.held a2))
                              else door0)),
                          AV.int IntKind.i64
                            (Door.left
                              (bif dStepOk a0 (Car.door a1) then DoorStepped.d (stepD a0 (Car.door a1) (Order.held a2))
                              else door0)),
                          AV.int IntKind.i64
                            (Door.held
                              (bif dStepOk a0 (Car.door a1) then DoorStepped.d (stepD a0 (Car.door a1) (Order.held a2))
                              else door0))],
                      AV.agg
                        [AV.int IntKind.i64 (Car.dir a1), AV.int IntKind.i64 (Door.phase (Car.door a1)),
                          AV.int IntKind.i64 (Car.floor a1),
                          AV.bool
                            (dStepOk a0 (Car.door a1) && DoorStepped.chime (stepD a0 (Car.door a1) (Order.held a2)))],
                      AV.int IntKind.i64 0])
            else
              some
                (AV.tup
                  [AV.agg
                      [AV.int IntKind.i64 (Car.floor a1), AV.int IntKind.i64 (Car.dir a1),
                        AV.int IntKind.i64 (Car.phase a1), AV.int IntKind.i64 (Car.left a1),
                        AV.int IntKind.i64 (Door.phase (Car.door a1)), AV.int IntKind.i64 (Door.left (Car.door a1)),
                        AV.int IntKind.i64 (Door.held (Car.door a1))],
                    AV.agg
                      [AV.int IntKind.i64 (Car.dir a1), AV.int IntKind.i64 (Door.phase (Car.door a1)),
                        AV.int IntKind.i64 (Car.floor a1), AV.bool false],
                    AV.int IntKind.i64 0]) := by kernel_rfl
theorem run_car_Step (a0 : Gear) (a1 : Car) (a2 : Order) : run k22 20 4 10 Try.f10 s_car_Step (a0, a1, a2, ()) = some (r_car_Step.enc (car_Step a0 a1 a2)) := by
  rw [tree_car_Step]
  obtain ⟨fl, dr, ph, lf, ⟨dp, dl, dh⟩⟩ := a1
  obtain ⟨cmd, held, fault⟩ := a2
  simp only [r_car_Step, car_Step, stepOk, car_check, errOf]
  cases hg : carOk a0 ⟨fl, dr, ph, lf, ⟨dp, dl, dh⟩⟩
  case false => rfl
  cases hC : wthin cmd 0 3
  case false => rfl
  cases fault
  case true => rfl
  simp only [carOk, Bool.and_eq_true, carB_iff, wthin_iff] at hg hC
  obtain ⟨hG, hF, hf, hD, hP⟩ := hg
  have hS : dStepOk a0 ⟨dp, dl, dh⟩ = true := by simp only [dStepOk, hG, hD, Bool.and_self]
  have hT : timesB a0.times = true := by simp only [gearB_iff] at hG; exact hG.1
  have hDD := hD
  simp only [gearB_iff, timesB_iff, doorB_iff] at hG hD
  rcases hP with ⟨rfl, rfl, rfl, rfl⟩ | ⟨rfl, hdr, hlo, hhi, hl1, hl2, rfl⟩ | ⟨rfl, rfl, hl1, hl2, rfl⟩ | ⟨rfl, rfl, rfl, hd0⟩
  all_goals simp only [bne_self_eq_false, Int.reduceBEq, Bool.cond_true, Bool.cond_false, cond_true, cond_false, Bool.not_true, Bool.not_false, Bool.and_self, Bool.true_and, hS, hT, hDD]
  · obtain ⟨rfl, rfl⟩ : dl = 0 ∧ dh = 0 := by omega
    obtain rfl | rfl | rfl | rfl : cmd = 0 ∨ cmd = 1 ∨ cmd = 2 ∨ cmd = 3 := by omega
    all_goals simp only [bne_self_eq_false, Int.reduceBEq, Bool.cond_true, Bool.cond_false, cond_true, cond_false, Bool.not_true, Bool.not_false, Bool.and_self, Bool.true_and, hS, hT, hDD]
    all_goals (
      try simp only [IntWalk.i64_in (fl + 1) (by omega), IntWalk.i64_in (fl + -1) (by omega), IntWalk.i64_in (a0.times.travel - 1) (by omega), IntWalk.i64_in (a0.times.level - 1) (by omega), IntWalk.i64_in (a0.floors - 1) (by omega)]
      simp only [Res.bool, Res.int, Res.agg, Res.tup2, Res.tup3, cDoor_enc, cCar_enc, cOutT_enc, cDoorStepped_enc, cCarStepped_enc, cGear_enc, stepC, begunC, beganC, tickC, door0, askD, wthin, Bool.cond_false_right, Bool.cond_true_left]
      simp
      all_goals try simp only [beq_eq_false_iff_ne, Bool.cond_eq_ite, bne_iff_ne, ne_eq, Bool.and_eq_true, Bool.or_eq_true, decide_eq_true_eq, beq_iff_eq, Bool.not_eq_true', decide_eq_false_iff_not]
      all_goals repeat' split
      all_goals first | rfl | (exfalso; omega) | (simp_all; done) | (simp_all; omega))
  · obtain ⟨rfl, rfl⟩ : dl = 0 ∧ dh = 0 := by omega
    simp only [IntWalk.i64_in (fl + dr) (by omega), IntWalk.i64_in (lf - 1) (by omega)]
    simp only [Res.bool, Res.int, Res.agg, Res.tup2, Res.tup3, cDoor_enc, cCar_enc, cOutT_enc, cDoorStepped_enc, cCarStepped_enc, cGear_enc, stepC, begunC, beganC, tickC, door0, askD, wthin, Bool.cond_false_right, Bool.cond_true_left]
    simp
    all_goals try simp only [beq_eq_false_iff_ne, Bool.cond_eq_ite, bne_iff_ne, ne_eq, Bool.and_eq_true, Bool.or_eq_true, decide_eq_true_eq, beq_iff_eq, Bool.not_eq_true', decide_eq_false_iff_not]
    all_goals repeat' split
    all_goals first | rfl | (exfalso; omega) | (simp_all; done) | (simp_all; omega)
  · obtain ⟨rfl, rfl⟩ : dl = 0 ∧ dh = 0 := by omega
    simp only [IntWalk.i64_in (lf - 1) (by omega)]
    simp only [Res.bool, Res.int, Res.agg, Res.tup2, Res.tup3, cDoor_enc, cCar_enc, cOutT_enc, cDoorStepped_enc, cCarStepped_enc, cGear_enc, stepC, begunC, beganC, tickC, door0, askD, wthin, Bool.cond_false_right, Bool.cond_true_left]
    simp
    all_goals try simp only [beq_eq_false_iff_ne, Bool.cond_eq_ite, bne_iff_ne, ne_eq, Bool.and_eq_true, Bool.or_eq_true, decide_eq_true_eq, beq_iff_eq, Bool.not_eq_true', decide_eq_false_iff_not]
    all_goals repeat' split
    all_goals first | rfl | (exfalso; omega) | (simp_all; done) | (simp_all; omega)
  · simp only [Res.bool, Res.int, Res.agg, Res.tup2, Res.tup3, cDoor_enc, cCar_enc, cOutT_enc, cDoorStepped_enc, cCarStepped_enc, cGear_enc, stepC, begunC, beganC, tickC, door0, askD, wthin, Bool.cond_false_right, Bool.cond_true_left]
    simp
    generalize stepD a0 ⟨dp, dl, dh⟩ held = sd
    all_goals try simp only [beq_eq_false_iff_ne, Bool.cond_eq_ite, bne_iff_ne, ne_eq, Bool.and_eq_true, Bool.or_eq_true, decide_eq_true_eq, beq_iff_eq, Bool.not_eq_true', decide_eq_false_iff_not]
    all_goals repeat' split
    all_goals first | rfl | (exfalso; omega) | (simp_all; done) | (simp_all; omega)
theorem p23 : Prog Try.prog (fun _ => True) k23 := p22.addFn (s := s_car_Step) (r := r_car_Step) (.of Try.func10 (by kernel_rfl) (by kernel_rfl)) (fun x _ => run_car_Step x.1 x.2.1 x.2.2.1)

theorem tree_car_Rest (a0 : Gear) (a1 : Car) : run k23 20 4 15 Try.f15 s_car_Rest (a0, a1, ()) =
bif car_check a0 a1 != 0 then some (AV.tup [AV.int IntKind.i64 0, AV.int IntKind.i64 (car_check a0 a1)])
else
  bif Car.phase a1 == 2 then
    some
      (AV.tup
        [AV.int IntKind.i64
            (IntKind.wrap IntKind.i64
              (Car.left a1 +
                bif
                    dStepOk a0
                      (bif timesB (Gear.times a0) && doorB (Car.door a1) then askD (Gear.times a0) (Car.door a1)
                      else door0) then
                  restD a0
                    (bif timesB (Gear.times a0) && doorB (Car.door a1) then askD (Gear.times a0) (Car.door a1)
                    else door0)
                else 0)),
          AV.int IntKind.i64 0])
  else
    some
      (AV.tup
        [AV.int IntKind.i64
            (IntKind.wrap IntKind.i64 (Car.left a1 + bif dStepOk a0 (Car.door a1) then restD a0 (Car.door a1) else 0)),
          AV.int IntKind.i64 0]) := by kernel_rfl
theorem run_car_Rest (a0 : Gear) (a1 : Car) : run k23 20 4 15 Try.f15 s_car_Rest (a0, a1, ()) = some (r_car_Rest.enc (car_Rest a0 a1)) := by
  rw [tree_car_Rest]
  obtain ⟨fl, dr, ph, lf, ⟨dp, dl, dh⟩⟩ := a1
  simp only [r_car_Rest, Res.tup2, Res.int, car_Rest, car_check]
  cases hg : carOk a0 ⟨fl, dr, ph, lf, ⟨dp, dl, dh⟩⟩
  case false => rfl
  simp only [carOk, Bool.and_eq_true, carB_iff] at hg
  obtain ⟨hG, hF, hf, hD, hP⟩ := hg
  have hz := restD_bound a0 ⟨dp, dl, dh⟩ hG hD
  have hT : timesB a0.times = true := by simp only [gearB_iff] at hG; exact hG.1
  have hy := restD_bound a0 ⟨1, a0.times.open_, 0⟩ hG (by rw [timesB_iff] at hT; rw [doorB_iff]; simp; omega)
  have hE : doorB ⟨1, a0.times.open_, 0⟩ = true := by rw [timesB_iff] at hT; rw [doorB_iff]; simp; omega
  simp only [dStepOk, hG, hD, hT, hE, Bool.and_self, cond_true, askD, restC, errOf, bne_self_eq_false, cond_false]
  rcases hP with ⟨rfl, rfl, rfl, rfl⟩ | ⟨rfl, hdr, hlo, hhi, hl1, hl2, rfl⟩ | ⟨rfl, rfl, hl1, hl2, rfl⟩ | ⟨rfl, rfl, rfl, hd0⟩ <;> dsimp only at hz hy <;> simp [hG, hE] <;> first | (rw [IntWalk.i64_in _ (by omega)]; done) | (rw [IntWalk.i64_in _ (by omega)]; omega)
theorem p24 : Prog Try.prog (fun _ => True) k24 := p23.addFn (s := s_car_Rest) (r := r_car_Rest) (.of Try.func15 (by kernel_rfl) (by kernel_rfl)) (fun x _ => run_car_Rest x.1 x.2.1)

theorem tree_newelref18_May (a0 : Int) (a1 : Car) : run k24 20 4 12 Try.f12 s_newelref18_May (a0, a1, ()) =
bif
    bif
        bif bif bif decide (a0 < 2) then true else decide (a0 > 64) then true else decide (Car.floor a1 < 0) then
          true
        else decide (Car.floor a1 ≥ a0) then
      true
    else !doorB (Car.door a1) then
  some (AV.bool false)
else
  bif Car.phase a1 == 0 then
    some
      (AV.bool (bif bif Car.dir a1 == 0 then Car.left a1 == 0 else false then Door.phase (Car.door a1) == 0 else false))
  else
    bif Car.phase a1 == 1 then
      some
        (AV.bool
          (bif
              bif
                  bif
                      bif Car.dir a1 == 1 then decide (IntKind.wrap IntKind.i64 (Car.floor a1 + 1) < a0)
                      else false then
                    true
                  else bif Car.dir a1 == -1 then decide (Car.floor a1 > 0) else false then
                bif decide (Car.left a1 ≥ 1) then decide (Car.left a1 ≤ 60) else false
              else false then
            Door.phase (Car.door a1) == 0
          else false))
    else
      bif Car.phase a1 == 2 then
        some
          (AV.bool
            (bif
                bif Car.dir a1 == 0 then bif decide (Car.left a1 ≥ 1) then decide (Car.left a1 ≤ 60) else false
                else false then
              Door.phase (Car.door a1) == 0
            else false))
      else
        some
          (AV.bool
            (bif bif bif Car.phase a1 == 3 then Car.dir a1 == 0 else false then Car.left a1 == 0 else false then
              !Door.phase (Car.door a1) == 0
            else false)) := by kernel_rfl
theorem run_newelref18_May (a0 : Int) (a1 : Car) : run k24 20 4 12 Try.f12 s_newelref18_May (a0, a1, ()) = some (r_newelref18_May.enc (carB a0 a1)) := by
  rw [tree_newelref18_May]
  simp only [r_newelref18_May, Res.bool, Bool.cond_false_right, Bool.cond_true_left]
  cases hd : doorB a1.door
  · simp only [carB, hd]
    cases wthin a0 2 64 <;> cases wthin a1.floor 0 (a0 - 1) <;> simp
  simp only [Bool.not_true, Bool.or_false, IntKind.wrap_i64]
  simp only [beq_eq_false_iff_ne, Bool.cond_eq_ite, bne_iff_ne, ne_eq, Bool.and_eq_true, Bool.or_eq_true, decide_eq_true_eq, beq_iff_eq, Bool.not_eq_true', decide_eq_false_iff_not]
  repeat' split
  all_goals (refine congrArg (fun b => some (AV.bool b)) ?_; rw [Bool.eq_iff_iff, carB_iff]; simp only [Bool.false_eq_true, false_iff, true_iff, hd, true_and, beq_eq_false_iff_ne, Bool.cond_eq_ite, bne_iff_ne, ne_eq, Bool.and_eq_true, Bool.or_eq_true, decide_eq_true_eq, beq_iff_eq, Bool.not_eq_true', decide_eq_false_iff_not]; omega)
theorem p25 : Prog Try.prog (fun _ => True) k25 := p24.addFn (s := s_newelref18_May) (r := r_newelref18_May) (.of Try.func12 (by kernel_rfl) (by kernel_rfl)) (fun x _ => run_newelref18_May x.1 x.2.1)

theorem tree_newelref18_Step (a0 : Gear) (a1 : Car) (a2 : Order) : run k25 20 4 14 Try.f14 s_newelref18_Step (a0, a1, a2, ()) =
bif Order.fault a2 then
  some
    (AV.agg
      [AV.int IntKind.i64 (Car.floor a1), AV.int IntKind.i64 (Car.dir a1), AV.int IntKind.i64 (Car.phase a1),
        AV.int IntKind.i64 (Car.left a1), AV.int IntKind.i64 (Door.phase (Car.door a1)),
        AV.int IntKind.i64 (Door.left (Car.door a1)), AV.int IntKind.i64 (Door.held (Car.door a1)),
        AV.int IntKind.i64 0, AV.int IntKind.i64 (Door.phase (Car.door a1)), AV.int IntKind.i64 (Car.floor a1),
        AV.bool false])
else
  bif Car.phase a1 == 0 then
    bif
        bif Order.cmd a2 == 1 then decide (IntKind.wrap IntKind.i64 (Car.floor a1 + 1) < Gear.floors a0)
        else false then
      bif decide (IntKind.wrap IntKind.i64 (Times.travel (Gear.times a0) - 1) > 0) then
        some
          (AV.agg
            [AV.int IntKind.i64 (Car.floor a1), AV.int IntKind.i64 1, AV.int IntKind.i64 1,
              AV.int IntKind.i64 (IntKind.wrap IntKind.i64 (Times.travel (Gear.times a0) - 1)), AV.int IntKind.i64 0,
              AV.int IntKind.i64 0, AV.int IntKind.i64 0, AV.int IntKind.i64 1,
              AV.int IntKind.i64 (Door.phase (Car.door a1)), AV.int IntKind.i64 (Car.floor a1), AV.bool false])
      else
        some
          (AV.agg
            [AV.int IntKind.i64 (IntKind.wrap IntKind.i64 (Car.floor a1 + 1)), AV.int IntKind.i64 0,
              AV.int IntKind.i64 0, AV.int IntKind.i64 0, AV.int IntKind.i64 0, AV.int IntKind.i64 0,
              AV.int IntKind.i64 0, AV.int IntKind.i64 1, AV.int IntKind.i64 (Door.phase (Car.door a1)),
              AV.int IntKind.i64 (Car.floor a1), AV.bool false])
    else
      bif bif Order.cmd a2 == 2 then decide (Car.floor a1 > 0) else false then
        bif decide (IntKind.wrap IntKind.i64 (Times.travel (Gear.times a0) - 1) > 0) then
          some
            (AV.agg
              [AV.int IntKind.i64 (Car.floor a1), AV.int IntKind.i64 (-1), AV.int IntKind.i64 1,
                AV.int IntKind.i64 (IntKind.wrap IntKind.i64 (Times.travel (Gear.times a0) - 1)), AV.int IntKind.i64 0,
                AV.int IntKind.i64 0, AV.int IntKind.i64 0, AV.int IntKind.i64 (-1),
                AV.int IntKind.i64 (Door.phase (Car.door a1)), AV.int IntKind.i64 (Car.floor a1), AV.bool false])
        else
          some
            (AV.agg
              [AV.int IntKind.i64 (IntKind.wrap IntKind.i64 (Car.floor a1 + -1)), AV.int IntKind.i64 0,
                AV.int IntKind.i64 0, AV.int IntKind.i64 0, AV.int IntKind.i64 0, AV.int IntKind.i64 0,
                AV.int IntKind.i64 0, AV.int IntKind.i64 (-1), AV.int IntKind.i64 (Door.phase (Car.door a1)),
                AV.int IntKind.i64 (Car.floor a1), AV.bool false])
      else
        bif Order.cmd a2 == 3 then
          bif decide (IntKind.wrap IntKind.i64 (Times.level (Gear.times a0) - 1) > 0) then
            some
              (AV.agg
                [AV.int IntKind.i64 (Car.floor a1), AV.int IntKind.i64 0, AV.int IntKind.i64 2,
                  AV.int IntKind.i64 (IntKind.wrap IntKind.i64 (Times.level (Gear.times a0) - 1)), AV.int IntKind.i64 0,
                  AV.int IntKind.i64 0, AV.int IntKind.i64 0, AV.int IntKind.i64 0,
                  AV.int IntKind.i64 (Door.phase (Car.door a1)), AV.int IntKind.i64 (Car.floor a1), AV.bool false])
          else
            some
              (AV.agg
                [AV.int IntKind.i64 (Car.floor a1), AV.int IntKind.i64 0, AV.int IntKind.i64 3,
                  AV.int IntKind.i64 (IntKind.wrap IntKind.i64 (Times.level (Gear.times a0) - 1)), AV.int IntKind.i64 1,
                  AV.int IntKind.i64 (Times.open_ (Gear.times a0)), AV.int IntKind.i64 0, AV.int IntKind.i64 0,
                  AV.int IntKind.i64 (Door.phase (Car.door a1)), AV.int IntKind.i64 (Car.floor a1), AV.bool false])
        else
          bif Car.phase a1 == 3 then
            bif dStepOk2 a0 (Car.door a1) (Order.held a2) then
              bif Door.phase (DoorStepped.d (stepD a0 (Car.door a1) (Order.held a2))) == 0 then
                some
                  (AV.agg
                    [AV.int IntKind.i64 (Car.floor a1), AV.int IntKind.i64 (Car.dir a1), AV.int IntKind.i64 0,
                      AV.int IntKind.i64 (Car.left a1),
                      AV.int IntKind.i64 (Door.phase (DoorStepped.d (stepD a0 (Car.door a1) (Order.held a2)))),
                      AV.int IntKind.i64 (Door.left (DoorStepped.d (stepD a0 (Car.door a1) (Order.held a2)))),
                      AV.int IntKind.i64 (Door.held (DoorStepped.d (stepD a0 (Car.door a1) (Order.held a2)))),
                      AV.int IntKind.i64 (Car.dir a1), AV.int IntKind.i64 (Door.phase (Car.door a1)),
                      AV.int IntKind.i64 (Car.floor a1),
                      AV.bool (DoorStepped.chime (stepD a0 (Car.door a1) (Order.held a2)))])
              else
                some
                  (AV.agg
                    [AV.int IntKind.i64 (Car.floor a1), AV.int IntKind.i64 (Car.dir a1),
                      AV.int IntKind.i64 (Car.phase a1), AV.int IntKind.i64 (Car.left a1),
                      AV.int IntKind.i64 (Door.phase (DoorStepped.d (stepD a0 (Car.door a1) (Order.held a2)))),
                      AV.int IntKind.i64 (Door.left (DoorStepped.d (stepD a0 (Car.door a1) (Order.held a2)))),
                      AV.int IntKind.i64 (Door.held (DoorStepped.d (stepD a0 (Car.door a1) (Order.held a2)))),
                      AV.int IntKind.i64 (Car.dir a1), AV.int IntKind.i64 (Door.phase (Car.door a1)),
                      AV.int IntKind.i64 (Car.floor a1),
                      AV.bool (DoorStepped.chime (stepD a0 (Car.door a1) (Order.held a2)))])
            else none
          else
            bif Car.phase a1 == 0 then
              some
                (AV.agg
                  [AV.int IntKind.i64 (Car.floor a1), AV.int IntKind.i64 (Car.dir a1),
                    AV.int IntKind.i64 (Car.phase a1), AV.int IntKind.i64 (Car.left a1),
                    AV.int IntKind.i64 (Door.phase (Car.door a1)), AV.int IntKind.i64 (Door.left (Car.door a1)),
                    AV.int IntKind.i64 (Door.held (Car.door a1)), AV.int IntKind.i64 (Car.dir a1),
                    AV.int IntKind.i64 (Door.phase (Car.door a1)), AV.int IntKind.i64 (Car.floor a1), AV.bool false])
            else
              bif decide (IntKind.wrap IntKind.i64 (Car.left a1 - 1) > 0) then
                some
                  (AV.agg
                    [AV.int IntKind.i64 (Car.floor a1), AV.int IntKind.i64 (Car.dir a1),
                      AV.int IntKind.i64 (Car.phase a1),
                      AV.int IntKind.i64 (IntKind.wrap IntKind.i64 (Car.left a1 - 1)),
                      AV.int IntKind.i64 (Door.phase (Car.door a1)), AV.int IntKind.i64 (Door.left (Car.door a1)),
                      AV.int IntKind.i64 (Door.held (Car.door a1)), AV.int IntKind.i64 (Car.dir a1),
                      AV.int IntKind.i64 (Door.phase (Car.door a1)), AV.int IntKind.i64 (Car.floor a1), AV.bool false])
              else
                bif Car.phase a1 == 1 then
                  some
                    (AV.agg
                      [AV.int IntKind.i64 (IntKind.wrap IntKind.i64 (Car.floor a1 + Car.dir a1)), AV.int IntKind.i64 0,
                        AV.int IntKind.i64 0, AV.int IntKind.i64 0, AV.int IntKind.i64 0, AV.int IntKind.i64 0,
                        AV.int IntKind.i64 0, AV.int IntKind.i64 (Car.dir a1),
                        AV.int IntKind.i64 (Door.phase (Car.door a1)), AV.int IntKind.i64 (Car.floor a1),
                        AV.bool false])
                else
                  some
                    (AV.agg
                      [AV.int IntKind.i64 (Car.floor a1), AV.int IntKind.i64 (Car.dir a1), AV.int IntKind.i64 3,
                        AV.int IntKind.i64 (IntKind.wrap IntKind.i64 (Car.left a1 - 1)), AV.int IntKind.i64 1,
                        AV.int IntKind.i64 (Times.open_ (Gear.times a0)), AV.int IntKind.i64 0,
                        AV.int IntKind.i64 (Car.dir a1), AV.int IntKind.i64 (Door.phase (Car.door a1)),
                        AV.int IntKind.i64 (Car.floor a1), AV.bool false])
  else
    bif Car.phase a1 == 3 then
      bif dStepOk2 a0 (Car.door a1) (Order.held a2) then
        bif Door.phase (DoorStepped.d (stepD a0 (Car.door a1) (Order.held a2))) == 0 then
          some
            (AV.agg
              [AV.int IntKind.i64 (Car.floor a1), AV.int IntKind.i64 (Car.dir a1), AV.int IntKind.i64 0,
                AV.int IntKind.i64 (Car.left a1),
                AV.int IntKind.i64 (Door.phase (DoorStepped.d (stepD a0 (Car.door a1) (Order.held a2)))),
                AV.int IntKind.i64 (Door.left (DoorStepped.d (stepD a0 (Car.door a1) (Order.held a2)))),
                AV.int IntKind.i64 (Door.held (DoorStepped.d (stepD a0 (Car.door a1) (Order.held a2)))),
                AV.int IntKind.i64 (Car.dir a1), AV.int IntKind.i64 (Door.phase (Car.door a1)),
                AV.int IntKind.i64 (Car.floor a1),
                AV.bool (DoorStepped.chime (stepD a0 (Car.door a1) (Order.held a2)))])
        else
          some
            (AV.agg
              [AV.int IntKind.i64 (Car.floor a1), AV.int IntKind.i64 (Car.dir a1), AV.int IntKind.i64 (Car.phase a1),
                AV.int IntKind.i64 (Car.left a1),
                AV.int IntKind.i64 (Door.phase (DoorStepped.d (stepD a0 (Car.door a1) (Order.held a2)))),
                AV.int IntKind.i64 (Door.left (DoorStepped.d (stepD a0 (Car.door a1) (Order.held a2)))),
                AV.int IntKind.i64 (Door.held (DoorStepped.d (stepD a0 (Car.door a1) (Order.held a2)))),
                AV.int IntKind.i64 (Car.dir a1), AV.int IntKind.i64 (Door.phase (Car.door a1)),
                AV.int IntKind.i64 (Car.floor a1),
                AV.bool (DoorStepped.chime (stepD a0 (Car.door a1) (Order.held a2)))])
      else none
    else
      bif Car.phase a1 == 0 then
        some
          (AV.agg
            [AV.int IntKind.i64 (Car.floor a1), AV.int IntKind.i64 (Car.dir a1), AV.int IntKind.i64 (Car.phase a1),
              AV.int IntKind.i64 (Car.left a1), AV.int IntKind.i64 (Door.phase (Car.door a1)),
              AV.int IntKind.i64 (Door.left (Car.door a1)), AV.int IntKind.i64 (Door.held (Car.door a1)),
              AV.int IntKind.i64 (Car.dir a1), AV.int IntKind.i64 (Door.phase (Car.door a1)),
              AV.int IntKind.i64 (Car.floor a1), AV.bool false])
      else
        bif decide (IntKind.wrap IntKind.i64 (Car.left a1 - 1) > 0) then
          some
            (AV.agg
              [AV.int IntKind.i64 (Car.floor a1), AV.int IntKind.i64 (Car.dir a1), AV.int IntKind.i64 (Car.phase a1),
                AV.int IntKind.i64 (IntKind.wrap IntKind.i64 (Car.left a1 - 1)),
                AV.int IntKind.i64 (Door.phase (Car.door a1)), AV.int IntKind.i64 (Door.left (Car.door a1)),
                AV.int IntKind.i64 (Door.held (Car.door a1)), AV.int IntKind.i64 (Car.dir a1),
                AV.int IntKind.i64 (Door.phase (Car.door a1)), AV.int IntKind.i64 (Car.floor a1), AV.bool false])
        else
          bif Car.phase a1 == 1 then
            some
              (AV.agg
                [AV.int IntKind.i64 (IntKind.wrap IntKind.i64 (Car.floor a1 + Car.dir a1)), AV.int IntKind.i64 0,
                  AV.int IntKind.i64 0, AV.int IntKind.i64 0, AV.int IntKind.i64 0, AV.int IntKind.i64 0,
                  AV.int IntKind.i64 0, AV.int IntKind.i64 (Car.dir a1), AV.int IntKind.i64 (Door.phase (Car.door a1)),
                  AV.int IntKind.i64 (Car.floor a1), AV.bool false])
          else
            some
              (AV.agg
                [AV.int IntKind.i64 (Car.floor a1), AV.int IntKind.i64 (Car.dir a1), AV.int IntKind.i64 3,
                  AV.int IntKind.i64 (IntKind.wrap IntKind.i64 (Car.left a1 - 1)), AV.int IntKind.i64 1,
                  AV.int IntKind.i64 (Times.open_ (Gear.times a0)), AV.int IntKind.i64 0,
                  AV.int IntKind.i64 (Car.dir a1), AV.int IntKind.i64 (Door.phase (Car.door a1)),
                  AV.int IntKind.i64 (Car.floor a1), AV.bool false]) := by kernel_rfl
theorem run_newelref18_Step (a0 : Gear) (a1 : Car) (a2 : Order) (hg : stepOk a0 a1 a2 = true) : run k25 20 4 14 Try.f14 s_newelref18_Step (a0, a1, a2, ()) = some (r_newelref18_Step.enc (stepC a0 a1 a2)) := by
  rw [tree_newelref18_Step]
  obtain ⟨fl, dr, ph, lf, ⟨dp, dl, dh⟩⟩ := a1
  obtain ⟨cmd, held, fault⟩ := a2
  simp only [stepOk, carOk, Bool.and_eq_true, carB_iff, wthin_iff] at hg
  obtain ⟨⟨hG, hF, hf, hD, hP⟩, hC⟩ := hg
  have hS : dStepOk2 a0 ⟨dp, dl, dh⟩ held = true := by simp only [dStepOk2, hG, hD, Bool.and_self]
  rw [hS]
  simp only [gearB_iff, timesB_iff, doorB_iff] at hG hD
  simp only [IntWalk.i64_in (fl + 1) (by omega), IntWalk.i64_in (fl + -1) (by omega), IntWalk.i64_in (a0.times.travel - 1) (by omega), IntWalk.i64_in (a0.times.level - 1) (by omega), IntWalk.i64_in (fl + dr) (by omega), IntWalk.i64_in (lf - 1) (by omega)]
  simp only [r_newelref18_Step, Res.bool, Res.int, Res.agg, Res.tup2, Res.tup3, cDoor_enc, cCar_enc, cOutT_enc, cDoorStepped_enc, cCarStepped_enc, cGear_enc, stepC, begunC, beganC, tickC, door0, Bool.cond_false_right, Bool.cond_true_left]
  cases fault
  case true => rfl
  rcases hP with ⟨rfl, rfl, rfl, rfl⟩ | ⟨rfl, hdr, hlo, hhi, hl1, hl2, rfl⟩ | ⟨rfl, rfl, hl1, hl2, rfl⟩ | ⟨rfl, rfl, rfl, hd0⟩
  · obtain ⟨rfl, rfl⟩ : dl = 0 ∧ dh = 0 := by omega
    simp
    all_goals try simp only [beq_eq_false_iff_ne, Bool.cond_eq_ite, bne_iff_ne, ne_eq, Bool.and_eq_true, Bool.or_eq_true, decide_eq_true_eq, beq_iff_eq, Bool.not_eq_true', decide_eq_false_iff_not]
    all_goals repeat' split
    all_goals first | rfl | (exfalso; omega) | (simp_all; done) | (simp_all; omega)
  · obtain ⟨rfl, rfl⟩ : dl = 0 ∧ dh = 0 := by omega
    simp
    all_goals try simp only [beq_eq_false_iff_ne, Bool.cond_eq_ite, bne_iff_ne, ne_eq, Bool.and_eq_true, Bool.or_eq_true, decide_eq_true_eq, beq_iff_eq, Bool.not_eq_true', decide_eq_false_iff_not]
    all_goals repeat' split
    all_goals first | rfl | (exfalso; omega) | (simp_all; done) | (simp_all; omega)
  · obtain ⟨rfl, rfl⟩ : dl = 0 ∧ dh = 0 := by omega
    simp
    all_goals try simp only [beq_eq_false_iff_ne, Bool.cond_eq_ite, bne_iff_ne, ne_eq, Bool.and_eq_true, Bool.or_eq_true, decide_eq_true_eq, beq_iff_eq, Bool.not_eq_true', decide_eq_false_iff_not]
    all_goals repeat' split
    all_goals first | rfl | (exfalso; omega) | (simp_all; done) | (simp_all; omega)
  · simp
    generalize stepD a0 ⟨dp, dl, dh⟩ held = sd
    all_goals try simp only [beq_eq_false_iff_ne, Bool.cond_eq_ite, bne_iff_ne, ne_eq, Bool.and_eq_true, Bool.or_eq_true, decide_eq_true_eq, beq_iff_eq, Bool.not_eq_true', decide_eq_false_iff_not]
    all_goals repeat' split
    all_goals first | rfl | (exfalso; omega) | (simp_all; done) | (simp_all; omega)
theorem p26 : Prog Try.prog (fun _ => True) k26 := p25.addFn (s := s_newelref18_Step) (r := r_newelref18_Step) (.of Try.func14 (by kernel_rfl) (by kernel_rfl)) (fun x hg => run_newelref18_Step x.1 x.2.1 x.2.2.1 hg)

theorem tree_newelref18_Rest (a0 : Gear) (a1 : Car) : run k26 20 4 17 Try.f17 s_newelref18_Rest (a0, a1, ()) =
bif Car.phase a1 == 1 then some (AV.int IntKind.i64 (Car.left a1))
else
  bif Car.phase a1 == 2 then
    bif dStepOk a0 { phase := 1, left := Times.open_ (Gear.times a0), held := 0 } then
      some
        (AV.int IntKind.i64
          (IntKind.wrap IntKind.i64
            (Car.left a1 + restD a0 { phase := 1, left := Times.open_ (Gear.times a0), held := 0 })))
    else none
  else bif dStepOk a0 (Car.door a1) then some (AV.int IntKind.i64 (restD a0 (Car.door a1))) else none := by kernel_rfl
theorem run_newelref18_Rest (a0 : Gear) (a1 : Car) (hg : carOk a0 a1 = true) : run k26 20 4 17 Try.f17 s_newelref18_Rest (a0, a1, ()) = some (r_newelref18_Rest.enc (restC a0 a1)) := by
  rw [tree_newelref18_Rest]
  obtain ⟨fl, dr, ph, lf, ⟨dp, dl, dh⟩⟩ := a1
  simp only [carOk, Bool.and_eq_true, carB_iff] at hg
  obtain ⟨hG, hF, hf, hD, hP⟩ := hg
  have hT : timesB a0.times = true := by simp only [gearB_iff] at hG; exact hG.1
  have hE : doorB ⟨1, a0.times.open_, 0⟩ = true := by rw [timesB_iff] at hT; rw [doorB_iff]; simp; omega
  have hy := restD_bound a0 ⟨1, a0.times.open_, 0⟩ hG hE
  simp only [dStepOk, hG, hD, hE, Bool.and_self, cond_true, restC, r_newelref18_Rest, Res.int]
  cases h1 : (ph == 1) <;> cases h2 : (ph == 2) <;> simp only [cond_true, cond_false]
  rw [IntWalk.i64_in _ (by simp at h2; omega)]
theorem p27 : Prog Try.prog (fun _ => True) k27 := p26.addFn (s := s_newelref18_Rest) (r := r_newelref18_Rest) (.of Try.func17 (by kernel_rfl) (by kernel_rfl)) (fun x hg => run_newelref18_Rest x.1 x.2.1 hg)

theorem run_newellaw17_Plain : run k27 20 4 24 Try.f24 s_newellaw17_Plain (()) = some (r_newellaw17_Plain.enc (plainGear)) := by kernel_rfl
theorem p28 : Prog Try.prog (fun _ => True) k28 := p27.addFn (s := s_newellaw17_Plain) (r := r_newellaw17_Plain) (.of Try.func24 (by kernel_rfl) (by kernel_rfl)) (fun _ _ => run_newellaw17_Plain )

theorem run_newellaw18_awake : run k28 20 4 13 Try.f13 s_newellaw18_awake (()) = some (r_newellaw18_awake.enc (alive)) := by kernel_rfl
theorem p29 : Prog Try.prog (fun _ => True) k29 := p28.addFn (s := s_newellaw18_awake) (r := r_newellaw18_awake) (.of Try.func13 (by kernel_rfl) (by kernel_rfl)) (fun _ _ => run_newellaw18_awake )

theorem tree_newellaw18_CarSteps (a0 : Gear) (a1 : Car) (a2 : Order) : run k29 20 4 3 Try.f3 s_newellaw18_CarSteps (a0, a1, a2, ()) =
bif bif !gearB a0 then true else !carB (Gear.floors a0) a1 then
  some
    (AV.bool
      (bif
          bif bif true then (bif carOk a0 a1 then errOf (wthin (Order.cmd a2) 0 3) 181 else 180) == 180 else false then
            Car.floor (bif stepOk a0 a1 a2 then CarStepped.c (stepC a0 a1 a2) else car0) == 0 &&
              (Car.dir (bif stepOk a0 a1 a2 then CarStepped.c (stepC a0 a1 a2) else car0) == 0 &&
                (Car.phase (bif stepOk a0 a1 a2 then CarStepped.c (stepC a0 a1 a2) else car0) == 0 &&
                  (Car.left (bif stepOk a0 a1 a2 then CarStepped.c (stepC a0 a1 a2) else car0) == 0 &&
                    (Door.phase (Car.door (bif stepOk a0 a1 a2 then CarStepped.c (stepC a0 a1 a2) else car0)) == 0 &&
                      (Door.left (Car.door (bif stepOk a0 a1 a2 then CarStepped.c (stepC a0 a1 a2) else car0)) == 0 &&
                        (Door.held (Car.door (bif stepOk a0 a1 a2 then CarStepped.c (stepC a0 a1 a2) else car0)) == 0 &&
                          true))))))
          else false then
        OutT.motor (bif stepOk a0 a1 a2 then CarStepped.o (stepC a0 a1 a2) else out0) == 0 &&
          (OutT.door (bif stepOk a0 a1 a2 then CarStepped.o (stepC a0 a1 a2) else out0) == 0 &&
            (OutT.floor (bif stepOk a0 a1 a2 then CarStepped.o (stepC a0 a1 a2) else out0) == 0 &&
              (OutT.chime (bif stepOk a0 a1 a2 then CarStepped.o (stepC a0 a1 a2) else out0) == false && true)))
      else false))
else
  bif bif decide (Order.cmd a2 < 0) then true else decide (Order.cmd a2 > 3) then
    some
      (AV.bool
        (bif
            bif
                bif true then (bif carOk a0 a1 then errOf (wthin (Order.cmd a2) 0 3) 181 else 180) == 181
                else false then
              Car.floor (bif stepOk a0 a1 a2 then CarStepped.c (stepC a0 a1 a2) else car0) == 0 &&
                (Car.dir (bif stepOk a0 a1 a2 then CarStepped.c (stepC a0 a1 a2) else car0) == 0 &&
                  (Car.phase (bif stepOk a0 a1 a2 then CarStepped.c (stepC a0 a1 a2) else car0) == 0 &&
                    (Car.left (bif stepOk a0 a1 a2 then CarStepped.c (stepC a0 a1 a2) else car0) == 0 &&
                      (Door.phase (Car.door (bif stepOk a0 a1 a2 then CarStepped.c (stepC a0 a1 a2) else car0)) == 0 &&
                        (Door.left (Car.door (bif stepOk a0 a1 a2 then CarStepped.c (stepC a0 a1 a2) else car0)) == 0 &&
                          (Door.held (Car.door (bif stepOk a0 a1 a2 then CarStepped.c (stepC a0 a1 a2) else car0)) ==
                              0 &&
                            true))))))
            else false then
          OutT.motor (bif stepOk a0 a1 a2 then CarStepped.o (stepC a0 a1 a2) else out0) == 0 &&
            (OutT.door (bif stepOk a0 a1 a2 then CarStepped.o (stepC a0 a1 a2) else out0) == 0 &&
              (OutT.floor (bif stepOk a0 a1 a2 then CarStepped.o (stepC a0 a1 a2) else out0) == 0 &&
                (OutT.chime (bif stepOk a0 a1 a2 then CarStepped.o (stepC a0 a1 a2) else out0) == false && true)))
        else false))
  else
    bif stepOk a0 a1 a2 then
      some
        (AV.bool
          (bif
              bif
                  bif true then (bif carOk a0 a1 then errOf (wthin (Order.cmd a2) 0 3) 181 else 180) == 0
                  else false then
                Car.floor (bif stepOk a0 a1 a2 then CarStepped.c (stepC a0 a1 a2) else car0) ==
                    Car.floor (CarStepped.c (stepC a0 a1 a2)) &&
                  (Car.dir (bif stepOk a0 a1 a2 then CarStepped.c (stepC a0 a1 a2) else car0) ==
                      Car.dir (CarStepped.c (stepC a0 a1 a2)) &&
                    (Car.phase (bif stepOk a0 a1 a2 then CarStepped.c (stepC a0 a1 a2) else car0) ==
                        Car.phase (CarStepped.c (stepC a0 a1 a2)) &&
                      (Car.left (bif stepOk a0 a1 a2 then CarStepped.c (stepC a0 a1 a2) else car0) ==
                          Car.left (CarStepped.c (stepC a0 a1 a2)) &&
                        (Door.phase (Car.door (bif stepOk a0 a1 a2 then CarStepped.c (stepC a0 a1 a2) else car0)) ==
                            Door.phase (Car.door (CarStepped.c (stepC a0 a1 a2))) &&
                          (Door.left (Car.door (bif stepOk a0 a1 a2 then CarStepped.c (stepC a0 a1 a2) else car0)) ==
                              Door.left (Car.door (CarStepped.c (stepC a0 a1 a2))) &&
                            (Door.held (Car.door (bif stepOk a0 a1 a2 then CarStepped.c (stepC a0 a1 a2) else car0)) ==
                                Door.held (Car.door (CarStepped.c (stepC a0 a1 a2))) &&
                              true))))))
              else false then
            OutT.motor (bif stepOk a0 a1 a2 then CarStepped.o (stepC a0 a1 a2) else out0) ==
                OutT.motor (CarStepped.o (stepC a0 a1 a2)) &&
              (OutT.door (bif stepOk a0 a1 a2 then CarStepped.o (stepC a0 a1 a2) else out0) ==
                  OutT.door (CarStepped.o (stepC a0 a1 a2)) &&
                (OutT.floor (bif stepOk a0 a1 a2 then CarStepped.o (stepC a0 a1 a2) else out0) ==
                    OutT.floor (CarStepped.o (stepC a0 a1 a2)) &&
                  (OutT.chime (bif stepOk a0 a1 a2 then CarStepped.o (stepC a0 a1 a2) else out0) ==
                      OutT.chime (CarStepped.o (stepC a0 a1 a2)) &&
                    true)))
          else false))
    else none := by kernel_rfl
theorem run_newellaw18_CarSteps (a0 : Gear) (a1 : Car) (a2 : Order) : run k29 20 4 3 Try.f3 s_newellaw18_CarSteps (a0, a1, a2, ()) = some (.bool true) := by
  rw [tree_newellaw18_CarSteps]
  simp only [stepOk, carOk, errOf, wthin]
  cases gearB a0 <;> cases carB a0.floors a1 <;> try rfl
  simp only [car0, out0, door0]
  by_cases h1 : a2.cmd < 0
  · simp [h1, show ¬ 0 ≤ a2.cmd by omega]
  by_cases h2 : a2.cmd > 3
  · simp [h1, h2, show 0 ≤ a2.cmd by omega, show ¬ a2.cmd ≤ 3 by omega]
  · simp [h1, h2, show 0 ≤ a2.cmd by omega, show a2.cmd ≤ 3 by omega]
theorem law_newellaw18_CarSteps : ∀ x, s_newellaw18_CarSteps.wf x → ∃ fuel d, run k29 fuel d 3 Try.f3 s_newellaw18_CarSteps x = some (.bool true) := fun x _ => ⟨20, 4, run_newellaw18_CarSteps x.1 x.2.1 x.2.2.1⟩

theorem tree_newellaw18_CarRests (a0 : Gear) (a1 : Car) : run k29 20 4 4 Try.f4 s_newellaw18_CarRests (a0, a1, ()) =
bif !(car_Check (Gear.floors a0) a1 == 0) == carB (Gear.floors a0) a1 then some (AV.bool false)
else
  bif bif !gearB a0 then true else !carB (Gear.floors a0) a1 then
    some
      (AV.bool
        (bif bif true then errOf (carOk a0 a1) 180 == 180 else false then (bif carOk a0 a1 then restC a0 a1 else 0) == 0
        else false))
  else
    bif carOk a0 a1 || !bif true then errOf (carOk a0 a1) 180 == 0 else false then
      some
        (AV.bool
          (bif bif true then errOf (carOk a0 a1) 180 == 0 else false then
            (bif carOk a0 a1 then restC a0 a1 else 0) == restC a0 a1
          else false))
    else none := by kernel_rfl
theorem run_newellaw18_CarRests (a0 : Gear) (a1 : Car) : run k29 20 4 4 Try.f4 s_newellaw18_CarRests (a0, a1, ()) = some (.bool true) := by
  rw [tree_newellaw18_CarRests]
  simp only [car_Check, stepOk, carOk, errOf]
  cases gearB a0 <;> cases carB a0.floors a1 <;> simp
theorem law_newellaw18_CarRests : ∀ x, s_newellaw18_CarRests.wf x → ∃ fuel d, run k29 fuel d 4 Try.f4 s_newellaw18_CarRests x = some (.bool true) := fun x _ => ⟨20, 4, run_newellaw18_CarRests x.1 x.2.1⟩

theorem tree_newellaw18_CarSafe (a0 : Gear) (a1 : Car) (a2 : Order) : run k29 20 4 5 Try.f5 s_newellaw18_CarSafe (a0, a1, a2, ()) =
bif (bif carOk a0 a1 then errOf (wthin (Order.cmd a2) 0 3) 181 else 180) != 0 then some (AV.bool true)
else
  bif
      bif
          bif
              bif
                  bif
                      bif
                          car_Check (Gear.floors a0)
                              (bif stepOk a0 a1 a2 then CarStepped.c (stepC a0 a1 a2) else car0) !=
                            0 then
                        true
                      else
                        OutT.floor (bif stepOk a0 a1 a2 then CarStepped.o (stepC a0 a1 a2) else out0) !=
                          Car.floor a1 then
                    true
                  else
                    decide
                      (IntKind.wrap IntKind.i64
                          (Car.floor (bif stepOk a0 a1 a2 then CarStepped.c (stepC a0 a1 a2) else car0) -
                            Car.floor a1) >
                        1) then
                true
              else
                decide
                  (IntKind.wrap IntKind.i64
                      (Car.floor a1 - Car.floor (bif stepOk a0 a1 a2 then CarStepped.c (stepC a0 a1 a2) else car0)) >
                    1) then
            true
          else decide (Car.floor (bif stepOk a0 a1 a2 then CarStepped.c (stepC a0 a1 a2) else car0) < 0) then
        true
      else decide (Car.floor (bif stepOk a0 a1 a2 then CarStepped.c (stepC a0 a1 a2) else car0) ≥ Gear.floors a0) then
    some (AV.bool false)
  else
    bif
        bif
            bif OutT.motor (bif stepOk a0 a1 a2 then CarStepped.o (stepC a0 a1 a2) else out0) != 0 then
              bif
                  bif OutT.door (bif stepOk a0 a1 a2 then CarStepped.o (stepC a0 a1 a2) else out0) != 0 then true
                  else
                    Door.phase (Car.door (bif stepOk a0 a1 a2 then CarStepped.c (stepC a0 a1 a2) else car0)) != 0 then
                true
              else OutT.chime (bif stepOk a0 a1 a2 then CarStepped.o (stepC a0 a1 a2) else out0)
            else false then
          true
        else
          bif Car.floor (bif stepOk a0 a1 a2 then CarStepped.c (stepC a0 a1 a2) else car0) != Car.floor a1 then
            OutT.motor (bif stepOk a0 a1 a2 then CarStepped.o (stepC a0 a1 a2) else out0) !=
              IntKind.wrap IntKind.i64
                (Car.floor (bif stepOk a0 a1 a2 then CarStepped.c (stepC a0 a1 a2) else car0) - Car.floor a1)
          else false then
      some (AV.bool false)
    else
      some
        (AV.bool
          (bif
              bif true then
                bif OutT.door (bif stepOk a0 a1 a2 then CarStepped.o (stepC a0 a1 a2) else out0) == 0 then true
                else
                  bif
                      bif OutT.motor (bif stepOk a0 a1 a2 then CarStepped.o (stepC a0 a1 a2) else out0) == 0 then
                        Car.floor (bif stepOk a0 a1 a2 then CarStepped.c (stepC a0 a1 a2) else car0) == Car.floor a1
                      else false then
                    Car.phase (bif stepOk a0 a1 a2 then CarStepped.c (stepC a0 a1 a2) else car0) != 1
                  else false
              else false then
            bif !OutT.chime (bif stepOk a0 a1 a2 then CarStepped.o (stepC a0 a1 a2) else out0) then true
            else OutT.door (bif stepOk a0 a1 a2 then CarStepped.o (stepC a0 a1 a2) else out0) == 2
          else false)) := by kernel_rfl
theorem run_newellaw18_CarSafe (a0 : Gear) (a1 : Car) (a2 : Order) : run k29 20 4 5 Try.f5 s_newellaw18_CarSafe (a0, a1, a2, ()) = some (.bool true) := by
  rw [tree_newellaw18_CarSafe]
  cases hs : stepOk a0 a1 a2
  case false =>
    simp only [stepOk] at hs
    cases h1 : carOk a0 a1
    · rfl
    · cases h2 : wthin a2.cmd 0 3
      · rfl
      · rw [h1, h2] at hs; cases hs
  have hs' := hs
  simp only [stepOk, Bool.and_eq_true] at hs'
  have hB := hs'.1
  simp only [carOk, Bool.and_eq_true, carB_iff] at hB
  obtain ⟨f1, f2, f3, f4, f5, f6, f7⟩ := stepC_facts hs
  have f1' := f1
  simp only [carB_iff] at f1'
  simp only [cond_true, hs'.1, hs'.2, errOf, car_Check, f1]
  generalize stepC a0 a1 a2 = s at *
  simp only [IntWalk.i64_in (s.c.floor - a1.floor) (by omega), IntWalk.i64_in (a1.floor - s.c.floor) (by omega)]
  obtain ⟨⟨xf, xd, xp, xl, ⟨dp, dl, dh⟩⟩, ⟨mo, dd, ff, ch⟩⟩ := s
  simp only [bne_self_eq_false, Bool.cond_false_right, Bool.cond_true_left] at *
  cases ch <;> simp only [reduceCtorEq, Bool.false_eq_true, false_or, or_false, or_true, true_or, and_true, and_false, true_implies, false_implies, not_true_eq_false, imp_false, if_false, if_true, cond_false, cond_true, beq_eq_false_iff_ne, Bool.cond_eq_ite, bne_iff_ne, ne_eq, Bool.and_eq_true, Bool.or_eq_true, decide_eq_true_eq, beq_iff_eq, Bool.not_eq_true', decide_eq_false_iff_not] at * <;> repeat' split
  all_goals first | (exfalso; omega) | rfl | (refine congrArg (fun b => some (AV.bool b)) ?_; simp only [Bool.not_false, Bool.not_true, beq_eq_false_iff_ne, Bool.cond_eq_ite, bne_iff_ne, ne_eq, Bool.and_eq_true, Bool.or_eq_true, decide_eq_true_eq, beq_iff_eq, Bool.not_eq_true', decide_eq_false_iff_not]; omega) | (refine congrArg (fun b => some (AV.bool b)) ?_; simp; omega)
theorem law_newellaw18_CarSafe : ∀ x, s_newellaw18_CarSafe.wf x → ∃ fuel d, run k29 fuel d 5 Try.f5 s_newellaw18_CarSafe x = some (.bool true) := fun x _ => ⟨20, 4, run_newellaw18_CarSafe x.1 x.2.1 x.2.2.1⟩

theorem tree_newellaw18_CarFault (a0 : Stuck) : run k29 20 4 6 Try.f6 s_newellaw18_CarFault (a0, ()) =
bif (bif carOk (Stuck.g a0) (Stuck.c a0) then errOf (wthin (Stuck.cmd a0) 0 3) 181 else 180) != 0 then
  some
    (AV.bool
      (bif true then
        Car.floor
              (bif stepOk (Stuck.g a0) (Stuck.c a0) { cmd := Stuck.cmd a0, held := Stuck.held a0, fault := true } then
                Stuck.c a0
              else car0) ==
            0 &&
          (Car.dir
                (bif stepOk (Stuck.g a0) (Stuck.c a0) { cmd := Stuck.cmd a0, held := Stuck.held a0, fault := true } then
                  Stuck.c a0
                else car0) ==
              0 &&
            (Car.phase
                  (bif
                      stepOk (Stuck.g a0) (Stuck.c a0)
                        { cmd := Stuck.cmd a0, held := Stuck.held a0, fault := true } then
                    Stuck.c a0
                  else car0) ==
                0 &&
              (Car.left
                    (bif
                        stepOk (Stuck.g a0) (Stuck.c a0)
                          { cmd := Stuck.cmd a0, held := Stuck.held a0, fault := true } then
                      Stuck.c a0
                    else car0) ==
                  0 &&
                (Door.phase
                      (Car.door
                        (bif
                            stepOk (Stuck.g a0) (Stuck.c a0)
                              { cmd := Stuck.cmd a0, held := Stuck.held a0, fault := true } then
                          Stuck.c a0
                        else car0)) ==
                    0 &&
                  (Door.left
                        (Car.door
                          (bif
                              stepOk (Stuck.g a0) (Stuck.c a0)
                                { cmd := Stuck.cmd a0, held := Stuck.held a0, fault := true } then
                            Stuck.c a0
                          else car0)) ==
                      0 &&
                    (Door.held
                          (Car.door
                            (bif
                                stepOk (Stuck.g a0) (Stuck.c a0)
                                  { cmd := Stuck.cmd a0, held := Stuck.held a0, fault := true } then
                              Stuck.c a0
                            else car0)) ==
                        0 &&
                      true))))))
      else false))
else
  some
    (AV.bool
      (bif
          bif true then
            Car.floor
                  (bif
                      stepOk (Stuck.g a0) (Stuck.c a0)
                        { cmd := Stuck.cmd a0, held := Stuck.held a0, fault := true } then
                    Stuck.c a0
                  else car0) ==
                Car.floor (Stuck.c a0) &&
              (Car.dir
                    (bif
                        stepOk (Stuck.g a0) (Stuck.c a0)
                          { cmd := Stuck.cmd a0, held := Stuck.held a0, fault := true } then
                      Stuck.c a0
                    else car0) ==
                  Car.dir (Stuck.c a0) &&
                (Car.phase
                      (bif
                          stepOk (Stuck.g a0) (Stuck.c a0)
                            { cmd := Stuck.cmd a0, held := Stuck.held a0, fault := true } then
                        Stuck.c a0
                      else car0) ==
                    Car.phase (Stuck.c a0) &&
                  (Car.left
                        (bif
                            stepOk (Stuck.g a0) (Stuck.c a0)
                              { cmd := Stuck.cmd a0, held := Stuck.held a0, fault := true } then
                          Stuck.c a0
                        else car0) ==
                      Car.left (Stuck.c a0) &&
                    (Door.phase
                          (Car.door
                            (bif
                                stepOk (Stuck.g a0) (Stuck.c a0)
                                  { cmd := Stuck.cmd a0, held := Stuck.held a0, fault := true } then
                              Stuck.c a0
                            else car0)) ==
                        Door.phase (Car.door (Stuck.c a0)) &&
                      (Door.left
                            (Car.door
                              (bif
                                  stepOk (Stuck.g a0) (Stuck.c a0)
                                    { cmd := Stuck.cmd a0, held := Stuck.held a0, fault := true } then
                                Stuck.c a0
                              else car0)) ==
                          Door.left (Car.door (Stuck.c a0)) &&
                        (Door.held
                              (Car.door
                                (bif
                                    stepOk (Stuck.g a0) (Stuck.c a0)
                                      { cmd := Stuck.cmd a0, held := Stuck.held a0, fault := true } then
                                  Stuck.c a0
                                else car0)) ==
                            Door.held (Car.door (Stuck.c a0)) &&
                          true))))))
          else false then
        OutT.motor
              (bif stepOk (Stuck.g a0) (Stuck.c a0) { cmd := Stuck.cmd a0, held := Stuck.held a0, fault := true } then
                { motor := 0, door := Door.phase (Car.door (Stuck.c a0)), floor := Car.floor (Stuck.c a0),
                  chime := false }
              else out0) ==
            0 &&
          (OutT.door
                (bif stepOk (Stuck.g a0) (Stuck.c a0) { cmd := Stuck.cmd a0, held := Stuck.held a0, fault := true } then
                  { motor := 0, door := Door.phase (Car.door (Stuck.c a0)), floor := Car.floor (Stuck.c a0),
                    chime := false }
                else out0) ==
              Door.phase (Car.door (Stuck.c a0)) &&
            (OutT.floor
                  (bif
                      stepOk (Stuck.g a0) (Stuck.c a0)
                        { cmd := Stuck.cmd a0, held := Stuck.held a0, fault := true } then
                    { motor := 0, door := Door.phase (Car.door (Stuck.c a0)), floor := Car.floor (Stuck.c a0),
                      chime := false }
                  else out0) ==
                Car.floor (Stuck.c a0) &&
              (OutT.chime
                    (bif
                        stepOk (Stuck.g a0) (Stuck.c a0)
                          { cmd := Stuck.cmd a0, held := Stuck.held a0, fault := true } then
                      { motor := 0, door := Door.phase (Car.door (Stuck.c a0)), floor := Car.floor (Stuck.c a0),
                        chime := false }
                    else out0) ==
                  false &&
                true)))
      else false)) := by kernel_rfl
theorem run_newellaw18_CarFault (a0 : Stuck) : run k29 20 4 6 Try.f6 s_newellaw18_CarFault (a0, ()) = some (.bool true) := by
  rw [tree_newellaw18_CarFault]
  simp only [stepOk, errOf]
  cases carOk a0.g a0.c <;> cases wthin a0.cmd 0 3 <;> simp [car0, door0]
theorem law_newellaw18_CarFault : ∀ x, s_newellaw18_CarFault.wf x → ∃ fuel d, run k29 fuel d 6 Try.f6 s_newellaw18_CarFault x = some (.bool true) := fun x _ => ⟨20, 4, run_newellaw18_CarFault x.1⟩

theorem tree_newellaw18_CarFalls (a0 : Gear) (a1 : Car) (a2 : Order) : run k29 20 4 9 Try.f9 s_newellaw18_CarFalls (a0, a1, a2, ()) =
bif
    bif errOf (carOk a0 a1) 180 != 0 then true
    else (bif carOk a0 a1 then errOf (wthin (Order.cmd a2) 0 3) 181 else 180) != 0 then
  some
    (AV.bool
      (bif true then bif errOf (carOk a0 a1) 180 == 0 then true else (bif carOk a0 a1 then restC a0 a1 else 0) == 0
      else false))
else
  bif Order.fault a2 then
    some
      (AV.bool
        (bif
            bif true then errOf (carOk a0 (bif stepOk a0 a1 a2 then CarStepped.c (stepC a0 a1 a2) else car0)) 180 == 0
            else false then
          (bif carOk a0 (bif stepOk a0 a1 a2 then CarStepped.c (stepC a0 a1 a2) else car0) then
              restC a0 (bif stepOk a0 a1 a2 then CarStepped.c (stepC a0 a1 a2) else car0)
            else 0) ==
            bif carOk a0 a1 then restC a0 a1 else 0
        else false))
  else
    bif Car.phase a1 == 0 then
      some
        (AV.bool
          (bif bif true then (bif carOk a0 a1 then restC a0 a1 else 0) == 0 else false then
            errOf (carOk a0 (bif stepOk a0 a1 a2 then CarStepped.c (stepC a0 a1 a2) else car0)) 180 == 0
          else false))
    else
      some
        (AV.bool
          (bif
              bif
                  bif
                      bif true then
                        errOf (carOk a0 (bif stepOk a0 a1 a2 then CarStepped.c (stepC a0 a1 a2) else car0)) 180 == 0
                      else false then
                    decide ((bif carOk a0 a1 then restC a0 a1 else 0) ≥ 1)
                  else false then
                decide
                  ((bif carOk a0 (bif stepOk a0 a1 a2 then CarStepped.c (stepC a0 a1 a2) else car0) then
                      restC a0 (bif stepOk a0 a1 a2 then CarStepped.c (stepC a0 a1 a2) else car0)
                    else 0) ≤
                    IntKind.wrap IntKind.i64 ((bif carOk a0 a1 then restC a0 a1 else 0) - 1))
              else false then
            ((bif carOk a0 (bif stepOk a0 a1 a2 then CarStepped.c (stepC a0 a1 a2) else car0) then
                  restC a0 (bif stepOk a0 a1 a2 then CarStepped.c (stepC a0 a1 a2) else car0)
                else 0) ==
                0) ==
              (Car.phase (bif stepOk a0 a1 a2 then CarStepped.c (stepC a0 a1 a2) else car0) == 0)
          else false)) := by kernel_rfl
theorem run_newellaw18_CarFalls (a0 : Gear) (a1 : Car) (a2 : Order) : run k29 20 4 9 Try.f9 s_newellaw18_CarFalls (a0, a1, a2, ()) = some (.bool true) := by
  rw [tree_newellaw18_CarFalls]
  cases hs : stepOk a0 a1 a2
  case false =>
    simp only [stepOk] at hs
    cases h1 : carOk a0 a1
    · rfl
    · cases h2 : wthin a2.cmd 0 3
      · rfl
      · rw [h1, h2] at hs; cases hs
  have hs' := hs
  simp only [stepOk, Bool.and_eq_true] at hs'
  have hB := hs'.1
  simp only [carOk, Bool.and_eq_true] at hB
  have f1 := (stepC_facts hs).1
  have z1 := restC_zero hB.1 hB.2
  have z2 := restC_zero hB.1 f1
  have hx : carOk a0 (stepC a0 a1 a2).c = true := by simp only [carOk, hB.1, f1, Bool.and_self]
  have fl := restC_falls hs
  simp only [cond_true, hs'.1, hs'.2, hx, errOf, bne_self_eq_false]
  cases hf : a2.fault
  · have fl := fl hf
    by_cases hp : a1.phase = 0
    · simp [hp, z1.2.2.2 hp]
    · have fl := fl hp
      generalize stepC a0 a1 a2 = s at *
      rw [IntWalk.i64_in _ (by omega)]
      have hz : ((restC a0 s.c == 0) == (s.c.phase == 0)) = true := by
        rw [beq_iff_eq, Bool.eq_iff_iff, beq_iff_eq, beq_iff_eq]; exact z2.2.2
      rw [hz]
      simp only [show (a1.phase == 0) = false by simpa using hp, cond_false, cond_true]
      refine congrArg (fun b => some (AV.bool b)) ?_
      simp
      omega
  · have he : (stepC a0 a1 a2).c = a1 := by simp [stepC, hf]
    rw [he]
    simp
theorem law_newellaw18_CarFalls : ∀ x, s_newellaw18_CarFalls.wf x → ∃ fuel d, run k29 fuel d 9 Try.f9 s_newellaw18_CarFalls x = some (.bool true) := fun x _ => ⟨20, 4, run_newellaw18_CarFalls x.1 x.2.1 x.2.2.1⟩

end Go.Proofs.Ytkcpgejmafobjaa.Px.PxA
