/- Functions are what is said of them. -/
import Derived.Test.YtlnfojhmgncfiaaPxUSteps
import Derived.Test.YtlnfojhmgncfiaaPxSpecCar
set_option linter.unusedVariables false
set_option linter.unusedSimpArgs false
namespace Go.Proofs.Ytlnfojhmgncfiaa.Px.PxU
open Go Go.Proofs

set_option linter.unusedSimpArgs false
set_option linter.unusedVariables false

theorem one_door_within (a0 : Int) (a1 : Int) (a2 : Int) : run k0 200 6 59 Try.f59 s_door_within (a0, a1, a2, ()) = some (r_door_within.enc (wthin a0 a1 a2)) := by
  rw [tree_door_within]
  simp only [r_door_within, Res.bool, wthin, Bool.cond_false_right]
theorem run_door_within (a0 : Int) (a1 : Int) (a2 : Int) : ∃ F d, run k0 F d 59 Try.f59 s_door_within (a0, a1, a2, ()) = some (r_door_within.enc (wthin a0 a1 a2)) := by
  exact ⟨200, 6, one_door_within a0 a1 a2⟩

theorem one_car_within (a0 : Int) (a1 : Int) (a2 : Int) : run k1 200 6 36 Try.f36 s_car_within (a0, a1, a2, ()) = some (r_car_within.enc (wthin a0 a1 a2)) := by
  rw [tree_car_within]
  simp only [r_car_within, Res.bool, wthin, Bool.cond_false_right]
theorem run_car_within (a0 : Int) (a1 : Int) (a2 : Int) : ∃ F d, run k1 F d 36 Try.f36 s_car_within (a0, a1, a2, ()) = some (r_car_within.enc (wthin a0 a1 a2)) := by
  exact ⟨200, 6, one_car_within a0 a1 a2⟩

theorem one_door_times (a0 : Times) : run k2 200 6 56 Try.f56 s_door_times (a0, ()) = some (r_door_times.enc (timesB a0)) := by
  rw [tree_door_times]
  simp only [r_door_times, Res.bool, timesB]
  cases wthin a0.travel 1 60 <;> cases wthin a0.level 1 60 <;> cases wthin a0.open_ 1 60 <;> cases wthin a0.dwell 1 60 <;> cases wthin a0.lead 1 60 <;> cases wthin a0.close 1 60 <;> rfl
theorem run_door_times (a0 : Times) : ∃ F d, run k2 F d 56 Try.f56 s_door_times (a0, ()) = some (r_door_times.enc (timesB a0)) := by
  exact ⟨200, 6, one_door_times a0⟩

theorem one_door_gear (a0 : Gear) : run k3 200 6 54 Try.f54 s_door_gear (a0, ()) = some (r_door_gear.enc (gearB a0)) := by
  rw [tree_door_gear]
  simp only [r_door_gear, Res.bool, gearB, Bool.cond_false_right]
theorem run_door_gear (a0 : Gear) : ∃ F d, run k3 F d 54 Try.f54 s_door_gear (a0, ()) = some (r_door_gear.enc (gearB a0)) := by
  exact ⟨200, 6, one_door_gear a0⟩

theorem one_newelref17_tick (a0 : Int) : run k4 200 6 51 Try.f51 s_newelref17_tick (a0, ()) = some (r_newelref17_tick.enc (tick17 a0)) := by
  rw [tree_newelref17_tick]
  simp only [r_newelref17_tick, Res.bool, tick17, wthin, Bool.cond_false_right, ge_iff_le]
theorem run_newelref17_tick (a0 : Int) : ∃ F d, run k4 F d 51 Try.f51 s_newelref17_tick (a0, ()) = some (r_newelref17_tick.enc (tick17 a0)) := by
  exact ⟨200, 6, one_newelref17_tick a0⟩

theorem one_newelref17_Times (a0 : Times) : run k5 200 6 39 Try.f39 s_newelref17_Times (a0, ()) = some (r_newelref17_Times.enc (timesB a0)) := by
  rw [tree_newelref17_Times]
  refine congrArg (fun b => some (AV.bool b)) ?_
  rw [Bool.eq_iff_iff]
  simp [timesB, tick17, wthin]
  try omega
theorem run_newelref17_Times (a0 : Times) : ∃ F d, run k5 F d 39 Try.f39 s_newelref17_Times (a0, ()) = some (r_newelref17_Times.enc (timesB a0)) := by
  exact ⟨200, 6, one_newelref17_Times a0⟩

theorem one_newelref17_Gear (a0 : Gear) : run k6 200 6 26 Try.f26 s_newelref17_Gear (a0, ()) = some (r_newelref17_Gear.enc (gearB a0)) := by
  rw [tree_newelref17_Gear]
  refine congrArg (fun b => some (AV.bool b)) ?_
  rw [Bool.eq_iff_iff]
  simp [gearB, wthin, _root_.and_assoc]
  try omega
theorem run_newelref17_Gear (a0 : Gear) : ∃ F d, run k6 F d 26 Try.f26 s_newelref17_Gear (a0, ()) = some (r_newelref17_Gear.enc (gearB a0)) := by
  exact ⟨200, 6, one_newelref17_Gear a0⟩

theorem one_newelref17_Step (a0 : Gear) (a1 : Door) (a2 : Bool) (hg : dStepOk2 a0 a1 a2 = true) : run k7 200 6 53 Try.f53 s_newelref17_Step (a0, a1, a2, ()) = some (r_newelref17_Step.enc (stepD a0 a1 a2)) := by
  rw [tree_newelref17_Step]
  simp only [dStepOk2, Bool.and_eq_true, gearB_iff, doorB_iff, timesB_iff] at hg
  have h1 := IntWalk.i64_in (a1.held + 1) (by omega)
  have h2 := IntWalk.i64_in (a1.left - 1) (by omega)
  rw [h1, h2]
  simp only [r_newelref17_Step, Res.bool, Res.int, Res.agg, Res.tup2, Res.tup3, cDoor_enc, cCar_enc, cOutT_enc, cDoorStepped_enc, cCarStepped_enc, cGear_enc, stepD, heldD, goesD, isHeld, door0, Bool.cond_false_right, Bool.cond_true_left]
  all_goals try simp only [beq_eq_false_iff_ne, Bool.cond_eq_ite, bne_iff_ne, ne_eq, Bool.and_eq_true, Bool.or_eq_true, decide_eq_true_eq, beq_iff_eq, Bool.not_eq_true', decide_eq_false_iff_not]
  repeat' split
  all_goals first | rfl | (exfalso; omega) | (simp_all; done) | (simp_all; omega)
theorem run_newelref17_Step (a0 : Gear) (a1 : Door) (a2 : Bool) (hg : dStepOk2 a0 a1 a2 = true) : ∃ F d, run k7 F d 53 Try.f53 s_newelref17_Step (a0, a1, a2, ()) = some (r_newelref17_Step.enc (stepD a0 a1 a2)) := by
  exact ⟨200, 6, one_newelref17_Step a0 a1 a2 hg⟩

theorem one_door_on (a0 : Door) (a1 : Int) (a2 : Int) : run k8 200 6 62 Try.f62 s_door_on (a0, a1, a2, ()) = some (r_door_on.enc (onD a0 a1 a2)) := by
  rw [tree_door_on]
  simp only [r_door_on, Res.bool, Res.int, Res.agg, Res.tup2, Res.tup3, cDoor_enc, cCar_enc, cOutT_enc, cDoorStepped_enc, cCarStepped_enc, cGear_enc, onD, Bool.cond_false_right, Bool.cond_true_left]
  all_goals try simp only [beq_eq_false_iff_ne, Bool.cond_eq_ite, bne_iff_ne, ne_eq, Bool.and_eq_true, Bool.or_eq_true, decide_eq_true_eq, beq_iff_eq, Bool.not_eq_true', decide_eq_false_iff_not]
  repeat' split
  all_goals first | rfl | (exfalso; omega) | (simp_all; done) | (simp_all; omega)
theorem run_door_on (a0 : Door) (a1 : Int) (a2 : Int) : ∃ F d, run k8 F d 62 Try.f62 s_door_on (a0, a1, a2, ()) = some (r_door_on.enc (onD a0 a1 a2)) := by
  exact ⟨200, 6, one_door_on a0 a1 a2⟩

theorem one_door_phases_1 (a0 : Gear) (a1 : Door) (a2 : Bool) : run k9 200 6 60 Try.f60 s_door_phases_1 (a0, a1, a2, ()) = some (r_door_phases_1.enc (phase1 a0 a1 a2)) := by
  rw [tree_door_phases_1]
  simp only [r_door_phases_1, Res.bool, Res.int, Res.agg, Res.tup2, Res.tup3, cDoor_enc, cCar_enc, cOutT_enc, cDoorStepped_enc, cCarStepped_enc, cGear_enc, phase1, Bool.cond_false_right, Bool.cond_true_left]
  all_goals try simp only [beq_eq_false_iff_ne, Bool.cond_eq_ite, bne_iff_ne, ne_eq, Bool.and_eq_true, Bool.or_eq_true, decide_eq_true_eq, beq_iff_eq, Bool.not_eq_true', decide_eq_false_iff_not]
  repeat' split
  all_goals first | rfl | (exfalso; omega) | (simp_all; done) | (simp_all; omega)
theorem run_door_phases_1 (a0 : Gear) (a1 : Door) (a2 : Bool) : ∃ F d, run k9 F d 60 Try.f60 s_door_phases_1 (a0, a1, a2, ()) = some (r_door_phases_1.enc (phase1 a0 a1 a2)) := by
  exact ⟨200, 6, one_door_phases_1 a0 a1 a2⟩

theorem one_door_phases_2 (a0 : Gear) (a1 : Door) (a2 : Bool) : run k10 200 6 61 Try.f61 s_door_phases_2 (a0, a1, a2, ()) = some (r_door_phases_2.enc (phase2 a0 a1 a2)) := by
  rw [tree_door_phases_2]
  simp only [r_door_phases_2, Res.bool, Res.int, Res.agg, Res.tup2, Res.tup3, cDoor_enc, cCar_enc, cOutT_enc, cDoorStepped_enc, cCarStepped_enc, cGear_enc, phase2, Bool.cond_false_right, Bool.cond_true_left]
  all_goals try simp only [beq_eq_false_iff_ne, Bool.cond_eq_ite, bne_iff_ne, ne_eq, Bool.and_eq_true, Bool.or_eq_true, decide_eq_true_eq, beq_iff_eq, Bool.not_eq_true', decide_eq_false_iff_not]
  repeat' split
  all_goals first | rfl | (exfalso; omega) | (simp_all; done) | (simp_all; omega)
theorem run_door_phases_2 (a0 : Gear) (a1 : Door) (a2 : Bool) : ∃ F d, run k10 F d 61 Try.f61 s_door_phases_2 (a0, a1, a2, ()) = some (r_door_phases_2.enc (phase2 a0 a1 a2)) := by
  exact ⟨200, 6, one_door_phases_2 a0 a1 a2⟩

theorem one_door_open (a0 : Gear) (a1 : Door) (a2 : Bool) : run k11 200 6 63 Try.f63 s_door_open (a0, a1, a2, ()) = some (r_door_open.enc (openD a0 a1 a2)) := by
  rw [tree_door_open]
  simp only [r_door_open, Res.bool, Res.int, Res.agg, Res.tup2, Res.tup3, cDoor_enc, cCar_enc, cOutT_enc, cDoorStepped_enc, cCarStepped_enc, cGear_enc, openD, Bool.cond_false_right, Bool.cond_true_left]
  all_goals try simp only [beq_eq_false_iff_ne, Bool.cond_eq_ite, bne_iff_ne, ne_eq, Bool.and_eq_true, Bool.or_eq_true, decide_eq_true_eq, beq_iff_eq, Bool.not_eq_true', decide_eq_false_iff_not]
  repeat' split
  all_goals first | rfl | (exfalso; omega) | (simp_all; done) | (simp_all; omega)
theorem run_door_open (a0 : Gear) (a1 : Door) (a2 : Bool) : ∃ F d, run k11 F d 63 Try.f63 s_door_open (a0, a1, a2, ()) = some (r_door_open.enc (openD a0 a1 a2)) := by
  exact ⟨200, 6, one_door_open a0 a1 a2⟩

theorem one_door_closing (a0 : Gear) (a1 : Door) (a2 : Bool) : run k12 200 6 64 Try.f64 s_door_closing (a0, a1, a2, ()) = some (r_door_closing.enc (closingD a0 a1 a2)) := by
  rw [tree_door_closing]
  simp only [r_door_closing, Res.bool, Res.int, Res.agg, Res.tup2, Res.tup3, cDoor_enc, cCar_enc, cOutT_enc, cDoorStepped_enc, cCarStepped_enc, cGear_enc, closingD, Bool.cond_false_right, Bool.cond_true_left]
  all_goals try simp only [beq_eq_false_iff_ne, Bool.cond_eq_ite, bne_iff_ne, ne_eq, Bool.and_eq_true, Bool.or_eq_true, decide_eq_true_eq, beq_iff_eq, Bool.not_eq_true', decide_eq_false_iff_not]
  repeat' split
  all_goals first | rfl | (exfalso; omega) | (simp_all; done) | (simp_all; omega)
theorem run_door_closing (a0 : Gear) (a1 : Door) (a2 : Bool) : ∃ F d, run k12 F d 64 Try.f64 s_door_closing (a0, a1, a2, ()) = some (r_door_closing.enc (closingD a0 a1 a2)) := by
  exact ⟨200, 6, one_door_closing a0 a1 a2⟩

theorem one_door_Check_0 (l : Int) (h : Int) : run k14 200 6 55 Try.f55 s_door_Check ((⟨0, l, h⟩ : Door), ()) = some (r_door_Check.enc (door_Check (⟨0, l, h⟩ : Door))) := by
  rw [tree_door_Check_0]
  simp only [r_door_Check, Res.bool, Res.int, Res.agg, Res.tup2, Res.tup3, cDoor_enc, cCar_enc, cOutT_enc, cDoorStepped_enc, cCarStepped_enc, cGear_enc, door_Check, errOf, doorB, mostOf, wthin, Bool.cond_false_right, Bool.cond_true_left]
  all_goals try simp only [beq_eq_false_iff_ne, Bool.cond_eq_ite, bne_iff_ne, ne_eq, Bool.and_eq_true, Bool.or_eq_true, decide_eq_true_eq, beq_iff_eq, Bool.not_eq_true', decide_eq_false_iff_not]
  repeat' split
  all_goals first | rfl | (exfalso; omega) | (simp_all; done) | (simp_all; omega)
theorem one_door_Check_1 (l : Int) (h : Int) : run k14 200 6 55 Try.f55 s_door_Check ((⟨1, l, h⟩ : Door), ()) = some (r_door_Check.enc (door_Check (⟨1, l, h⟩ : Door))) := by
  rw [tree_door_Check_1]
  simp only [r_door_Check, Res.bool, Res.int, Res.agg, Res.tup2, Res.tup3, cDoor_enc, cCar_enc, cOutT_enc, cDoorStepped_enc, cCarStepped_enc, cGear_enc, door_Check, errOf, doorB, mostOf, wthin, Bool.cond_false_right, Bool.cond_true_left]
  all_goals try simp only [beq_eq_false_iff_ne, Bool.cond_eq_ite, bne_iff_ne, ne_eq, Bool.and_eq_true, Bool.or_eq_true, decide_eq_true_eq, beq_iff_eq, Bool.not_eq_true', decide_eq_false_iff_not]
  repeat' split
  all_goals first | rfl | (exfalso; omega) | (simp_all; done) | (simp_all; omega)
theorem one_door_Check_2 (l : Int) (h : Int) : run k14 200 6 55 Try.f55 s_door_Check ((⟨2, l, h⟩ : Door), ()) = some (r_door_Check.enc (door_Check (⟨2, l, h⟩ : Door))) := by
  rw [tree_door_Check_2]
  simp only [r_door_Check, Res.bool, Res.int, Res.agg, Res.tup2, Res.tup3, cDoor_enc, cCar_enc, cOutT_enc, cDoorStepped_enc, cCarStepped_enc, cGear_enc, door_Check, errOf, doorB, mostOf, wthin, Bool.cond_false_right, Bool.cond_true_left]
  all_goals try simp only [beq_eq_false_iff_ne, Bool.cond_eq_ite, bne_iff_ne, ne_eq, Bool.and_eq_true, Bool.or_eq_true, decide_eq_true_eq, beq_iff_eq, Bool.not_eq_true', decide_eq_false_iff_not]
  repeat' split
  all_goals first | rfl | (exfalso; omega) | (simp_all; done) | (simp_all; omega)
theorem one_door_Check_3 (l : Int) (h : Int) : run k14 200 6 55 Try.f55 s_door_Check ((⟨3, l, h⟩ : Door), ()) = some (r_door_Check.enc (door_Check (⟨3, l, h⟩ : Door))) := by
  rw [tree_door_Check_3]
  simp only [r_door_Check, Res.bool, Res.int, Res.agg, Res.tup2, Res.tup3, cDoor_enc, cCar_enc, cOutT_enc, cDoorStepped_enc, cCarStepped_enc, cGear_enc, door_Check, errOf, doorB, mostOf, wthin, Bool.cond_false_right, Bool.cond_true_left]
  all_goals try simp only [beq_eq_false_iff_ne, Bool.cond_eq_ite, bne_iff_ne, ne_eq, Bool.and_eq_true, Bool.or_eq_true, decide_eq_true_eq, beq_iff_eq, Bool.not_eq_true', decide_eq_false_iff_not]
  repeat' split
  all_goals first | rfl | (exfalso; omega) | (simp_all; done) | (simp_all; omega)
theorem one_door_Check_m (n : Nat) (l : Int) (h : Int) : run k14 200 6 55 Try.f55 s_door_Check ((⟨(Int.ofNat (n + 4)), l, h⟩ : Door), ()) = some (r_door_Check.enc (door_Check (⟨(Int.ofNat (n + 4)), l, h⟩ : Door))) := by
  rw [tree_door_Check_m]
  try rfl
theorem one_door_Check_n (n : Nat) (l : Int) (h : Int) : run k14 200 6 55 Try.f55 s_door_Check ((⟨(Int.negSucc n), l, h⟩ : Door), ()) = some (r_door_Check.enc (door_Check (⟨(Int.negSucc n), l, h⟩ : Door))) := by
  rw [tree_door_Check_n]
  try rfl
theorem run_door_Check (a0 : Door) : ∃ F d, run k14 F d 55 Try.f55 s_door_Check (a0, ()) = some (r_door_Check.enc (door_Check a0)) := by
  refine ⟨200, 6, ?_⟩
  obtain ⟨p, l, h⟩ := a0
  rcases p with n | n
  · rcases n with _ | _ | _ | _ | n
    · exact one_door_Check_0 l h
    · exact one_door_Check_1 l h
    · exact one_door_Check_2 l h
    · exact one_door_Check_3 l h
    · exact one_door_Check_m n l h
  · exact one_door_Check_n n l h

theorem one_door_Ask (a0 : Times) (a1 : Door) : run k15 200 6 49 Try.f49 s_door_Ask (a0, a1, ()) = some (r_door_Ask.enc (door_Ask a0 a1)) := by
  rw [tree_door_Ask]
  simp only [r_door_Ask, Res.bool, Res.int, Res.agg, Res.tup2, Res.tup3, cDoor_enc, cCar_enc, cOutT_enc, cDoorStepped_enc, cCarStepped_enc, cGear_enc, door_Ask, door_Check, errOf, askD, door0]
  cases timesB a0 <;> cases doorB a1 <;> cases (a1.phase == 0) <;> rfl
theorem run_door_Ask (a0 : Times) (a1 : Door) : ∃ F d, run k15 F d 49 Try.f49 s_door_Ask (a0, a1, ()) = some (r_door_Ask.enc (door_Ask a0 a1)) := by
  exact ⟨200, 6, one_door_Ask a0 a1⟩

theorem one_door_Step_0 (a0 : Gear) (a2 : Bool) (l : Int) (h : Int) : run k16 200 6 50 Try.f50 s_door_Step (a0, (⟨0, l, h⟩ : Door), a2, ()) = some (r_door_Step.enc (door_Step a0 (⟨0, l, h⟩ : Door) a2)) := by
  rw [tree_door_Step_0]
  simp only [r_door_Step, Res.bool, Res.int, Res.agg, Res.tup2, Res.tup3, cDoor_enc, cCar_enc, cOutT_enc, cDoorStepped_enc, cCarStepped_enc, cGear_enc, door_Step, door_Check, errOf, dStepOk]
  cases gearB a0 <;> cases doorB _ <;> rfl
theorem one_door_Step_1 (a0 : Gear) (a2 : Bool) (l : Int) (h : Int) : run k16 200 6 50 Try.f50 s_door_Step (a0, (⟨1, l, h⟩ : Door), a2, ()) = some (r_door_Step.enc (door_Step a0 (⟨1, l, h⟩ : Door) a2)) := by
  rw [tree_door_Step_1]
  simp only [r_door_Step, Res.bool, Res.int, Res.agg, Res.tup2, Res.tup3, cDoor_enc, cCar_enc, cOutT_enc, cDoorStepped_enc, cCarStepped_enc, cGear_enc, door_Step, door_Check, errOf, dStepOk]
  cases hg : gearB a0 <;> cases hd : doorB _ <;> try rfl
  simp only [gearB_iff, doorB_iff, timesB_iff] at hg hd
  have h1 := IntWalk.i64_in (h + 1) (by omega)
  have h2 := IntWalk.i64_in (l - 1) (by omega)
  simp only [phase2, openD, closingD, onD, h1, h2, stepD, heldD, goesD, isHeld, door0, Bool.cond_false_right, Bool.cond_true_left]
  clear h1 h2
  cases a2 <;> simp only [beq_eq_false_iff_ne, Bool.cond_eq_ite, bne_iff_ne, ne_eq, Bool.and_eq_true, Bool.or_eq_true, decide_eq_true_eq, beq_iff_eq, Bool.not_eq_true', decide_eq_false_iff_not]
  all_goals simp
  all_goals repeat' split
  all_goals first | rfl | (exfalso; omega) | (simp_all; done) | (simp_all; omega)
theorem one_door_Step_2 (a0 : Gear) (a2 : Bool) (l : Int) (h : Int) : run k16 200 6 50 Try.f50 s_door_Step (a0, (⟨2, l, h⟩ : Door), a2, ()) = some (r_door_Step.enc (door_Step a0 (⟨2, l, h⟩ : Door) a2)) := by
  rw [tree_door_Step_2]
  simp only [r_door_Step, Res.bool, Res.int, Res.agg, Res.tup2, Res.tup3, cDoor_enc, cCar_enc, cOutT_enc, cDoorStepped_enc, cCarStepped_enc, cGear_enc, door_Step, door_Check, errOf, dStepOk]
  cases hg : gearB a0 <;> cases hd : doorB _ <;> try rfl
  simp only [gearB_iff, doorB_iff, timesB_iff] at hg hd
  have h1 := IntWalk.i64_in (h + 1) (by omega)
  have h2 := IntWalk.i64_in (l - 1) (by omega)
  simp only [phase2, openD, closingD, onD, h1, h2, stepD, heldD, goesD, isHeld, door0, Bool.cond_false_right, Bool.cond_true_left]
  clear h1 h2
  cases a2 <;> simp only [beq_eq_false_iff_ne, Bool.cond_eq_ite, bne_iff_ne, ne_eq, Bool.and_eq_true, Bool.or_eq_true, decide_eq_true_eq, beq_iff_eq, Bool.not_eq_true', decide_eq_false_iff_not]
  all_goals simp
  all_goals repeat' split
  all_goals first | rfl | (exfalso; omega) | (simp_all; done) | (simp_all; omega)
theorem one_door_Step_3 (a0 : Gear) (a2 : Bool) (l : Int) (h : Int) : run k16 200 6 50 Try.f50 s_door_Step (a0, (⟨3, l, h⟩ : Door), a2, ()) = some (r_door_Step.enc (door_Step a0 (⟨3, l, h⟩ : Door) a2)) := by
  rw [tree_door_Step_3]
  simp only [r_door_Step, Res.bool, Res.int, Res.agg, Res.tup2, Res.tup3, cDoor_enc, cCar_enc, cOutT_enc, cDoorStepped_enc, cCarStepped_enc, cGear_enc, door_Step, door_Check, errOf, dStepOk]
  cases hg : gearB a0 <;> cases hd : doorB _ <;> try rfl
  simp only [gearB_iff, doorB_iff, timesB_iff] at hg hd
  have h1 := IntWalk.i64_in (h + 1) (by omega)
  have h2 := IntWalk.i64_in (l - 1) (by omega)
  simp only [phase2, openD, closingD, onD, h1, h2, stepD, heldD, goesD, isHeld, door0, Bool.cond_false_right, Bool.cond_true_left]
  clear h1 h2
  cases a2 <;> simp only [beq_eq_false_iff_ne, Bool.cond_eq_ite, bne_iff_ne, ne_eq, Bool.and_eq_true, Bool.or_eq_true, decide_eq_true_eq, beq_iff_eq, Bool.not_eq_true', decide_eq_false_iff_not]
  all_goals simp
  all_goals repeat' split
  all_goals first | rfl | (exfalso; omega) | (simp_all; done) | (simp_all; omega)
theorem one_door_Step_m (n : Nat) (a0 : Gear) (a2 : Bool) (l : Int) (h : Int) : run k16 200 6 50 Try.f50 s_door_Step (a0, (⟨(Int.ofNat (n + 4)), l, h⟩ : Door), a2, ()) = some (r_door_Step.enc (door_Step a0 (⟨(Int.ofNat (n + 4)), l, h⟩ : Door) a2)) := by
  rw [tree_door_Step_m]
  have hd : doorB ⟨Int.ofNat (n + 4), l, h⟩ = false := rfl
  simp only [r_door_Step, Res.bool, Res.int, Res.agg, Res.tup2, Res.tup3, cDoor_enc, cCar_enc, cOutT_enc, cDoorStepped_enc, cCarStepped_enc, cGear_enc, door_Step, dStepOk, errOf]
  rw [hd]
  cases gearB a0 <;> rfl
theorem one_door_Step_n (n : Nat) (a0 : Gear) (a2 : Bool) (l : Int) (h : Int) : run k16 200 6 50 Try.f50 s_door_Step (a0, (⟨(Int.negSucc n), l, h⟩ : Door), a2, ()) = some (r_door_Step.enc (door_Step a0 (⟨(Int.negSucc n), l, h⟩ : Door) a2)) := by
  rw [tree_door_Step_n]
  have hd : doorB ⟨Int.negSucc n, l, h⟩ = false := rfl
  simp only [r_door_Step, Res.bool, Res.int, Res.agg, Res.tup2, Res.tup3, cDoor_enc, cCar_enc, cOutT_enc, cDoorStepped_enc, cCarStepped_enc, cGear_enc, door_Step, dStepOk, errOf]
  rw [hd]
  cases gearB a0 <;> rfl
theorem run_door_Step (a0 : Gear) (a1 : Door) (a2 : Bool) : ∃ F d, run k16 F d 50 Try.f50 s_door_Step (a0, a1, a2, ()) = some (r_door_Step.enc (door_Step a0 a1 a2)) := by
  refine ⟨200, 6, ?_⟩
  obtain ⟨p, l, h⟩ := a1
  rcases p with n | n
  · rcases n with _ | _ | _ | _ | n
    · exact one_door_Step_0 a0 a2 l h
    · exact one_door_Step_1 a0 a2 l h
    · exact one_door_Step_2 a0 a2 l h
    · exact one_door_Step_3 a0 a2 l h
    · exact one_door_Step_m n a0 a2 l h
  · exact one_door_Step_n n a0 a2 l h

theorem one_door_Rest (a0 : Gear) (a1 : Door) : run k17 200 6 46 Try.f46 s_door_Rest (a0, a1, ()) = some (r_door_Rest.enc (door_Rest a0 a1)) := by
  rw [tree_door_Rest]
  simp only [r_door_Rest, Res.bool, Res.int, Res.agg, Res.tup2, Res.tup3, cDoor_enc, cCar_enc, cOutT_enc, cDoorStepped_enc, cCarStepped_enc, cGear_enc, door_Rest, door_Check, errOf, dStepOk]
  cases hg : gearB a0 <;> cases hd : doorB a1 <;> try rfl
  simp only [gearB_iff, doorB_iff, timesB_iff] at hg hd
  simp only [IntWalk.i64_in (a0.times.open_ + a0.dwell) (by omega), IntWalk.i64_in (a0.times.open_ + a0.dwell + a0.times.close) (by omega), IntWalk.i64_in (a0.most - a1.held) (by omega), restD, IntWalk.i64_in (a0.dwell + a0.times.close) (by omega)]
  have hm : a0.most > a1.held → 0 ≤ (a0.most - a1.held) * (a0.times.open_ + a0.dwell + a0.times.close) ∧ (a0.most - a1.held) * (a0.times.open_ + a0.dwell + a0.times.close) ≤ 1000000 := fun h => ⟨Int.mul_nonneg (by omega) (by omega), Int.le_trans (Int.mul_le_mul (by omega : a0.most - a1.held ≤ 60) (by omega : a0.times.open_ + a0.dwell + a0.times.close ≤ 420) (by omega) (by omega)) (by omega)⟩
  have hz : (bif decide (0 > a0.most - a1.held) then 0 else a0.most - a1.held) * (a0.times.open_ + a0.dwell + a0.times.close) = bif decide (a0.most > a1.held) then (a0.most - a1.held) * (a0.times.open_ + a0.dwell + a0.times.close) else 0 := by
    simp only [beq_eq_false_iff_ne, Bool.cond_eq_ite, bne_iff_ne, ne_eq, Bool.and_eq_true, Bool.or_eq_true, decide_eq_true_eq, beq_iff_eq, Bool.not_eq_true', decide_eq_false_iff_not]
    split
    · rw [if_neg (by omega)]; omega
    · split
      · rfl
      · rw [show a0.most - a1.held = 0 by omega]; omega
  rw [hz]
  generalize (a0.most - a1.held) * (a0.times.open_ + a0.dwell + a0.times.close) = m at hm
  simp only [IntKind.wrap_i64, beq_eq_false_iff_ne, Bool.cond_eq_ite, bne_iff_ne, ne_eq, Bool.and_eq_true, Bool.or_eq_true, decide_eq_true_eq, beq_iff_eq, Bool.not_eq_true', decide_eq_false_iff_not]
  simp
  repeat' split
  all_goals first | rfl | (exfalso; omega) | (simp_all; done) | (simp_all; omega) | omega
theorem run_door_Rest (a0 : Gear) (a1 : Door) : ∃ F d, run k17 F d 46 Try.f46 s_door_Rest (a0, a1, ()) = some (r_door_Rest.enc (door_Rest a0 a1)) := by
  exact ⟨200, 6, one_door_Rest a0 a1⟩

theorem one_car_Check (a0 : Int) (a1 : Car) : run k18 200 6 47 Try.f47 s_car_Check (a0, a1, ()) = some (r_car_Check.enc (car_Check a0 a1)) := by
  rw [tree_car_Check]
  simp only [r_car_Check, Res.int, car_Check, carB, door_Check]
  cases h1 : wthin a0 2 64
  · cases a1.phase == 0 <;> cases a1.phase == 1 <;> cases a1.phase == 2 <;> cases a1.phase == 3 <;> rfl
  rw [wthin_iff] at h1
  rw [IntWalk.i64_in (a0 - 1) (by omega)]
  cases h2 : wthin a1.floor 0 (a0 - 1)
  · cases a1.phase == 0 <;> cases a1.phase == 1 <;> cases a1.phase == 2 <;> cases a1.phase == 3 <;> rfl
  rw [wthin_iff] at h2
  cases hp0 : (a1.phase == 0)
  case true => cases doorB a1.door <;> cases a1.dir == 0 <;> cases a1.left == 0 <;> cases a1.door.phase == 0 <;> rfl
  cases hp1 : (a1.phase == 1)
  case true =>
    by_cases hd : a1.dir = 1 ∨ a1.dir = -1
    · rw [IntWalk.i64_in (a1.floor + a1.dir) (by omega)]
      cases doorB a1.door <;> cases a1.dir == 1 <;> cases a1.dir == -1 <;> cases wthin (a1.floor + a1.dir) 0 (a0 - 1) <;> cases wthin a1.left 1 60 <;> cases a1.door.phase == 0 <;> rfl
    · rw [show (a1.dir == 1) = false by simp; omega, show (a1.dir == -1) = false by simp; omega]
      cases doorB a1.door <;> rfl
  cases hp2 : (a1.phase == 2)
  case true => cases doorB a1.door <;> cases a1.dir == 0 <;> cases wthin a1.left 1 60 <;> cases a1.door.phase == 0 <;> rfl
  cases a1.phase == 3 <;> cases doorB a1.door <;> cases a1.dir == 0 <;> cases a1.left == 0 <;> cases a1.door.phase == 0 <;> rfl
theorem run_car_Check (a0 : Int) (a1 : Car) : ∃ F d, run k18 F d 47 Try.f47 s_car_Check (a0, a1, ()) = some (r_car_Check.enc (car_Check a0 a1)) := by
  exact ⟨200, 6, one_car_Check a0 a1⟩

theorem one_car_check (a0 : Gear) (a1 : Car) : run k19 200 6 35 Try.f35 s_car_check (a0, a1, ()) = some (r_car_check.enc (car_check a0 a1)) := by
  rw [tree_car_check]
  have hd : doorB ⟨0, 0, 0⟩ = true := rfl
  simp only [r_car_check, Res.int, car_check, carOk, car_Check, dStepOk, hd, Bool.and_true]
  cases gearB a0 <;> cases carB a0.floors a1 <;> rfl
theorem run_car_check (a0 : Gear) (a1 : Car) : ∃ F d, run k19 F d 35 Try.f35 s_car_check (a0, a1, ()) = some (r_car_check.enc (car_check a0 a1)) := by
  exact ⟨200, 6, one_car_check a0 a1⟩

theorem one_car_Step (a0 : Gear) (a1 : Car) (a2 : Order) : run k20 200 6 23 Try.f23 s_car_Step (a0, a1, a2, ()) = some (r_car_Step.enc (car_Step a0 a1 a2)) := by
  rw [tree_car_Step]
  obtain ⟨fl, dr, ph, lf, ⟨dp, dl, dh⟩⟩ := a1
  obtain ⟨cmd, held, fault⟩ := a2
  simp only [r_car_Step, car_Step, stepOk, car_check, errOf]
  cases hg : carOk a0 ⟨fl, dr, ph, lf, ⟨dp, dl, dh⟩⟩
  case false => rfl
  cases hC : wthin cmd 0 3
  case false => rfl
  cases fault
  case true => rfl
  simp only [carOk, Bool.and_eq_true, carB_iff, wthin_iff] at hg hC
  obtain ⟨hG, hF, hf, hD, hP⟩ := hg
  have hS : dStepOk a0 ⟨dp, dl, dh⟩ = true := by simp only [dStepOk, hG, hD, Bool.and_self]
  have hT : timesB a0.times = true := by simp only [gearB_iff] at hG; exact hG.1
  have hDD := hD
  simp only [gearB_iff, timesB_iff, doorB_iff] at hG hD
  rcases hP with ⟨rfl, rfl, rfl, rfl⟩ | ⟨rfl, hdr, hlo, hhi, hl1, hl2, rfl⟩ | ⟨rfl, rfl, hl1, hl2, rfl⟩ | ⟨rfl, rfl, rfl, hd0⟩
  all_goals simp only [bne_self_eq_false, Int.reduceBEq, Bool.cond_true, Bool.cond_false, cond_true, cond_false, Bool.not_true, Bool.not_false, Bool.and_self, Bool.true_and, hS, hT, hDD]
  · obtain ⟨rfl, rfl⟩ : dl = 0 ∧ dh = 0 := by omega
    obtain rfl | rfl | rfl | rfl : cmd = 0 ∨ cmd = 1 ∨ cmd = 2 ∨ cmd = 3 := by omega
    all_goals simp only [bne_self_eq_false, Int.reduceBEq, Bool.cond_true, Bool.cond_false, cond_true, cond_false, Bool.not_true, Bool.not_false, Bool.and_self, Bool.true_and, hS, hT, hDD]
    all_goals (
      try simp only [IntWalk.i64_in (fl + 1) (by omega), IntWalk.i64_in (fl + -1) (by omega), IntWalk.i64_in (a0.times.travel - 1) (by omega), IntWalk.i64_in (a0.times.level - 1) (by omega), IntWalk.i64_in (a0.floors - 1) (by omega)]
      simp only [Res.bool, Res.int, Res.agg, Res.tup2, Res.tup3, cDoor_enc, cCar_enc, cOutT_enc, cDoorStepped_enc, cCarStepped_enc, cGear_enc, stepC, begunC, beganC, tickC, door0, askD, wthin, Bool.cond_false_right, Bool.cond_true_left]
      simp
      all_goals try simp only [beq_eq_false_iff_ne, Bool.cond_eq_ite, bne_iff_ne, ne_eq, Bool.and_eq_true, Bool.or_eq_true, decide_eq_true_eq, beq_iff_eq, Bool.not_eq_true', decide_eq_false_iff_not]
      all_goals repeat' split
      all_goals first | rfl | (exfalso; omega) | (simp_all; done) | (simp_all; omega))
  · obtain ⟨rfl, rfl⟩ : dl = 0 ∧ dh = 0 := by omega
    simp only [IntWalk.i64_in (fl + dr) (by omega), IntWalk.i64_in (lf - 1) (by omega)]
    simp only [Res.bool, Res.int, Res.agg, Res.tup2, Res.tup3, cDoor_enc, cCar_enc, cOutT_enc, cDoorStepped_enc, cCarStepped_enc, cGear_enc, stepC, begunC, beganC, tickC, door0, askD, wthin, Bool.cond_false_right, Bool.cond_true_left]
    simp
    all_goals try simp only [beq_eq_false_iff_ne, Bool.cond_eq_ite, bne_iff_ne, ne_eq, Bool.and_eq_true, Bool.or_eq_true, decide_eq_true_eq, beq_iff_eq, Bool.not_eq_true', decide_eq_false_iff_not]
    all_goals repeat' split
    all_goals first | rfl | (exfalso; omega) | (simp_all; done) | (simp_all; omega)
  · obtain ⟨rfl, rfl⟩ : dl = 0 ∧ dh = 0 := by omega
    simp only [IntWalk.i64_in (lf - 1) (by omega)]
    simp only [Res.bool, Res.int, Res.agg, Res.tup2, Res.tup3, cDoor_enc, cCar_enc, cOutT_enc, cDoorStepped_enc, cCarStepped_enc, cGear_enc, stepC, begunC, beganC, tickC, door0, askD, wthin, Bool.cond_false_right, Bool.cond_true_left]
    simp
    all_goals try simp only [beq_eq_false_iff_ne, Bool.cond_eq_ite, bne_iff_ne, ne_eq, Bool.and_eq_true, Bool.or_eq_true, decide_eq_true_eq, beq_iff_eq, Bool.not_eq_true', decide_eq_false_iff_not]
    all_goals repeat' split
    all_goals first | rfl | (exfalso; omega) | (simp_all; done) | (simp_all; omega)
  · simp only [Res.bool, Res.int, Res.agg, Res.tup2, Res.tup3, cDoor_enc, cCar_enc, cOutT_enc, cDoorStepped_enc, cCarStepped_enc, cGear_enc, stepC, begunC, beganC, tickC, door0, askD, wthin, Bool.cond_false_right, Bool.cond_true_left]
    simp
    generalize stepD a0 ⟨dp, dl, dh⟩ held = sd
    all_goals try simp only [beq_eq_false_iff_ne, Bool.cond_eq_ite, bne_iff_ne, ne_eq, Bool.and_eq_true, Bool.or_eq_true, decide_eq_true_eq, beq_iff_eq, Bool.not_eq_true', decide_eq_false_iff_not]
    all_goals repeat' split
    all_goals first | rfl | (exfalso; omega) | (simp_all; done) | (simp_all; omega)
theorem run_car_Step (a0 : Gear) (a1 : Car) (a2 : Order) : ∃ F d, run k20 F d 23 Try.f23 s_car_Step (a0, a1, a2, ()) = some (r_car_Step.enc (car_Step a0 a1 a2)) := by
  exact ⟨200, 6, one_car_Step a0 a1 a2⟩

theorem one_car_Rest (a0 : Gear) (a1 : Car) : run k21 200 6 42 Try.f42 s_car_Rest (a0, a1, ()) = some (r_car_Rest.enc (car_Rest a0 a1)) := by
  rw [tree_car_Rest]
  obtain ⟨fl, dr, ph, lf, ⟨dp, dl, dh⟩⟩ := a1
  simp only [r_car_Rest, Res.tup2, Res.int, car_Rest, car_check]
  cases hg : carOk a0 ⟨fl, dr, ph, lf, ⟨dp, dl, dh⟩⟩
  case false => rfl
  simp only [carOk, Bool.and_eq_true, carB_iff] at hg
  obtain ⟨hG, hF, hf, hD, hP⟩ := hg
  have hz := restD_bound a0 ⟨dp, dl, dh⟩ hG hD
  have hT : timesB a0.times = true := by simp only [gearB_iff] at hG; exact hG.1
  have hy := restD_bound a0 ⟨1, a0.times.open_, 0⟩ hG (by rw [timesB_iff] at hT; rw [doorB_iff]; simp; omega)
  have hE : doorB ⟨1, a0.times.open_, 0⟩ = true := by rw [timesB_iff] at hT; rw [doorB_iff]; simp; omega
  simp only [dStepOk, hG, hD, hT, hE, Bool.and_self, cond_true, askD, restC, errOf, bne_self_eq_false, cond_false]
  rcases hP with ⟨rfl, rfl, rfl, rfl⟩ | ⟨rfl, hdr, hlo, hhi, hl1, hl2, rfl⟩ | ⟨rfl, rfl, hl1, hl2, rfl⟩ | ⟨rfl, rfl, rfl, hd0⟩ <;> dsimp only at hz hy <;> simp [hG, hE] <;> first | (rw [IntWalk.i64_in _ (by omega)]; done) | (rw [IntWalk.i64_in _ (by omega)]; omega)
theorem run_car_Rest (a0 : Gear) (a1 : Car) : ∃ F d, run k21 F d 42 Try.f42 s_car_Rest (a0, a1, ()) = some (r_car_Rest.enc (car_Rest a0 a1)) := by
  exact ⟨200, 6, one_car_Rest a0 a1⟩

theorem one_newelref18_Step (a0 : Gear) (a1 : Car) (a2 : Order) (hg : stepOk a0 a1 a2 = true) : run k22 200 6 40 Try.f40 s_newelref18_Step (a0, a1, a2, ()) = some (r_newelref18_Step.enc (stepC a0 a1 a2)) := by
  rw [tree_newelref18_Step]
  obtain ⟨fl, dr, ph, lf, ⟨dp, dl, dh⟩⟩ := a1
  obtain ⟨cmd, held, fault⟩ := a2
  simp only [stepOk, carOk, Bool.and_eq_true, carB_iff, wthin_iff] at hg
  obtain ⟨⟨hG, hF, hf, hD, hP⟩, hC⟩ := hg
  have hS : dStepOk2 a0 ⟨dp, dl, dh⟩ held = true := by simp only [dStepOk2, hG, hD, Bool.and_self]
  rw [hS]
  simp only [gearB_iff, timesB_iff, doorB_iff] at hG hD
  simp only [IntWalk.i64_in (fl + 1) (by omega), IntWalk.i64_in (fl + -1) (by omega), IntWalk.i64_in (a0.times.travel - 1) (by omega), IntWalk.i64_in (a0.times.level - 1) (by omega), IntWalk.i64_in (fl + dr) (by omega), IntWalk.i64_in (lf - 1) (by omega)]
  simp only [r_newelref18_Step, Res.bool, Res.int, Res.agg, Res.tup2, Res.tup3, cDoor_enc, cCar_enc, cOutT_enc, cDoorStepped_enc, cCarStepped_enc, cGear_enc, stepC, begunC, beganC, tickC, door0, Bool.cond_false_right, Bool.cond_true_left]
  cases fault
  case true => rfl
  rcases hP with ⟨rfl, rfl, rfl, rfl⟩ | ⟨rfl, hdr, hlo, hhi, hl1, hl2, rfl⟩ | ⟨rfl, rfl, hl1, hl2, rfl⟩ | ⟨rfl, rfl, rfl, hd0⟩
  · obtain ⟨rfl, rfl⟩ : dl = 0 ∧ dh = 0 := by omega
    simp
    all_goals try simp only [beq_eq_false_iff_ne, Bool.cond_eq_ite, bne_iff_ne, ne_eq, Bool.and_eq_true, Bool.or_eq_true, decide_eq_true_eq, beq_iff_eq, Bool.not_eq_true', decide_eq_false_iff_not]
    all_goals repeat' split
    all_goals first | rfl | (exfalso; omega) | (simp_all; done) | (simp_all; omega)
  · obtain ⟨rfl, rfl⟩ : dl = 0 ∧ dh = 0 := by omega
    simp
    all_goals try simp only [beq_eq_false_iff_ne, Bool.cond_eq_ite, bne_iff_ne, ne_eq, Bool.and_eq_true, Bool.or_eq_true, decide_eq_true_eq, beq_iff_eq, Bool.not_eq_true', decide_eq_false_iff_not]
    all_goals repeat' split
    all_goals first | rfl | (exfalso; omega) | (simp_all; done) | (simp_all; omega)
  · obtain ⟨rfl, rfl⟩ : dl = 0 ∧ dh = 0 := by omega
    simp
    all_goals try simp only [beq_eq_false_iff_ne, Bool.cond_eq_ite, bne_iff_ne, ne_eq, Bool.and_eq_true, Bool.or_eq_true, decide_eq_true_eq, beq_iff_eq, Bool.not_eq_true', decide_eq_false_iff_not]
    all_goals repeat' split
    all_goals first | rfl | (exfalso; omega) | (simp_all; done) | (simp_all; omega)
  · simp
    generalize stepD a0 ⟨dp, dl, dh⟩ held = sd
    all_goals try simp only [beq_eq_false_iff_ne, Bool.cond_eq_ite, bne_iff_ne, ne_eq, Bool.and_eq_true, Bool.or_eq_true, decide_eq_true_eq, beq_iff_eq, Bool.not_eq_true', decide_eq_false_iff_not]
    all_goals repeat' split
    all_goals first | rfl | (exfalso; omega) | (simp_all; done) | (simp_all; omega)
theorem run_newelref18_Step (a0 : Gear) (a1 : Car) (a2 : Order) (hg : stepOk a0 a1 a2 = true) : ∃ F d, run k22 F d 40 Try.f40 s_newelref18_Step (a0, a1, a2, ()) = some (r_newelref18_Step.enc (stepC a0 a1 a2)) := by
  exact ⟨200, 6, one_newelref18_Step a0 a1 a2 hg⟩

theorem one_cycle_sign (a0 : Int) : run k24 200 6 45 Try.f45 s_cycle_sign (a0, ()) = some (r_cycle_sign.enc (signI a0)) := by
  rw [tree_cycle_sign]
  simp only [r_cycle_sign, Res.int, signI]
  cases decide (a0 > 0) <;> rfl
theorem run_cycle_sign (a0 : Int) : ∃ F d, run k24 F d 45 Try.f45 s_cycle_sign (a0, ()) = some (r_cycle_sign.enc (signI a0)) := by
  exact ⟨200, 6, one_cycle_sign a0⟩

end Go.Proofs.Ytlnfojhmgncfiaa.Px.PxU
