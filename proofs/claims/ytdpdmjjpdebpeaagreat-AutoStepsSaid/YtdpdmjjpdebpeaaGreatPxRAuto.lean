/- Functions are what is said of them. -/
import Derived.Test.YtdpdmjjpdebpeaaGreatPxRSteps
import Derived.Test.YtdpdmjjpdebpeaaGreatPxSpecCar
set_option linter.unusedVariables false
set_option linter.unusedSimpArgs false
namespace Go.Proofs.YtdpdmjjpdebpeaaGreat.Px.PxR
open Go Go.Proofs

set_option linter.unusedSimpArgs false
set_option linter.unusedVariables false

theorem one_door_within (a0 : Int) (a1 : Int) (a2 : Int) : run k26 200 6 90 Tryz.f90 s_door_within (a0, a1, a2, ()) = some (r_door_within.enc (wthin a0 a1 a2)) := by
  rw [tree_door_within]
  simp only [r_door_within, Res.bool, wthin, Bool.cond_false_right]
theorem run_door_within (a0 : Int) (a1 : Int) (a2 : Int) : ∃ F d, run k26 F d 90 Tryz.f90 s_door_within (a0, a1, a2, ()) = some (r_door_within.enc (wthin a0 a1 a2)) := by
  exact ⟨200, 6, one_door_within a0 a1 a2⟩

theorem one_car_within (a0 : Int) (a1 : Int) (a2 : Int) : run k27 200 6 37 Tryz.f37 s_car_within (a0, a1, a2, ()) = some (r_car_within.enc (wthin a0 a1 a2)) := by
  rw [tree_car_within]
  simp only [r_car_within, Res.bool, wthin, Bool.cond_false_right]
theorem run_car_within (a0 : Int) (a1 : Int) (a2 : Int) : ∃ F d, run k27 F d 37 Tryz.f37 s_car_within (a0, a1, a2, ()) = some (r_car_within.enc (wthin a0 a1 a2)) := by
  exact ⟨200, 6, one_car_within a0 a1 a2⟩

theorem one_door_times (a0 : Times) : run k28 200 6 96 Tryz.f96 s_door_times (a0, ()) = some (r_door_times.enc (timesB a0)) := by
  rw [tree_door_times]
  simp only [r_door_times, Res.bool, timesB]
  cases wthin a0.travel 1 60 <;> cases wthin a0.level 1 60 <;> cases wthin a0.open_ 1 60 <;> cases wthin a0.dwell 1 60 <;> cases wthin a0.lead 1 60 <;> cases wthin a0.close 1 60 <;> rfl
theorem run_door_times (a0 : Times) : ∃ F d, run k28 F d 96 Tryz.f96 s_door_times (a0, ()) = some (r_door_times.enc (timesB a0)) := by
  exact ⟨200, 6, one_door_times a0⟩

theorem one_door_gear (a0 : Gear) : run k29 200 6 95 Tryz.f95 s_door_gear (a0, ()) = some (r_door_gear.enc (gearB a0)) := by
  rw [tree_door_gear]
  simp only [r_door_gear, Res.bool, gearB, Bool.cond_false_right]
theorem run_door_gear (a0 : Gear) : ∃ F d, run k29 F d 95 Tryz.f95 s_door_gear (a0, ()) = some (r_door_gear.enc (gearB a0)) := by
  exact ⟨200, 6, one_door_gear a0⟩

theorem one_newelref17_May (a0 : Door) : run k30 200 6 46 Tryz.f46 s_newelref17_May (a0, ()) = some (r_newelref17_May.enc (doorB a0)) := by
  rw [tree_newelref17_May]
  simp only [r_newelref17_May, Res.bool, Bool.cond_false_right, Bool.cond_true_left]
  simp only [beq_eq_false_iff_ne, Bool.cond_eq_ite, bne_iff_ne, ne_eq, Bool.and_eq_true, Bool.or_eq_true, decide_eq_true_eq, beq_iff_eq, Bool.not_eq_true', decide_eq_false_iff_not]
  repeat' split
  all_goals (refine congrArg (fun b => some (AV.bool b)) ?_; rw [Bool.eq_iff_iff, doorB_iff]; simp only [Bool.false_eq_true, false_iff, true_iff, beq_eq_false_iff_ne, Bool.cond_eq_ite, bne_iff_ne, ne_eq, Bool.and_eq_true, Bool.or_eq_true, decide_eq_true_eq, beq_iff_eq, Bool.not_eq_true', decide_eq_false_iff_not]; omega)
theorem run_newelref17_May (a0 : Door) : ∃ F d, run k30 F d 46 Tryz.f46 s_newelref17_May (a0, ()) = some (r_newelref17_May.enc (doorB a0)) := by
  exact ⟨200, 6, one_newelref17_May a0⟩

theorem one_newelref17_Step (a0 : Gear) (a1 : Door) (a2 : Bool) (hg : dStepOk2 a0 a1 a2 = true) : run k31 200 6 48 Tryz.f48 s_newelref17_Step (a0, a1, a2, ()) = some (r_newelref17_Step.enc (stepD a0 a1 a2)) := by
  rw [tree_newelref17_Step]
  simp only [dStepOk2, Bool.and_eq_true, gearB_iff, doorB_iff, timesB_iff] at hg
  have h1 := IntWalk.i64_in (a1.held + 1) (by omega)
  have h2 := IntWalk.i64_in (a1.left - 1) (by omega)
  rw [h1, h2]
  simp only [r_newelref17_Step, Res.bool, Res.int, Res.agg, Res.tup2, Res.tup3, cDoor_enc, cCar_enc, cOutT_enc, cDoorStepped_enc, cCarStepped_enc, cGear_enc, stepD, heldD, goesD, isHeld, door0, Bool.cond_false_right, Bool.cond_true_left]
  all_goals try simp only [beq_eq_false_iff_ne, Bool.cond_eq_ite, bne_iff_ne, ne_eq, Bool.and_eq_true, Bool.or_eq_true, decide_eq_true_eq, beq_iff_eq, Bool.not_eq_true', decide_eq_false_iff_not]
  repeat' split
  all_goals first | rfl | (exfalso; omega) | (simp_all; done) | (simp_all; omega)
theorem run_newelref17_Step (a0 : Gear) (a1 : Door) (a2 : Bool) (hg : dStepOk2 a0 a1 a2 = true) : ∃ F d, run k31 F d 48 Tryz.f48 s_newelref17_Step (a0, a1, a2, ()) = some (r_newelref17_Step.enc (stepD a0 a1 a2)) := by
  exact ⟨200, 6, one_newelref17_Step a0 a1 a2 hg⟩

theorem one_door_on (a0 : Door) (a1 : Int) (a2 : Int) : run k32 200 6 102 Tryz.f102 s_door_on (a0, a1, a2, ()) = some (r_door_on.enc (onD a0 a1 a2)) := by
  rw [tree_door_on]
  simp only [r_door_on, Res.bool, Res.int, Res.agg, Res.tup2, Res.tup3, cDoor_enc, cCar_enc, cOutT_enc, cDoorStepped_enc, cCarStepped_enc, cGear_enc, onD, Bool.cond_false_right, Bool.cond_true_left]
  all_goals try simp only [beq_eq_false_iff_ne, Bool.cond_eq_ite, bne_iff_ne, ne_eq, Bool.and_eq_true, Bool.or_eq_true, decide_eq_true_eq, beq_iff_eq, Bool.not_eq_true', decide_eq_false_iff_not]
  repeat' split
  all_goals first | rfl | (exfalso; omega) | (simp_all; done) | (simp_all; omega)
theorem run_door_on (a0 : Door) (a1 : Int) (a2 : Int) : ∃ F d, run k32 F d 102 Tryz.f102 s_door_on (a0, a1, a2, ()) = some (r_door_on.enc (onD a0 a1 a2)) := by
  exact ⟨200, 6, one_door_on a0 a1 a2⟩

theorem one_door_phases_1 (a0 : Gear) (a1 : Door) (a2 : Bool) : run k33 200 6 100 Tryz.f100 s_door_phases_1 (a0, a1, a2, ()) = some (r_door_phases_1.enc (phase1 a0 a1 a2)) := by
  rw [tree_door_phases_1]
  simp only [r_door_phases_1, Res.bool, Res.int, Res.agg, Res.tup2, Res.tup3, cDoor_enc, cCar_enc, cOutT_enc, cDoorStepped_enc, cCarStepped_enc, cGear_enc, phase1, Bool.cond_false_right, Bool.cond_true_left]
  all_goals try simp only [beq_eq_false_iff_ne, Bool.cond_eq_ite, bne_iff_ne, ne_eq, Bool.and_eq_true, Bool.or_eq_true, decide_eq_true_eq, beq_iff_eq, Bool.not_eq_true', decide_eq_false_iff_not]
  repeat' split
  all_goals first | rfl | (exfalso; omega) | (simp_all; done) | (simp_all; omega)
theorem run_door_phases_1 (a0 : Gear) (a1 : Door) (a2 : Bool) : ∃ F d, run k33 F d 100 Tryz.f100 s_door_phases_1 (a0, a1, a2, ()) = some (r_door_phases_1.enc (phase1 a0 a1 a2)) := by
  exact ⟨200, 6, one_door_phases_1 a0 a1 a2⟩

theorem one_door_phases_2 (a0 : Gear) (a1 : Door) (a2 : Bool) : run k34 200 6 101 Tryz.f101 s_door_phases_2 (a0, a1, a2, ()) = some (r_door_phases_2.enc (phase2 a0 a1 a2)) := by
  rw [tree_door_phases_2]
  simp only [r_door_phases_2, Res.bool, Res.int, Res.agg, Res.tup2, Res.tup3, cDoor_enc, cCar_enc, cOutT_enc, cDoorStepped_enc, cCarStepped_enc, cGear_enc, phase2, Bool.cond_false_right, Bool.cond_true_left]
  all_goals try simp only [beq_eq_false_iff_ne, Bool.cond_eq_ite, bne_iff_ne, ne_eq, Bool.and_eq_true, Bool.or_eq_true, decide_eq_true_eq, beq_iff_eq, Bool.not_eq_true', decide_eq_false_iff_not]
  repeat' split
  all_goals first | rfl | (exfalso; omega) | (simp_all; done) | (simp_all; omega)
theorem run_door_phases_2 (a0 : Gear) (a1 : Door) (a2 : Bool) : ∃ F d, run k34 F d 101 Tryz.f101 s_door_phases_2 (a0, a1, a2, ()) = some (r_door_phases_2.enc (phase2 a0 a1 a2)) := by
  exact ⟨200, 6, one_door_phases_2 a0 a1 a2⟩

theorem one_door_open (a0 : Gear) (a1 : Door) (a2 : Bool) : run k35 200 6 103 Tryz.f103 s_door_open (a0, a1, a2, ()) = some (r_door_open.enc (openD a0 a1 a2)) := by
  rw [tree_door_open]
  simp only [r_door_open, Res.bool, Res.int, Res.agg, Res.tup2, Res.tup3, cDoor_enc, cCar_enc, cOutT_enc, cDoorStepped_enc, cCarStepped_enc, cGear_enc, openD, Bool.cond_false_right, Bool.cond_true_left]
  all_goals try simp only [beq_eq_false_iff_ne, Bool.cond_eq_ite, bne_iff_ne, ne_eq, Bool.and_eq_true, Bool.or_eq_true, decide_eq_true_eq, beq_iff_eq, Bool.not_eq_true', decide_eq_false_iff_not]
  repeat' split
  all_goals first | rfl | (exfalso; omega) | (simp_all; done) | (simp_all; omega)
theorem run_door_open (a0 : Gear) (a1 : Door) (a2 : Bool) : ∃ F d, run k35 F d 103 Tryz.f103 s_door_open (a0, a1, a2, ()) = some (r_door_open.enc (openD a0 a1 a2)) := by
  exact ⟨200, 6, one_door_open a0 a1 a2⟩

theorem one_door_closing (a0 : Gear) (a1 : Door) (a2 : Bool) : run k36 200 6 104 Tryz.f104 s_door_closing (a0, a1, a2, ()) = some (r_door_closing.enc (closingD a0 a1 a2)) := by
  rw [tree_door_closing]
  simp only [r_door_closing, Res.bool, Res.int, Res.agg, Res.tup2, Res.tup3, cDoor_enc, cCar_enc, cOutT_enc, cDoorStepped_enc, cCarStepped_enc, cGear_enc, closingD, Bool.cond_false_right, Bool.cond_true_left]
  all_goals try simp only [beq_eq_false_iff_ne, Bool.cond_eq_ite, bne_iff_ne, ne_eq, Bool.and_eq_true, Bool.or_eq_true, decide_eq_true_eq, beq_iff_eq, Bool.not_eq_true', decide_eq_false_iff_not]
  repeat' split
  all_goals first | rfl | (exfalso; omega) | (simp_all; done) | (simp_all; omega)
theorem run_door_closing (a0 : Gear) (a1 : Door) (a2 : Bool) : ∃ F d, run k36 F d 104 Tryz.f104 s_door_closing (a0, a1, a2, ()) = some (r_door_closing.enc (closingD a0 a1 a2)) := by
  exact ⟨200, 6, one_door_closing a0 a1 a2⟩

theorem one_door_Check_0 (l : Int) (h : Int) : run k38 200 6 62 Tryz.f62 s_door_Check ((⟨0, l, h⟩ : Door), ()) = some (r_door_Check.enc (door_Check (⟨0, l, h⟩ : Door))) := by
  rw [tree_door_Check_0]
  simp only [r_door_Check, Res.bool, Res.int, Res.agg, Res.tup2, Res.tup3, cDoor_enc, cCar_enc, cOutT_enc, cDoorStepped_enc, cCarStepped_enc, cGear_enc, door_Check, errOf, doorB, mostOf, wthin, Bool.cond_false_right, Bool.cond_true_left]
  all_goals try simp only [beq_eq_false_iff_ne, Bool.cond_eq_ite, bne_iff_ne, ne_eq, Bool.and_eq_true, Bool.or_eq_true, decide_eq_true_eq, beq_iff_eq, Bool.not_eq_true', decide_eq_false_iff_not]
  repeat' split
  all_goals first | rfl | (exfalso; omega) | (simp_all; done) | (simp_all; omega)
theorem one_door_Check_1 (l : Int) (h : Int) : run k38 200 6 62 Tryz.f62 s_door_Check ((⟨1, l, h⟩ : Door), ()) = some (r_door_Check.enc (door_Check (⟨1, l, h⟩ : Door))) := by
  rw [tree_door_Check_1]
  simp only [r_door_Check, Res.bool, Res.int, Res.agg, Res.tup2, Res.tup3, cDoor_enc, cCar_enc, cOutT_enc, cDoorStepped_enc, cCarStepped_enc, cGear_enc, door_Check, errOf, doorB, mostOf, wthin, Bool.cond_false_right, Bool.cond_true_left]
  all_goals try simp only [beq_eq_false_iff_ne, Bool.cond_eq_ite, bne_iff_ne, ne_eq, Bool.and_eq_true, Bool.or_eq_true, decide_eq_true_eq, beq_iff_eq, Bool.not_eq_true', decide_eq_false_iff_not]
  repeat' split
  all_goals first | rfl | (exfalso; omega) | (simp_all; done) | (simp_all; omega)
theorem one_door_Check_2 (l : Int) (h : Int) : run k38 200 6 62 Tryz.f62 s_door_Check ((⟨2, l, h⟩ : Door), ()) = some (r_door_Check.enc (door_Check (⟨2, l, h⟩ : Door))) := by
  rw [tree_door_Check_2]
  simp only [r_door_Check, Res.bool, Res.int, Res.agg, Res.tup2, Res.tup3, cDoor_enc, cCar_enc, cOutT_enc, cDoorStepped_enc, cCarStepped_enc, cGear_enc, door_Check, errOf, doorB, mostOf, wthin, Bool.cond_false_right, Bool.cond_true_left]
  all_goals try simp only [beq_eq_false_iff_ne, Bool.cond_eq_ite, bne_iff_ne, ne_eq, Bool.and_eq_true, Bool.or_eq_true, decide_eq_true_eq, beq_iff_eq, Bool.not_eq_true', decide_eq_false_iff_not]
  repeat' split
  all_goals first | rfl | (exfalso; omega) | (simp_all; done) | (simp_all; omega)
theorem one_door_Check_3 (l : Int) (h : Int) : run k38 200 6 62 Tryz.f62 s_door_Check ((⟨3, l, h⟩ : Door), ()) = some (r_door_Check.enc (door_Check (⟨3, l, h⟩ : Door))) := by
  rw [tree_door_Check_3]
  simp only [r_door_Check, Res.bool, Res.int, Res.agg, Res.tup2, Res.tup3, cDoor_enc, cCar_enc, cOutT_enc, cDoorStepped_enc, cCarStepped_enc, cGear_enc, door_Check, errOf, doorB, mostOf, wthin, Bool.cond_false_right, Bool.cond_true_left]
  all_goals try simp only [beq_eq_false_iff_ne, Bool.cond_eq_ite, bne_iff_ne, ne_eq, Bool.and_eq_true, Bool.or_eq_true, decide_eq_true_eq, beq_iff_eq, Bool.not_eq_true', decide_eq_false_iff_not]
  repeat' split
  all_goals first | rfl | (exfalso; omega) | (simp_all; done) | (simp_all; omega)
theorem one_door_Check_m (n : Nat) (l : Int) (h : Int) : run k38 200 6 62 Tryz.f62 s_door_Check ((⟨(Int.ofNat (n + 4)), l, h⟩ : Door), ()) = some (r_door_Check.enc (door_Check (⟨(Int.ofNat (n + 4)), l, h⟩ : Door))) := by
  rw [tree_door_Check_m]
  try rfl
theorem one_door_Check_n (n : Nat) (l : Int) (h : Int) : run k38 200 6 62 Tryz.f62 s_door_Check ((⟨(Int.negSucc n), l, h⟩ : Door), ()) = some (r_door_Check.enc (door_Check (⟨(Int.negSucc n), l, h⟩ : Door))) := by
  rw [tree_door_Check_n]
  try rfl
theorem run_door_Check (a0 : Door) : ∃ F d, run k38 F d 62 Tryz.f62 s_door_Check (a0, ()) = some (r_door_Check.enc (door_Check a0)) := by
  refine ⟨200, 6, ?_⟩
  obtain ⟨p, l, h⟩ := a0
  rcases p with n | n
  · rcases n with _ | _ | _ | _ | n
    · exact one_door_Check_0 l h
    · exact one_door_Check_1 l h
    · exact one_door_Check_2 l h
    · exact one_door_Check_3 l h
    · exact one_door_Check_m n l h
  · exact one_door_Check_n n l h

theorem one_door_Ask (a0 : Times) (a1 : Door) : run k39 200 6 70 Tryz.f70 s_door_Ask (a0, a1, ()) = some (r_door_Ask.enc (door_Ask a0 a1)) := by
  rw [tree_door_Ask]
  simp only [r_door_Ask, Res.bool, Res.int, Res.agg, Res.tup2, Res.tup3, cDoor_enc, cCar_enc, cOutT_enc, cDoorStepped_enc, cCarStepped_enc, cGear_enc, door_Ask, door_Check, errOf, askD, door0]
  cases timesB a0 <;> cases doorB a1 <;> cases (a1.phase == 0) <;> rfl
theorem run_door_Ask (a0 : Times) (a1 : Door) : ∃ F d, run k39 F d 70 Tryz.f70 s_door_Ask (a0, a1, ()) = some (r_door_Ask.enc (door_Ask a0 a1)) := by
  exact ⟨200, 6, one_door_Ask a0 a1⟩

theorem one_door_Step_0 (a0 : Gear) (a2 : Bool) (l : Int) (h : Int) : run k40 200 6 71 Tryz.f71 s_door_Step (a0, (⟨0, l, h⟩ : Door), a2, ()) = some (r_door_Step.enc (door_Step a0 (⟨0, l, h⟩ : Door) a2)) := by
  rw [tree_door_Step_0]
  simp only [r_door_Step, Res.bool, Res.int, Res.agg, Res.tup2, Res.tup3, cDoor_enc, cCar_enc, cOutT_enc, cDoorStepped_enc, cCarStepped_enc, cGear_enc, door_Step, door_Check, errOf, dStepOk]
  cases gearB a0 <;> cases doorB _ <;> rfl
theorem one_door_Step_1 (a0 : Gear) (a2 : Bool) (l : Int) (h : Int) : run k40 200 6 71 Tryz.f71 s_door_Step (a0, (⟨1, l, h⟩ : Door), a2, ()) = some (r_door_Step.enc (door_Step a0 (⟨1, l, h⟩ : Door) a2)) := by
  rw [tree_door_Step_1]
  simp only [r_door_Step, Res.bool, Res.int, Res.agg, Res.tup2, Res.tup3, cDoor_enc, cCar_enc, cOutT_enc, cDoorStepped_enc, cCarStepped_enc, cGear_enc, door_Step, door_Check, errOf, dStepOk]
  cases hg : gearB a0 <;> cases hd : doorB _ <;> try rfl
  simp only [gearB_iff, doorB_iff, timesB_iff] at hg hd
  have h1 := IntWalk.i64_in (h + 1) (by omega)
  have h2 := IntWalk.i64_in (l - 1) (by omega)
  simp only [phase2, openD, closingD, onD, h1, h2, stepD, heldD, goesD, isHeld, door0, Bool.cond_false_right, Bool.cond_true_left]
  clear h1 h2
  cases a2 <;> simp only [beq_eq_false_iff_ne, Bool.cond_eq_ite, bne_iff_ne, ne_eq, Bool.and_eq_true, Bool.or_eq_true, decide_eq_true_eq, beq_iff_eq, Bool.not_eq_true', decide_eq_false_iff_not]
  all_goals simp
  all_goals repeat' split
  all_goals first | rfl | (exfalso; omega) | (simp_all; done) | (simp_all; omega)
theorem one_door_Step_2 (a0 : Gear) (a2 : Bool) (l : Int) (h : Int) : run k40 200 6 71 Tryz.f71 s_door_Step (a0, (⟨2, l, h⟩ : Door), a2, ()) = some (r_door_Step.enc (door_Step a0 (⟨2, l, h⟩ : Door) a2)) := by
  rw [tree_door_Step_2]
  simp only [r_door_Step, Res.bool, Res.int, Res.agg, Res.tup2, Res.tup3, cDoor_enc, cCar_enc, cOutT_enc, cDoorStepped_enc, cCarStepped_enc, cGear_enc, door_Step, door_Check, errOf, dStepOk]
  cases hg : gearB a0 <;> cases hd : doorB _ <;> try rfl
  simp only [gearB_iff, doorB_iff, timesB_iff] at hg hd
  have h1 := IntWalk.i64_in (h + 1) (by omega)
  have h2 := IntWalk.i64_in (l - 1) (by omega)
  simp only [phase2, openD, closingD, onD, h1, h2, stepD, heldD, goesD, isHeld, door0, Bool.cond_false_right, Bool.cond_true_left]
  clear h1 h2
  cases a2 <;> simp only [beq_eq_false_iff_ne, Bool.cond_eq_ite, bne_iff_ne, ne_eq, Bool.and_eq_true, Bool.or_eq_true, decide_eq_true_eq, beq_iff_eq, Bool.not_eq_true', decide_eq_false_iff_not]
  all_goals simp
  all_goals repeat' split
  all_goals first | rfl | (exfalso; omega) | (simp_all; done) | (simp_all; omega)
theorem one_door_Step_3 (a0 : Gear) (a2 : Bool) (l : Int) (h : Int) : run k40 200 6 71 Tryz.f71 s_door_Step (a0, (⟨3, l, h⟩ : Door), a2, ()) = some (r_door_Step.enc (door_Step a0 (⟨3, l, h⟩ : Door) a2)) := by
  rw [tree_door_Step_3]
  simp only [r_door_Step, Res.bool, Res.int, Res.agg, Res.tup2, Res.tup3, cDoor_enc, cCar_enc, cOutT_enc, cDoorStepped_enc, cCarStepped_enc, cGear_enc, door_Step, door_Check, errOf, dStepOk]
  cases hg : gearB a0 <;> cases hd : doorB _ <;> try rfl
  simp only [gearB_iff, doorB_iff, timesB_iff] at hg hd
  have h1 := IntWalk.i64_in (h + 1) (by omega)
  have h2 := IntWalk.i64_in (l - 1) (by omega)
  simp only [phase2, openD, closingD, onD, h1, h2, stepD, heldD, goesD, isHeld, door0, Bool.cond_false_right, Bool.cond_true_left]
  clear h1 h2
  cases a2 <;> simp only [beq_eq_false_iff_ne, Bool.cond_eq_ite, bne_iff_ne, ne_eq, Bool.and_eq_true, Bool.or_eq_true, decide_eq_true_eq, beq_iff_eq, Bool.not_eq_true', decide_eq_false_iff_not]
  all_goals simp
  all_goals repeat' split
  all_goals first | rfl | (exfalso; omega) | (simp_all; done) | (simp_all; omega)
theorem one_door_Step_m (n : Nat) (a0 : Gear) (a2 : Bool) (l : Int) (h : Int) : run k40 200 6 71 Tryz.f71 s_door_Step (a0, (⟨(Int.ofNat (n + 4)), l, h⟩ : Door), a2, ()) = some (r_door_Step.enc (door_Step a0 (⟨(Int.ofNat (n + 4)), l, h⟩ : Door) a2)) := by
  rw [tree_door_Step_m]
  have hd : doorB ⟨Int.ofNat (n + 4), l, h⟩ = false := rfl
  simp only [r_door_Step, Res.bool, Res.int, Res.agg, Res.tup2, Res.tup3, cDoor_enc, cCar_enc, cOutT_enc, cDoorStepped_enc, cCarStepped_enc, cGear_enc, door_Step, dStepOk, errOf]
  rw [hd]
  cases gearB a0 <;> rfl
theorem one_door_Step_n (n : Nat) (a0 : Gear) (a2 : Bool) (l : Int) (h : Int) : run k40 200 6 71 Tryz.f71 s_door_Step (a0, (⟨(Int.negSucc n), l, h⟩ : Door), a2, ()) = some (r_door_Step.enc (door_Step a0 (⟨(Int.negSucc n), l, h⟩ : Door) a2)) := by
  rw [tree_door_Step_n]
  have hd : doorB ⟨Int.negSucc n, l, h⟩ = false := rfl
  simp only [r_door_Step, Res.bool, Res.int, Res.agg, Res.tup2, Res.tup3, cDoor_enc, cCar_enc, cOutT_enc, cDoorStepped_enc, cCarStepped_enc, cGear_enc, door_Step, dStepOk, errOf]
  rw [hd]
  cases gearB a0 <;> rfl
theorem run_door_Step (a0 : Gear) (a1 : Door) (a2 : Bool) : ∃ F d, run k40 F d 71 Tryz.f71 s_door_Step (a0, a1, a2, ()) = some (r_door_Step.enc (door_Step a0 a1 a2)) := by
  refine ⟨200, 6, ?_⟩
  obtain ⟨p, l, h⟩ := a1
  rcases p with n | n
  · rcases n with _ | _ | _ | _ | n
    · exact one_door_Step_0 a0 a2 l h
    · exact one_door_Step_1 a0 a2 l h
    · exact one_door_Step_2 a0 a2 l h
    · exact one_door_Step_3 a0 a2 l h
    · exact one_door_Step_m n a0 a2 l h
  · exact one_door_Step_n n a0 a2 l h

theorem one_door_Rest (a0 : Gear) (a1 : Door) : run k41 200 6 68 Tryz.f68 s_door_Rest (a0, a1, ()) = some (r_door_Rest.enc (door_Rest a0 a1)) := by
  rw [tree_door_Rest]
  simp only [r_door_Rest, Res.bool, Res.int, Res.agg, Res.tup2, Res.tup3, cDoor_enc, cCar_enc, cOutT_enc, cDoorStepped_enc, cCarStepped_enc, cGear_enc, door_Rest, door_Check, errOf, dStepOk]
  cases hg : gearB a0 <;> cases hd : doorB a1 <;> try rfl
  simp only [gearB_iff, doorB_iff, timesB_iff] at hg hd
  simp only [IntWalk.i64_in (a0.times.open_ + a0.dwell) (by omega), IntWalk.i64_in (a0.times.open_ + a0.dwell + a0.times.close) (by omega), IntWalk.i64_in (a0.most - a1.held) (by omega), restD, IntWalk.i64_in (a0.dwell + a0.times.close) (by omega)]
  have hm : a0.most > a1.held → 0 ≤ (a0.most - a1.held) * (a0.times.open_ + a0.dwell + a0.times.close) ∧ (a0.most - a1.held) * (a0.times.open_ + a0.dwell + a0.times.close) ≤ 1000000 := fun h => ⟨Int.mul_nonneg (by omega) (by omega), Int.le_trans (Int.mul_le_mul (by omega : a0.most - a1.held ≤ 60) (by omega : a0.times.open_ + a0.dwell + a0.times.close ≤ 420) (by omega) (by omega)) (by omega)⟩
  have hz : (bif decide (0 > a0.most - a1.held) then 0 else a0.most - a1.held) * (a0.times.open_ + a0.dwell + a0.times.close) = bif decide (a0.most > a1.held) then (a0.most - a1.held) * (a0.times.open_ + a0.dwell + a0.times.close) else 0 := by
    simp only [beq_eq_false_iff_ne, Bool.cond_eq_ite, bne_iff_ne, ne_eq, Bool.and_eq_true, Bool.or_eq_true, decide_eq_true_eq, beq_iff_eq, Bool.not_eq_true', decide_eq_false_iff_not]
    split
    · rw [if_neg (by omega)]; omega
    · split
      · rfl
      · rw [show a0.most - a1.held = 0 by omega]; omega
  rw [hz]
  generalize (a0.most - a1.held) * (a0.times.open_ + a0.dwell + a0.times.close) = m at hm
  simp only [IntKind.wrap_i64, beq_eq_false_iff_ne, Bool.cond_eq_ite, bne_iff_ne, ne_eq, Bool.and_eq_true, Bool.or_eq_true, decide_eq_true_eq, beq_iff_eq, Bool.not_eq_true', decide_eq_false_iff_not]
  simp
  repeat' split
  all_goals first | rfl | (exfalso; omega) | (simp_all; done) | (simp_all; omega) | omega
theorem run_door_Rest (a0 : Gear) (a1 : Door) : ∃ F d, run k41 F d 68 Tryz.f68 s_door_Rest (a0, a1, ()) = some (r_door_Rest.enc (door_Rest a0 a1)) := by
  exact ⟨200, 6, one_door_Rest a0 a1⟩

theorem one_car_Check (a0 : Int) (a1 : Car) : run k42 200 6 31 Tryz.f31 s_car_Check (a0, a1, ()) = some (r_car_Check.enc (car_Check a0 a1)) := by
  rw [tree_car_Check]
  simp only [r_car_Check, Res.int, car_Check, carB, door_Check]
  cases h1 : wthin a0 2 64
  · cases a1.phase == 0 <;> cases a1.phase == 1 <;> cases a1.phase == 2 <;> cases a1.phase == 3 <;> rfl
  rw [wthin_iff] at h1
  rw [IntWalk.i64_in (a0 - 1) (by omega)]
  cases h2 : wthin a1.floor 0 (a0 - 1)
  · cases a1.phase == 0 <;> cases a1.phase == 1 <;> cases a1.phase == 2 <;> cases a1.phase == 3 <;> rfl
  rw [wthin_iff] at h2
  cases hp0 : (a1.phase == 0)
  case true => cases doorB a1.door <;> cases a1.dir == 0 <;> cases a1.left == 0 <;> cases a1.door.phase == 0 <;> rfl
  cases hp1 : (a1.phase == 1)
  case true =>
    by_cases hd : a1.dir = 1 ∨ a1.dir = -1
    · rw [IntWalk.i64_in (a1.floor + a1.dir) (by omega)]
      cases doorB a1.door <;> cases a1.dir == 1 <;> cases a1.dir == -1 <;> cases wthin (a1.floor + a1.dir) 0 (a0 - 1) <;> cases wthin a1.left 1 60 <;> cases a1.door.phase == 0 <;> rfl
    · rw [show (a1.dir == 1) = false by simp; omega, show (a1.dir == -1) = false by simp; omega]
      cases doorB a1.door <;> rfl
  cases hp2 : (a1.phase == 2)
  case true => cases doorB a1.door <;> cases a1.dir == 0 <;> cases wthin a1.left 1 60 <;> cases a1.door.phase == 0 <;> rfl
  cases a1.phase == 3 <;> cases doorB a1.door <;> cases a1.dir == 0 <;> cases a1.left == 0 <;> cases a1.door.phase == 0 <;> rfl
theorem run_car_Check (a0 : Int) (a1 : Car) : ∃ F d, run k42 F d 31 Tryz.f31 s_car_Check (a0, a1, ()) = some (r_car_Check.enc (car_Check a0 a1)) := by
  exact ⟨200, 6, one_car_Check a0 a1⟩

theorem one_car_check (a0 : Gear) (a1 : Car) : run k43 200 6 36 Tryz.f36 s_car_check (a0, a1, ()) = some (r_car_check.enc (car_check a0 a1)) := by
  rw [tree_car_check]
  have hd : doorB ⟨0, 0, 0⟩ = true := rfl
  simp only [r_car_check, Res.int, car_check, carOk, car_Check, dStepOk, hd, Bool.and_true]
  cases gearB a0 <;> cases carB a0.floors a1 <;> rfl
theorem run_car_check (a0 : Gear) (a1 : Car) : ∃ F d, run k43 F d 36 Tryz.f36 s_car_check (a0, a1, ()) = some (r_car_check.enc (car_check a0 a1)) := by
  exact ⟨200, 6, one_car_check a0 a1⟩

theorem one_car_Step (a0 : Gear) (a1 : Car) (a2 : Order) : run k44 200 6 20 Tryz.f20 s_car_Step (a0, a1, a2, ()) = some (r_car_Step.enc (car_Step a0 a1 a2)) := by
  rw [tree_car_Step]
  obtain ⟨fl, dr, ph, lf, ⟨dp, dl, dh⟩⟩ := a1
  obtain ⟨cmd, held, fault⟩ := a2
  simp only [r_car_Step, car_Step, stepOk, car_check, errOf]
  cases hg : carOk a0 ⟨fl, dr, ph, lf, ⟨dp, dl, dh⟩⟩
  case false => rfl
  cases hC : wthin cmd 0 3
  case false => rfl
  cases fault
  case true => rfl
  simp only [carOk, Bool.and_eq_true, carB_iff, wthin_iff] at hg hC
  obtain ⟨hG, hF, hf, hD, hP⟩ := hg
  have hS : dStepOk a0 ⟨dp, dl, dh⟩ = true := by simp only [dStepOk, hG, hD, Bool.and_self]
  have hT : timesB a0.times = true := by simp only [gearB_iff] at hG; exact hG.1
  have hDD := hD
  simp only [gearB_iff, timesB_iff, doorB_iff] at hG hD
  rcases hP with ⟨rfl, rfl, rfl, rfl⟩ | ⟨rfl, hdr, hlo, hhi, hl1, hl2, rfl⟩ | ⟨rfl, rfl, hl1, hl2, rfl⟩ | ⟨rfl, rfl, rfl, hd0⟩
  all_goals simp only [bne_self_eq_false, Int.reduceBEq, Bool.cond_true, Bool.cond_false, cond_true, cond_false, Bool.not_true, Bool.not_false, Bool.and_self, Bool.true_and, hS, hT, hDD]
  · obtain ⟨rfl, rfl⟩ : dl = 0 ∧ dh = 0 := by omega
    obtain rfl | rfl | rfl | rfl : cmd = 0 ∨ cmd = 1 ∨ cmd = 2 ∨ cmd = 3 := by omega
    all_goals simp only [bne_self_eq_false, Int.reduceBEq, Bool.cond_true, Bool.cond_false, cond_true, cond_false, Bool.not_true, Bool.not_false, Bool.and_self, Bool.true_and, hS, hT, hDD]
    all_goals (
      try simp only [IntWalk.i64_in (fl + 1) (by omega), IntWalk.i64_in (fl + -1) (by omega), IntWalk.i64_in (a0.times.travel - 1) (by omega), IntWalk.i64_in (a0.times.level - 1) (by omega), IntWalk.i64_in (a0.floors - 1) (by omega)]
      simp only [Res.bool, Res.int, Res.agg, Res.tup2, Res.tup3, cDoor_enc, cCar_enc, cOutT_enc, cDoorStepped_enc, cCarStepped_enc, cGear_enc, stepC, begunC, beganC, tickC, door0, askD, wthin, Bool.cond_false_right, Bool.cond_true_left]
      simp
      all_goals try simp only [beq_eq_false_iff_ne, Bool.cond_eq_ite, bne_iff_ne, ne_eq, Bool.and_eq_true, Bool.or_eq_true, decide_eq_true_eq, beq_iff_eq, Bool.not_eq_true', decide_eq_false_iff_not]
      all_goals repeat' split
      all_goals first | rfl | (exfalso; omega) | (simp_all; done) | (simp_all; omega))
  · obtain ⟨rfl, rfl⟩ : dl = 0 ∧ dh = 0 := by omega
    simp only [IntWalk.i64_in (fl + dr) (by omega), IntWalk.i64_in (lf - 1) (by omega)]
    simp only [Res.bool, Res.int, Res.agg, Res.tup2, Res.tup3, cDoor_enc, cCar_enc, cOutT_enc, cDoorStepped_enc, cCarStepped_enc, cGear_enc, stepC, begunC, beganC, tickC, door0, askD, wthin, Bool.cond_false_right, Bool.cond_true_left]
    simp
    all_goals try simp only [beq_eq_false_iff_ne, Bool.cond_eq_ite, bne_iff_ne, ne_eq, Bool.and_eq_true, Bool.or_eq_true, decide_eq_true_eq, beq_iff_eq, Bool.not_eq_true', decide_eq_false_iff_not]
    all_goals repeat' split
    all_goals first | rfl | (exfalso; omega) | (simp_all; done) | (simp_all; omega)
  · obtain ⟨rfl, rfl⟩ : dl = 0 ∧ dh = 0 := by omega
    simp only [IntWalk.i64_in (lf - 1) (by omega)]
    simp only [Res.bool, Res.int, Res.agg, Res.tup2, Res.tup3, cDoor_enc, cCar_enc, cOutT_enc, cDoorStepped_enc, cCarStepped_enc, cGear_enc, stepC, begunC, beganC, tickC, door0, askD, wthin, Bool.cond_false_right, Bool.cond_true_left]
    simp
    all_goals try simp only [beq_eq_false_iff_ne, Bool.cond_eq_ite, bne_iff_ne, ne_eq, Bool.and_eq_true, Bool.or_eq_true, decide_eq_true_eq, beq_iff_eq, Bool.not_eq_true', decide_eq_false_iff_not]
    all_goals repeat' split
    all_goals first | rfl | (exfalso; omega) | (simp_all; done) | (simp_all; omega)
  · simp only [Res.bool, Res.int, Res.agg, Res.tup2, Res.tup3, cDoor_enc, cCar_enc, cOutT_enc, cDoorStepped_enc, cCarStepped_enc, cGear_enc, stepC, begunC, beganC, tickC, door0, askD, wthin, Bool.cond_false_right, Bool.cond_true_left]
    simp
    generalize stepD a0 ⟨dp, dl, dh⟩ held = sd
    all_goals try simp only [beq_eq_false_iff_ne, Bool.cond_eq_ite, bne_iff_ne, ne_eq, Bool.and_eq_true, Bool.or_eq_true, decide_eq_true_eq, beq_iff_eq, Bool.not_eq_true', decide_eq_false_iff_not]
    all_goals repeat' split
    all_goals first | rfl | (exfalso; omega) | (simp_all; done) | (simp_all; omega)
theorem run_car_Step (a0 : Gear) (a1 : Car) (a2 : Order) : ∃ F d, run k44 F d 20 Tryz.f20 s_car_Step (a0, a1, a2, ()) = some (r_car_Step.enc (car_Step a0 a1 a2)) := by
  exact ⟨200, 6, one_car_Step a0 a1 a2⟩

theorem one_car_Rest (a0 : Gear) (a1 : Car) : run k45 200 6 92 Tryz.f92 s_car_Rest (a0, a1, ()) = some (r_car_Rest.enc (car_Rest a0 a1)) := by
  rw [tree_car_Rest]
  obtain ⟨fl, dr, ph, lf, ⟨dp, dl, dh⟩⟩ := a1
  simp only [r_car_Rest, Res.tup2, Res.int, car_Rest, car_check]
  cases hg : carOk a0 ⟨fl, dr, ph, lf, ⟨dp, dl, dh⟩⟩
  case false => rfl
  simp only [carOk, Bool.and_eq_true, carB_iff] at hg
  obtain ⟨hG, hF, hf, hD, hP⟩ := hg
  have hz := restD_bound a0 ⟨dp, dl, dh⟩ hG hD
  have hT : timesB a0.times = true := by simp only [gearB_iff] at hG; exact hG.1
  have hy := restD_bound a0 ⟨1, a0.times.open_, 0⟩ hG (by rw [timesB_iff] at hT; rw [doorB_iff]; simp; omega)
  have hE : doorB ⟨1, a0.times.open_, 0⟩ = true := by rw [timesB_iff] at hT; rw [doorB_iff]; simp; omega
  simp only [dStepOk, hG, hD, hT, hE, Bool.and_self, cond_true, askD, restC, errOf, bne_self_eq_false, cond_false]
  rcases hP with ⟨rfl, rfl, rfl, rfl⟩ | ⟨rfl, hdr, hlo, hhi, hl1, hl2, rfl⟩ | ⟨rfl, rfl, hl1, hl2, rfl⟩ | ⟨rfl, rfl, rfl, hd0⟩ <;> dsimp only at hz hy <;> simp [hG, hE] <;> first | (rw [IntWalk.i64_in _ (by omega)]; done) | (rw [IntWalk.i64_in _ (by omega)]; omega)
theorem run_car_Rest (a0 : Gear) (a1 : Car) : ∃ F d, run k45 F d 92 Tryz.f92 s_car_Rest (a0, a1, ()) = some (r_car_Rest.enc (car_Rest a0 a1)) := by
  exact ⟨200, 6, one_car_Rest a0 a1⟩

theorem one_newelref18_May (a0 : Int) (a1 : Car) : run k46 200 6 23 Tryz.f23 s_newelref18_May (a0, a1, ()) = some (r_newelref18_May.enc (carB a0 a1)) := by
  rw [tree_newelref18_May]
  simp only [r_newelref18_May, Res.bool, Bool.cond_false_right, Bool.cond_true_left]
  cases hd : doorB a1.door
  · simp only [carB, hd]
    cases wthin a0 2 64 <;> cases wthin a1.floor 0 (a0 - 1) <;> simp
  simp only [Bool.not_true, Bool.or_false, IntKind.wrap_i64]
  simp only [beq_eq_false_iff_ne, Bool.cond_eq_ite, bne_iff_ne, ne_eq, Bool.and_eq_true, Bool.or_eq_true, decide_eq_true_eq, beq_iff_eq, Bool.not_eq_true', decide_eq_false_iff_not]
  repeat' split
  all_goals (refine congrArg (fun b => some (AV.bool b)) ?_; rw [Bool.eq_iff_iff, carB_iff]; simp only [Bool.false_eq_true, false_iff, true_iff, hd, true_and, beq_eq_false_iff_ne, Bool.cond_eq_ite, bne_iff_ne, ne_eq, Bool.and_eq_true, Bool.or_eq_true, decide_eq_true_eq, beq_iff_eq, Bool.not_eq_true', decide_eq_false_iff_not]; omega)
theorem run_newelref18_May (a0 : Int) (a1 : Car) : ∃ F d, run k46 F d 23 Tryz.f23 s_newelref18_May (a0, a1, ()) = some (r_newelref18_May.enc (carB a0 a1)) := by
  exact ⟨200, 6, one_newelref18_May a0 a1⟩

theorem one_newelref18_Step (a0 : Gear) (a1 : Car) (a2 : Order) (hg : stepOk a0 a1 a2 = true) : run k47 200 6 24 Tryz.f24 s_newelref18_Step (a0, a1, a2, ()) = some (r_newelref18_Step.enc (stepC a0 a1 a2)) := by
  rw [tree_newelref18_Step]
  obtain ⟨fl, dr, ph, lf, ⟨dp, dl, dh⟩⟩ := a1
  obtain ⟨cmd, held, fault⟩ := a2
  simp only [stepOk, carOk, Bool.and_eq_true, carB_iff, wthin_iff] at hg
  obtain ⟨⟨hG, hF, hf, hD, hP⟩, hC⟩ := hg
  have hS : dStepOk2 a0 ⟨dp, dl, dh⟩ held = true := by simp only [dStepOk2, hG, hD, Bool.and_self]
  rw [hS]
  simp only [gearB_iff, timesB_iff, doorB_iff] at hG hD
  simp only [IntWalk.i64_in (fl + 1) (by omega), IntWalk.i64_in (fl + -1) (by omega), IntWalk.i64_in (a0.times.travel - 1) (by omega), IntWalk.i64_in (a0.times.level - 1) (by omega), IntWalk.i64_in (fl + dr) (by omega), IntWalk.i64_in (lf - 1) (by omega)]
  simp only [r_newelref18_Step, Res.bool, Res.int, Res.agg, Res.tup2, Res.tup3, cDoor_enc, cCar_enc, cOutT_enc, cDoorStepped_enc, cCarStepped_enc, cGear_enc, stepC, begunC, beganC, tickC, door0, Bool.cond_false_right, Bool.cond_true_left]
  cases fault
  case true => rfl
  rcases hP with ⟨rfl, rfl, rfl, rfl⟩ | ⟨rfl, hdr, hlo, hhi, hl1, hl2, rfl⟩ | ⟨rfl, rfl, hl1, hl2, rfl⟩ | ⟨rfl, rfl, rfl, hd0⟩
  · obtain ⟨rfl, rfl⟩ : dl = 0 ∧ dh = 0 := by omega
    simp
    all_goals try simp only [beq_eq_false_iff_ne, Bool.cond_eq_ite, bne_iff_ne, ne_eq, Bool.and_eq_true, Bool.or_eq_true, decide_eq_true_eq, beq_iff_eq, Bool.not_eq_true', decide_eq_false_iff_not]
    all_goals repeat' split
    all_goals first | rfl | (exfalso; omega) | (simp_all; done) | (simp_all; omega)
  · obtain ⟨rfl, rfl⟩ : dl = 0 ∧ dh = 0 := by omega
    simp
    all_goals try simp only [beq_eq_false_iff_ne, Bool.cond_eq_ite, bne_iff_ne, ne_eq, Bool.and_eq_true, Bool.or_eq_true, decide_eq_true_eq, beq_iff_eq, Bool.not_eq_true', decide_eq_false_iff_not]
    all_goals repeat' split
    all_goals first | rfl | (exfalso; omega) | (simp_all; done) | (simp_all; omega)
  · obtain ⟨rfl, rfl⟩ : dl = 0 ∧ dh = 0 := by omega
    simp
    all_goals try simp only [beq_eq_false_iff_ne, Bool.cond_eq_ite, bne_iff_ne, ne_eq, Bool.and_eq_true, Bool.or_eq_true, decide_eq_true_eq, beq_iff_eq, Bool.not_eq_true', decide_eq_false_iff_not]
    all_goals repeat' split
    all_goals first | rfl | (exfalso; omega) | (simp_all; done) | (simp_all; omega)
  · simp
    generalize stepD a0 ⟨dp, dl, dh⟩ held = sd
    all_goals try simp only [beq_eq_false_iff_ne, Bool.cond_eq_ite, bne_iff_ne, ne_eq, Bool.and_eq_true, Bool.or_eq_true, decide_eq_true_eq, beq_iff_eq, Bool.not_eq_true', decide_eq_false_iff_not]
    all_goals repeat' split
    all_goals first | rfl | (exfalso; omega) | (simp_all; done) | (simp_all; omega)
theorem run_newelref18_Step (a0 : Gear) (a1 : Car) (a2 : Order) (hg : stepOk a0 a1 a2 = true) : ∃ F d, run k47 F d 24 Tryz.f24 s_newelref18_Step (a0, a1, a2, ()) = some (r_newelref18_Step.enc (stepC a0 a1 a2)) := by
  exact ⟨200, 6, one_newelref18_Step a0 a1 a2 hg⟩

theorem one_cycle_sign (a0 : Int) : run k48 200 6 106 Tryz.f106 s_cycle_sign (a0, ()) = some (r_cycle_sign.enc (signI a0)) := by
  rw [tree_cycle_sign]
  simp only [r_cycle_sign, Res.int, signI]
  cases decide (a0 > 0) <;> rfl
theorem run_cycle_sign (a0 : Int) : ∃ F d, run k48 F d 106 Tryz.f106 s_cycle_sign (a0, ()) = some (r_cycle_sign.enc (signI a0)) := by
  exact ⟨200, 6, one_cycle_sign a0⟩

end Go.Proofs.YtdpdmjjpdebpeaaGreat.Px.PxR
