/- The contracts of a seat's functions. -/
import Derived.Test.YtkcpgejmafobjaaPxATypes
import Derived.Test.YtkcpgejmafobjaaPxSpecCar
namespace Go.Proofs.Ytkcpgejmafobjaa.Px.PxA
open Go Go.Proofs

noncomputable def s_door_within := (Sig.cons false (Dat.ofCel (Cel.int .i64)) (Sig.cons false (Dat.ofCel (Cel.int .i64)) (Sig.cons false (Dat.ofCel (Cel.int .i64)) Sig.nil)))
noncomputable def r_door_within := Res.bool
noncomputable def k1 : Cfg (X := els) := { k0 with E := (37, (s_door_within).con r_door_within (fun x => wthin x.1 x.2.1 x.2.2.1) (fun _ => true)) :: k0.E }
noncomputable def s_car_within := (Sig.cons false (Dat.ofCel (Cel.int .i64)) (Sig.cons false (Dat.ofCel (Cel.int .i64)) (Sig.cons false (Dat.ofCel (Cel.int .i64)) Sig.nil)))
noncomputable def r_car_within := Res.bool
noncomputable def k2 : Cfg (X := els) := { k1 with E := (19, (s_car_within).con r_car_within (fun x => wthin x.1 x.2.1 x.2.2.1) (fun _ => true)) :: k1.E }
noncomputable def s_door_times := (Sig.cons true (Dat.ofCel cTimes) Sig.nil)
noncomputable def r_door_times := Res.bool
noncomputable def k3 : Cfg (X := els) := { k2 with E := (35, (s_door_times).con r_door_times (fun x => timesB x.1) (fun _ => true)) :: k2.E }
noncomputable def s_door_gear := (Sig.cons true (Dat.ofCel cGear) Sig.nil)
noncomputable def r_door_gear := Res.bool
noncomputable def k4 : Cfg (X := els) := { k3 with E := (36, (s_door_gear).con r_door_gear (fun x => gearB x.1) (fun _ => true)) :: k3.E }
noncomputable def s_newelref17_tick := (Sig.cons false (Dat.ofCel (Cel.int .i64)) Sig.nil)
noncomputable def r_newelref17_tick := Res.bool
noncomputable def k5 : Cfg (X := els) := { k4 with E := (33, (s_newelref17_tick).con r_newelref17_tick (fun x => tickB x.1) (fun _ => true)) :: k4.E }
noncomputable def s_newelref17_Times := (Sig.cons true (Dat.ofCel cTimes) Sig.nil)
noncomputable def r_newelref17_Times := Res.bool
noncomputable def k6 : Cfg (X := els) := { k5 with E := (22, (s_newelref17_Times).con r_newelref17_Times (fun x => timesB x.1) (fun _ => true)) :: k5.E }
noncomputable def s_newelref17_Gear := (Sig.cons true (Dat.ofCel cGear) Sig.nil)
noncomputable def r_newelref17_Gear := Res.bool
noncomputable def k7 : Cfg (X := els) := { k6 with E := (11, (s_newelref17_Gear).con r_newelref17_Gear (fun x => gearB x.1) (fun _ => true)) :: k6.E }
noncomputable def s_newelref17_May := (Sig.cons true (Dat.ofCel cDoor) Sig.nil)
noncomputable def r_newelref17_May := Res.bool
noncomputable def k8 : Cfg (X := els) := { k7 with E := (23, (s_newelref17_May).con r_newelref17_May (fun x => doorB x.1) (fun _ => true)) :: k7.E }
noncomputable def s_newelref17_Step := (Sig.cons true (Dat.ofCel cGear) (Sig.cons true (Dat.ofCel cDoor) (Sig.cons false (Dat.ofCel Cel.bool) Sig.nil)))
noncomputable def r_newelref17_Step := (Res.agg cDoorStepped)
noncomputable def k9 : Cfg (X := els) := { k8 with E := (26, (s_newelref17_Step).con r_newelref17_Step (fun x => stepD x.1 x.2.1 x.2.2.1) (fun x => dStepOk2 x.1 x.2.1 x.2.2.1)) :: k8.E }
noncomputable def s_newelref17_Rest := (Sig.cons true (Dat.ofCel cGear) (Sig.cons true (Dat.ofCel cDoor) Sig.nil))
noncomputable def r_newelref17_Rest := (Res.int .i64)
noncomputable def k10 : Cfg (X := els) := { k9 with E := (30, (s_newelref17_Rest).con r_newelref17_Rest (fun x => restD x.1 x.2.1) (fun x => dStepOk x.1 x.2.1)) :: k9.E }
noncomputable def s_door_on := (Sig.cons true (Dat.ofCel cDoor) (Sig.cons false (Dat.ofCel (Cel.int .i64)) (Sig.cons false (Dat.ofCel (Cel.int .i64)) Sig.nil)))
noncomputable def r_door_on := (Res.agg cDoor)
noncomputable def k11 : Cfg (X := els) := { k10 with E := (41, (s_door_on).con r_door_on (fun x => onD x.1 x.2.1 x.2.2.1) (fun _ => true)) :: k10.E }
noncomputable def s_door_phases_1 := (Sig.cons true (Dat.ofCel cGear) (Sig.cons true (Dat.ofCel cDoor) (Sig.cons false (Dat.ofCel Cel.bool) Sig.nil)))
noncomputable def r_door_phases_1 := (Res.agg cDoor)
noncomputable def k12 : Cfg (X := els) := { k11 with E := (39, (s_door_phases_1).con r_door_phases_1 (fun x => phase1 x.1 x.2.1 x.2.2.1) (fun _ => true)) :: k11.E }
noncomputable def s_door_phases_2 := (Sig.cons true (Dat.ofCel cGear) (Sig.cons true (Dat.ofCel cDoor) (Sig.cons false (Dat.ofCel Cel.bool) Sig.nil)))
noncomputable def r_door_phases_2 := (Res.agg cDoor)
noncomputable def k13 : Cfg (X := els) := { k12 with E := (40, (s_door_phases_2).con r_door_phases_2 (fun x => phase2 x.1 x.2.1 x.2.2.1) (fun _ => true)) :: k12.E }
noncomputable def s_door_open := (Sig.cons true (Dat.ofCel cGear) (Sig.cons true (Dat.ofCel cDoor) (Sig.cons false (Dat.ofCel Cel.bool) Sig.nil)))
noncomputable def r_door_open := (Res.agg cDoor)
noncomputable def k14 : Cfg (X := els) := { k13 with E := (42, (s_door_open).con r_door_open (fun x => openD x.1 x.2.1 x.2.2.1) (fun _ => true)) :: k13.E }
noncomputable def s_door_closing := (Sig.cons true (Dat.ofCel cGear) (Sig.cons true (Dat.ofCel cDoor) (Sig.cons false (Dat.ofCel Cel.bool) Sig.nil)))
noncomputable def r_door_closing := (Res.agg cDoor)
noncomputable def k15 : Cfg (X := els) := { k14 with E := (43, (s_door_closing).con r_door_closing (fun x => closingD x.1 x.2.1 x.2.2.1) (fun _ => true)) :: k14.E }
noncomputable def s_door_phases := Sig.nil
noncomputable def r_door_phases := (⟨fun _ => AV.agg [.int .i64 0, .fn 39 [] [], .int .i64 60, .fn 40 [] [], .int .i64 300, .fn 42 [] [], .int .i64 60, .fn 43 [] []], fun _ => ⟨_, rfl⟩⟩ : Res Unit)
noncomputable def k16 : Cfg (X := els) := { k15 with E := (38, (s_door_phases).con r_door_phases (fun _ => ()) (fun _ => true)) :: k15.E }
noncomputable def s_door_Check := (Sig.cons true (Dat.ofCel cDoor) Sig.nil)
noncomputable def r_door_Check := (Res.int .i64)
noncomputable def k17 : Cfg (X := els) := { k16 with E := (29, (s_door_Check).con r_door_Check (fun x => door_Check x.1) (fun _ => true)) :: k16.E }
noncomputable def s_door_Ask := (Sig.cons true (Dat.ofCel cTimes) (Sig.cons true (Dat.ofCel cDoor) Sig.nil))
noncomputable def r_door_Ask := (Res.tup2 (Res.agg cDoor) (Res.int .i64))
noncomputable def k18 : Cfg (X := els) := { k17 with E := (27, (s_door_Ask).con r_door_Ask (fun x => door_Ask x.1 x.2.1) (fun _ => true)) :: k17.E }
noncomputable def s_door_Step := (Sig.cons true (Dat.ofCel cGear) (Sig.cons true (Dat.ofCel cDoor) (Sig.cons false (Dat.ofCel Cel.bool) Sig.nil)))
noncomputable def r_door_Step := (Res.tup3 (Res.agg cDoor) Res.bool (Res.int .i64))
noncomputable def k19 : Cfg (X := els) := { k18 with E := (32, (s_door_Step).con r_door_Step (fun x => door_Step x.1 x.2.1 x.2.2.1) (fun _ => true)) :: k18.E }
noncomputable def s_door_Rest := (Sig.cons true (Dat.ofCel cGear) (Sig.cons true (Dat.ofCel cDoor) Sig.nil))
noncomputable def r_door_Rest := (Res.tup2 (Res.int .i64) (Res.int .i64))
noncomputable def k20 : Cfg (X := els) := { k19 with E := (28, (s_door_Rest).con r_door_Rest (fun x => door_Rest x.1 x.2.1) (fun _ => true)) :: k19.E }
noncomputable def s_car_Check := (Sig.cons false (Dat.ofCel (Cel.int .i64)) (Sig.cons true (Dat.ofCel cCar) Sig.nil))
noncomputable def r_car_Check := (Res.int .i64)
noncomputable def k21 : Cfg (X := els) := { k20 with E := (16, (s_car_Check).con r_car_Check (fun x => car_Check x.1 x.2.1) (fun _ => true)) :: k20.E }
noncomputable def s_car_check := (Sig.cons true (Dat.ofCel cGear) (Sig.cons true (Dat.ofCel cCar) Sig.nil))
noncomputable def r_car_check := (Res.int .i64)
noncomputable def k22 : Cfg (X := els) := { k21 with E := (18, (s_car_check).con r_car_check (fun x => car_check x.1 x.2.1) (fun _ => true)) :: k21.E }
noncomputable def s_car_Step := (Sig.cons true (Dat.ofCel cGear) (Sig.cons true (Dat.ofCel cCar) (Sig.cons true (Dat.ofCel cOrder) Sig.nil)))
noncomputable def r_car_Step := (Res.tup3 (Res.agg cCar) (Res.agg cOutT) (Res.int .i64))
noncomputable def k23 : Cfg (X := els) := { k22 with E := (10, (s_car_Step).con r_car_Step (fun x => car_Step x.1 x.2.1 x.2.2.1) (fun _ => true)) :: k22.E }
noncomputable def s_car_Rest := (Sig.cons true (Dat.ofCel cGear) (Sig.cons true (Dat.ofCel cCar) Sig.nil))
noncomputable def r_car_Rest := (Res.tup2 (Res.int .i64) (Res.int .i64))
noncomputable def k24 : Cfg (X := els) := { k23 with E := (15, (s_car_Rest).con r_car_Rest (fun x => car_Rest x.1 x.2.1) (fun _ => true)) :: k23.E }
noncomputable def s_newelref18_May := (Sig.cons false (Dat.ofCel (Cel.int .i64)) (Sig.cons true (Dat.ofCel cCar) Sig.nil))
noncomputable def r_newelref18_May := Res.bool
noncomputable def k25 : Cfg (X := els) := { k24 with E := (12, (s_newelref18_May).con r_newelref18_May (fun x => carB x.1 x.2.1) (fun _ => true)) :: k24.E }
noncomputable def s_newelref18_Step := (Sig.cons true (Dat.ofCel cGear) (Sig.cons true (Dat.ofCel cCar) (Sig.cons true (Dat.ofCel cOrder) Sig.nil)))
noncomputable def r_newelref18_Step := (Res.agg cCarStepped)
noncomputable def k26 : Cfg (X := els) := { k25 with E := (14, (s_newelref18_Step).con r_newelref18_Step (fun x => stepC x.1 x.2.1 x.2.2.1) (fun x => stepOk x.1 x.2.1 x.2.2.1)) :: k25.E }
noncomputable def s_newelref18_Rest := (Sig.cons true (Dat.ofCel cGear) (Sig.cons true (Dat.ofCel cCar) Sig.nil))
noncomputable def r_newelref18_Rest := (Res.int .i64)
noncomputable def k27 : Cfg (X := els) := { k26 with E := (17, (s_newelref18_Rest).con r_newelref18_Rest (fun x => restC x.1 x.2.1) (fun x => carOk x.1 x.2.1)) :: k26.E }
noncomputable def s_newellaw17_Plain := Sig.nil
noncomputable def r_newellaw17_Plain := (Res.agg cGear)
noncomputable def k28 : Cfg (X := els) := { k27 with E := (24, (s_newellaw17_Plain).con r_newellaw17_Plain (fun _ => plainGear) (fun _ => true)) :: k27.E }
noncomputable def s_newellaw18_awake := Sig.nil
noncomputable def r_newellaw18_awake := Res.bool
noncomputable def k29 : Cfg (X := els) := { k28 with E := (13, (s_newellaw18_awake).con r_newellaw18_awake (fun _ => alive) (fun _ => true)) :: k28.E }
noncomputable def s_newellaw18_CarSteps := (Sig.cons true (Dat.ofCel cGear) (Sig.cons true (Dat.ofCel cCar) (Sig.cons true (Dat.ofCel cOrder) Sig.nil)))
noncomputable def r_newellaw18_CarSteps := Res.bool
noncomputable def s_newellaw18_CarRests := (Sig.cons true (Dat.ofCel cGear) (Sig.cons true (Dat.ofCel cCar) Sig.nil))
noncomputable def r_newellaw18_CarRests := Res.bool
noncomputable def s_newellaw18_CarSafe := (Sig.cons true (Dat.ofCel cGear) (Sig.cons true (Dat.ofCel cCar) (Sig.cons true (Dat.ofCel cOrder) Sig.nil)))
noncomputable def r_newellaw18_CarSafe := Res.bool
noncomputable def s_newellaw18_CarFault := (Sig.cons true (Dat.ofCel cStuck) Sig.nil)
noncomputable def r_newellaw18_CarFault := Res.bool
noncomputable def s_newellaw18_CarFalls := (Sig.cons true (Dat.ofCel cGear) (Sig.cons true (Dat.ofCel cCar) (Sig.cons true (Dat.ofCel cOrder) Sig.nil)))
noncomputable def r_newellaw18_CarFalls := Res.bool

end Go.Proofs.Ytkcpgejmafobjaa.Px.PxA
