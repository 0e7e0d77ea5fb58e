/- The contracts of a seat's functions. -/
import Derived.Test.YtgfinnhojeghhaaGreatDoorPxYTypes
import Derived.Test.YtgfinnhojeghhaaGreatDoorPxSpecConfig
import Derived.Test.YtgfinnhojeghhaaGreatDoorPxSpecGreg
import Derived.Test.YtgfinnhojeghhaaGreatDoorPxSpecFeast
set_option linter.unusedVariables false
set_option linter.unusedSimpArgs false
namespace Go.Proofs.YtgfinnhojeghhaaGreatDoor.Px.PxY
open Go Go.Proofs

noncomputable def s_zone_within := (Sig.cons false (Dat.ofCel (Cel.int .i64)) (Sig.cons false (Dat.ofCel (Cel.int .i64)) (Sig.cons false (Dat.ofCel (Cel.int .i64)) Sig.nil)))
noncomputable def r_zone_within := Res.bool
noncomputable def k1 : Cfg (X := els) := { k0 with E := (45, (s_zone_within).con r_zone_within (fun x => (inB x.1 x.2.1 x.2.2.1)) (fun _ => true)) :: k0.E }

noncomputable def s_config_within := (Sig.cons false (Dat.ofCel (Cel.int .i64)) (Sig.cons false (Dat.ofCel (Cel.int .i64)) (Sig.cons false (Dat.ofCel (Cel.int .i64)) Sig.nil)))
noncomputable def r_config_within := Res.bool
noncomputable def k2 : Cfg (X := els) := { k1 with E := (33, (s_config_within).con r_config_within (fun x => (inB x.1 x.2.1 x.2.2.1)) (fun _ => true)) :: k1.E }

noncomputable def s_divs_Div := (Sig.cons false (Dat.ofCel (Cel.int .i64)) (Sig.cons false (Dat.ofCel (Cel.int .i64)) Sig.nil))
noncomputable def r_divs_Div := (Res.tup2 (Res.int .i64) (Res.int .i64))
noncomputable def k3 : Cfg (X := els) := { k2 with E := (64, (s_divs_Div).con r_divs_Div (fun x => (divsDiv x.1 x.2.1)) (fun x => divOk x.1 x.2.1)) :: k2.E }

noncomputable def s_divs_Mod := (Sig.cons false (Dat.ofCel (Cel.int .i64)) (Sig.cons false (Dat.ofCel (Cel.int .i64)) Sig.nil))
noncomputable def r_divs_Mod := (Res.tup2 (Res.int .i64) (Res.int .i64))
noncomputable def k4 : Cfg (X := els) := { k3 with E := (91, (s_divs_Mod).con r_divs_Mod (fun x => (divsMod x.1 x.2.1)) (fun x => divOk x.1 x.2.1)) :: k3.E }

noncomputable def s_divs_Next := (Sig.cons false (Dat.ofCel (Cel.int .i64)) (Sig.cons false (Dat.ofCel (Cel.int .i64)) (Sig.cons false (Dat.ofCel (Cel.int .i64)) Sig.nil)))
noncomputable def r_divs_Next := (Res.tup2 (Res.int .i64) (Res.int .i64))
noncomputable def k5 : Cfg (X := els) := { k4 with E := (85, (s_divs_Next).con r_divs_Next (fun x => (divsNext x.1 x.2.1 x.2.2.1)) (fun x => nextOk x.1 x.2.1 x.2.2.1)) :: k4.E }

noncomputable def s_greg_Leap := (Sig.cons false (Dat.ofCel (Cel.int .i64)) Sig.nil)
noncomputable def r_greg_Leap := Res.bool
noncomputable def k6 : Cfg (X := els) := { k5 with E := (89, (s_greg_Leap).con r_greg_Leap (fun x => (leapG x.1)) (fun _ => true)) :: k5.E }

noncomputable def s_greg_Days := (Sig.cons false (Dat.ofCel (Cel.int .i64)) (Sig.cons false (Dat.ofCel (Cel.int .i64)) Sig.nil))
noncomputable def r_greg_Days := (Res.int .i64)
noncomputable def k7 : Cfg (X := els) := { k6 with E := (83, (s_greg_Days).con r_greg_Days (fun x => (daysG x.1 x.2.1)) (fun _ => true)) :: k6.E }

noncomputable def s_greg_ahead := (Sig.cons false (Dat.ofCel (Cel.int .i64)) Sig.nil)
noncomputable def r_greg_ahead := (Res.agg cSums)
noncomputable def k8 : Cfg (X := els) := { k7 with E := (76, (s_greg_ahead).con r_greg_ahead (fun x => (aheadG x.1)) (fun _ => true)) :: k7.E }

noncomputable def s_greg_before := (Sig.cons false (Dat.ofCel (Cel.int .i64)) Sig.nil)
noncomputable def r_greg_before := (Res.int .i64)
noncomputable def k9 : Cfg (X := els) := { k8 with E := (90, (s_greg_before).con r_greg_before (fun x => (beforeG x.1)) (fun x => yearB x.1)) :: k8.E }

noncomputable def s_greg_Day := (Sig.cons true (Dat.ofCel cDate) Sig.nil)
noncomputable def r_greg_Day := (Res.tup2 (Res.int .i64) (Res.int .i64))
noncomputable def k10 : Cfg (X := els) := { k9 with E := (84, (s_greg_Day).con r_greg_Day (fun x => (dayG x.1)) (fun _ => true)) :: k9.E }

noncomputable def s_greg_Of := (Sig.cons false (Dat.ofCel (Cel.int .i64)) Sig.nil)
noncomputable def r_greg_Of := (Res.tup2 (Res.agg cDate) (Res.int .i64))
noncomputable def k11 : Cfg (X := els) := { k10 with E := (65, (s_greg_Of).con r_greg_Of (fun x => (ofG x.1)) (fun _ => true)) :: k10.E }

noncomputable def s_greg_Nth := (Sig.cons false (Dat.ofCel (Cel.int .i64)) (Sig.cons false (Dat.ofCel (Cel.int .i64)) (Sig.cons false (Dat.ofCel (Cel.int .i64)) (Sig.cons false (Dat.ofCel (Cel.int .i64)) Sig.nil))))
noncomputable def r_greg_Nth := (Res.tup2 (Res.int .i64) (Res.int .i64))
noncomputable def k12 : Cfg (X := els) := { k11 with E := (77, (s_greg_Nth).con r_greg_Nth (fun x => (nthG x.1 x.2.1 x.2.2.1 x.2.2.2.1)) (fun _ => true)) :: k11.E }

noncomputable def s_zone_Check := (Sig.cons true (Dat.ofCel cZone) Sig.nil)
noncomputable def r_zone_Check := (Res.int .i64)
noncomputable def k13 : Cfg (X := els) := { k12 with E := (24, (s_zone_Check).con r_zone_Check (fun x => (zone_Check x.1)) (fun _ => true)) :: k12.E }

noncomputable def s_zone_when := (Sig.cons true (Dat.ofCel cZone) (Sig.cons true (Dat.ofCel cTurn) (Sig.cons false (Dat.ofCel (Cel.int .i64)) Sig.nil)))
noncomputable def r_zone_when := (Res.int .i64)
noncomputable def k14 : Cfg (X := els) := { k13 with E := (66, (s_zone_when).con r_zone_when (fun x => (whenG x.1 x.2.1 x.2.2.1)) (fun x => whenOk x.1 x.2.1 x.2.2.1)) :: k13.E }

noncomputable def s_zone_shift := (Sig.cons true (Dat.ofCel cZone) (Sig.cons false (Dat.ofCel (Cel.int .i64)) Sig.nil))
noncomputable def r_zone_shift := (Res.int .i64)
noncomputable def k15 : Cfg (X := els) := { k14 with E := (47, (s_zone_shift).con r_zone_shift (fun x => (shiftG x.1 x.2.1)) (fun x => shiftOk x.1 x.2.1)) :: k14.E }

noncomputable def s_zone_Instants := (Sig.cons true (Dat.ofCel cZone) (Sig.cons false (Dat.ofCel (Cel.int .i64)) (Sig.cons false (Dat.ofCel (Cel.int .i64)) Sig.nil)))
noncomputable def r_zone_Instants := (Out.tup (Outs.cons (Out.one (Own.sl (.int : El))) (Outs.last (Out.one (Own.ofCel (Cel.int .i64))))))
noncomputable def k16 : Cfg (X := els) := { k15 with H := (25, (s_zone_Instants).hcon r_zone_Instants (fun x => (instG x.1 x.2.1 x.2.2.1)) (fun _ => true)) :: k15.H }

noncomputable def s_window_reckoned := (Sig.cons false (Dat.ofCel (Cel.int .i64)) Sig.nil)
noncomputable def r_window_reckoned := Res.bool
noncomputable def k17 : Cfg (X := els) := { k16 with E := (14, (s_window_reckoned).con r_window_reckoned (fun x => (recG x.1)) (fun _ => true)) :: k16.E }

def P_wmom : Pat (X := els) := { tm := [.any, .any, .any, (.is (.lit (AV.ptr 0 0))), .any, .any, .any, .any, .any, (.is (.int .i64)), .any, .any, .any, .any, .any, .any, .any, .any, .any, .any, .any, .any, .any, .any, .any, .any, .any, .any, .any, .any, .any, .any, .any, .any, .any, .any, .any, .any, .any, .any, .any, .any, .any, .any, .any, .any, .any, .any, .any], hp := [(.raw [(.int .i64), (.int .i64), (.int .i64), (.int .i64), (.int .i64), (.int .i64), (.int .i64), (.int .i64), (.int .i64), (.int .i64)])] }
def keep_wmom : List Nat := [3, 9]
def kx_wmom : List Nat := [6, 7]
noncomputable def sp_wmom : LSpec (X := els) := { keep := keep_wmom, m := 1, mv := [] }
def S_wmom (v0_0 v0_1 v0_2 v0_3 v0_4 v0_5 v0_6 v0_7 v0_8 v0_9 v9 : Int) : St (X := els) := { tm := [.any, .any, .any, .is (.ptr 0 0), .any, .any, .any, .any, .any, .is (.int .i64 v9), .any, .any, .any, .any, .any, .any, .any, .any, .any, .any, .any, .any, .any, .any, .any, .any, .any, .any, .any, .any, .any, .any, .any, .any, .any, .any, .any, .any, .any, .any, .any, .any, .any, .any, .any, .any, .any, .any, .any], hp := [.raw [.int .i64 v0_0, .int .i64 v0_1, .int .i64 v0_2, .int .i64 v0_3, .int .i64 v0_4, .int .i64 v0_5, .int .i64 v0_6, .int .i64 v0_7, .int .i64 v0_8, .int .i64 v0_9]] }
def X_wmom_0 (v0_0 v0_1 v0_2 v0_3 v0_4 v0_5 v0_6 v0_7 v0_8 v0_9 v9 : Int) : St (X := els) := { tm := [.any, .any, .any, .any, .any, .any, .is (.int .i64 (List.getD (Prod.fst (instG { base := v0_0, shift := v0_1, on := { month := v0_2, week := v0_3, weekday := v0_4, minute := v0_5 }, off := { month := v0_6, week := v0_7, weekday := v0_8, minute := v0_9 } } (IntKind.wrap IntKind.i64 (Int.tdiv v9 1440)) (Int.tmod v9 1440))) 0 0)), .is (.int .i64 0), .any, .any, .any, .any, .any, .any, .any, .any, .any, .any, .any, .any, .any, .any, .any, .any, .any, .any, .any, .any, .any, .any, .any, .any, .any, .any, .any, .any, .any, .any, .any, .any, .any, .any, .any, .any, .any, .any, .any, .any, .any], hp := [.raw [.int .i64 v0_0, .int .i64 v0_1, .int .i64 v0_2, .int .i64 v0_3, .int .i64 v0_4, .int .i64 v0_5, .int .i64 v0_6, .int .i64 v0_7, .int .i64 v0_8, .int .i64 v0_9], Blk.vec El.int (Prod.fst (instG { base := v0_0, shift := v0_1, on := { month := v0_2, week := v0_3, weekday := v0_4, minute := v0_5 }, off := { month := v0_6, week := v0_7, weekday := v0_8, minute := v0_9 } } (IntKind.wrap IntKind.i64 (Int.tdiv v9 1440)) (Int.tmod v9 1440))) true] }
noncomputable def c_wmom : Code := ((codeB [false, true, true, true, true] (Tryz.f11.body.getD .skip)).getD .skip |> fun c => match c with | .loop c => c | c => c)
noncomputable def I_wmom (F d n : Nat) (s : St (X := els)) : Option (Ex × St (X := els)) := iter none (fun s' K' => exec k17 none (callD k17 none F d) F 11 124 c_wmom s' (forgetK none sp_wmom K')) n s (fun e s => some (e, dropS kx_wmom s))
noncomputable def g_wmom : List LV → List (Blk (X := els)) → List SV → Ends3
  | [], [], xs => takeI xs fun v0_0 xs => takeI xs fun v0_1 xs => takeI xs fun v0_2 xs => takeI xs fun v0_3 xs => takeI xs fun v0_4 xs => takeI xs fun v0_5 xs => takeI xs fun v0_6 xs => takeI xs fun v0_7 xs => takeI xs fun v0_8 xs => takeI xs fun v0_9 xs => takeI xs fun v9 xs => takeE xs (some (zone_Check (⟨v0_0, v0_1, ⟨v0_2, v0_3, v0_4, v0_5⟩, ⟨v0_6, v0_7, v0_8, v0_9⟩⟩ : Zone) == 0 && (toldOk v9 && reachIn (rowG (⟨v0_0, v0_1, ⟨v0_2, v0_3, v0_4, v0_5⟩, ⟨v0_6, v0_7, v0_8, v0_9⟩⟩ : Zone)) 200 v9), [], .ret, (X_wmom_0 v0_0 v0_1 v0_2 v0_3 v0_4 v0_5 v0_6 v0_7 v0_8 v0_9 (whereIn (rowG (⟨v0_0, v0_1, ⟨v0_2, v0_3, v0_4, v0_5⟩, ⟨v0_6, v0_7, v0_8, v0_9⟩⟩ : Zone)) 200 v9))))
  | _, _, _ => none
noncomputable def k18 : Cfg (X := els) := { k17 with lp := (11, 62, { keep := keep_wmom, m := 1, mv := sp_wmom.mv, ctx := 0, con := some ((P_wmom).con g_wmom) }) :: k17.lp }

noncomputable def s_window_Moment := (Sig.cons true (Dat.ofCel cZone) (Sig.cons false (Dat.ofCel (Cel.int .i64)) (Sig.cons false (Dat.ofCel (Cel.int .i64)) Sig.nil)))
noncomputable def r_window_Moment := (Res.tup2 (Res.int .i64) (Res.int .i64))
noncomputable def k19 : Cfg (X := els) := { k18 with E := (11, (s_window_Moment).con r_window_Moment (fun x => (momG x.1 x.2.1 x.2.2.1)) (fun _ => true)) :: k18.E }

noncomputable def s_greg_Weekday := (Sig.cons false (Dat.ofCel (Cel.int .i64)) Sig.nil)
noncomputable def r_greg_Weekday := (Res.int .i64)
noncomputable def k20 : Cfg (X := els) := { k19 with E := (111, (s_greg_Weekday).con r_greg_Weekday (fun x => (rWeekday x.1)) (fun x => midW x.1)) :: k19.E }

noncomputable def s_window_timed := (Sig.cons true dConfig (Sig.cons true (Dat.ofCel cWindow) (Sig.cons false (Dat.ofCel (Cel.int .i64)) (Sig.cons false (Dat.ofCel Cel.bool) Sig.nil))))
noncomputable def r_window_timed := (Res.tup3 (Res.int .i64) (Res.int .i64) Res.bool)
noncomputable def k21 : Cfg (X := els) := { k20 with E := (110, (s_window_timed).con r_window_timed (fun x => (timedG x.1 x.2.1 x.2.2.1 x.2.2.2.1)) (fun _ => true)) :: k20.E }

noncomputable def s_config_must := (Sig.cons false (Dat.ofCel Cel.bool) (Sig.cons false (Dat.ofCel (Cel.int .i64)) Sig.nil))
noncomputable def r_config_must := (Res.int .i64)
noncomputable def k22 : Cfg (X := els) := { k21 with E := (48, (s_config_must).con r_config_must (fun x => (errIf x.1 x.2.1)) (fun _ => true)) :: k21.E }

noncomputable def s_config_Window := (Sig.cons true (Dat.ofCel cWindow) Sig.nil)
noncomputable def r_config_Window := (Res.int .i64)
noncomputable def k23 : Cfg (X := els) := { k22 with E := (13, (s_config_Window).con r_config_Window (fun x => (config_Window x.1)) (fun _ => true)) :: k22.E }

noncomputable def s_config_size := (Sig.cons true dConfig Sig.nil)
noncomputable def r_config_size := (Res.int .i64)
noncomputable def k24 : Cfg (X := els) := { k23 with E := (26, (s_config_size).con r_config_size (fun x => (config_size x.1)) (fun _ => true)) :: k23.E }

def P_stops : Pat (X := els) := { tm := [.any, (.is (.lit (AV.ptr 2 0))), .any, (.is .bool), .any, .any, .any, .any, .any, .any, .any, (.is (.slW 0 1)), (.is (.int .i64)), (.is (.int .i64)), .any, .any, .any, .any, .any, .any, .any, .any, .any, .any, .any, .any, .any, .any, .any, .any, .any, .any, .any, .any, .any, .any, .any, .any, .any, .any, .any, .any, .any], hp := [(.vec (.int : El) false), (.vec (.window : El) false), (.raw [(.int .i64), (.int .i64), (.int .i64), (.slW 0 1), (.int .i64), (.int .i64), (.int .i64), (.int .i64), (.int .i64), (.int .i64), (.int .i64), (.int .i64), (.int .i64), (.int .i64), (.int .i64), (.int .i64), (.int .i64), (.int .i64), (.int .i64), (.int .i64), (.int .i64), (.int .i64), (.int .i64), (.int .i64), (.int .i64), (.int .i64), (.int .i64), (.int .i64), (.int .i64), (.int .i64), (.int .i64), (.int .i64), (.int .i64), (.int .i64), (.int .i64), .bool, (.slW 1 7)])] }
def keep_stops : List Nat := [1, 3, 11, 12, 13]
def kx_stops : List Nat := [2, 3]
noncomputable def sp_stops : LSpec (X := els) := { keep := keep_stops, m := 3, mv := [] }
def S_stops (l0 : List (Int)) (l1 : List (Window)) (v2_0 v2_1 v2_2 v2_4 v2_5 v2_6 v2_7 v2_8 v2_9 v2_10 v2_11 v2_12 v2_13 v2_14 v2_15 v2_16 v2_17 v2_18 v2_19 v2_20 v2_21 v2_22 v2_23 v2_24 v2_25 v2_26 v2_27 v2_28 v2_29 v2_30 v2_31 v2_32 v2_33 v2_34 : Int) (v2_35 v3 : Bool) (v12 v13 : Int) : St (X := els) := { tm := [.any, .is (.ptr 2 0), .any, .is (.bool v3), .any, .any, .any, .any, .any, .any, .any, .is (.sl 0 0 1 (List.length l0) none), .is (.int .i64 v12), .is (.int .i64 v13), .any, .any, .any, .any, .any, .any, .any, .any, .any, .any, .any, .any, .any, .any, .any, .any, .any, .any, .any, .any, .any, .any, .any, .any, .any, .any, .any, .any, .any], hp := [Blk.vec El.int l0 false, Blk.vec El.window l1 false, .raw [.int .i64 v2_0, .int .i64 v2_1, .int .i64 v2_2, .sl 0 0 1 (List.length l0) none, .int .i64 v2_4, .int .i64 v2_5, .int .i64 v2_6, .int .i64 v2_7, .int .i64 v2_8, .int .i64 v2_9, .int .i64 v2_10, .int .i64 v2_11, .int .i64 v2_12, .int .i64 v2_13, .int .i64 v2_14, .int .i64 v2_15, .int .i64 v2_16, .int .i64 v2_17, .int .i64 v2_18, .int .i64 v2_19, .int .i64 v2_20, .int .i64 v2_21, .int .i64 v2_22, .int .i64 v2_23, .int .i64 v2_24, .int .i64 v2_25, .int .i64 v2_26, .int .i64 v2_27, .int .i64 v2_28, .int .i64 v2_29, .int .i64 v2_30, .int .i64 v2_31, .int .i64 v2_32, .int .i64 v2_33, .int .i64 v2_34, .bool v2_35, .sl 1 0 7 (List.length l1) none]] }
def X_stops_0 (l0 : List (Int)) (l1 : List (Window)) (v2_0 v2_1 v2_2 v2_4 v2_5 v2_6 v2_7 v2_8 v2_9 v2_10 v2_11 v2_12 v2_13 v2_14 v2_15 v2_16 v2_17 v2_18 v2_19 v2_20 v2_21 v2_22 v2_23 v2_24 v2_25 v2_26 v2_27 v2_28 v2_29 v2_30 v2_31 v2_32 v2_33 v2_34 : Int) (v2_35 v3 : Bool) : St (X := els) := { tm := [.any, .any, .any, .is (.bool v3), .any, .any, .any, .any, .any, .any, .any, .any, .any, .any, .any, .any, .any, .any, .any, .any, .any, .any, .any, .any, .any, .any, .any, .any, .any, .any, .any, .any, .any, .any, .any, .any, .any, .any, .any, .any, .any, .any, .any], hp := [Blk.vec El.int l0 false, Blk.vec El.window l1 false, .raw [.int .i64 v2_0, .int .i64 v2_1, .int .i64 v2_2, .sl 0 0 1 (List.length l0) none, .int .i64 v2_4, .int .i64 v2_5, .int .i64 v2_6, .int .i64 v2_7, .int .i64 v2_8, .int .i64 v2_9, .int .i64 v2_10, .int .i64 v2_11, .int .i64 v2_12, .int .i64 v2_13, .int .i64 v2_14, .int .i64 v2_15, .int .i64 v2_16, .int .i64 v2_17, .int .i64 v2_18, .int .i64 v2_19, .int .i64 v2_20, .int .i64 v2_21, .int .i64 v2_22, .int .i64 v2_23, .int .i64 v2_24, .int .i64 v2_25, .int .i64 v2_26, .int .i64 v2_27, .int .i64 v2_28, .int .i64 v2_29, .int .i64 v2_30, .int .i64 v2_31, .int .i64 v2_32, .int .i64 v2_33, .int .i64 v2_34, .bool v2_35, .sl 1 0 7 (List.length l1) none]] }
noncomputable def c_stops : Code := ((codeB [false, true, false, true, true] (Tryz.f27.body.getD .skip)).getD .skip |> fun c => match c with | .loop c => c | c => c)
noncomputable def I_stops (F d n : Nat) (s : St (X := els)) : Option (Ex × St (X := els)) := iter none (fun s' K' => exec k24 none (callD k24 none F d) F 27 116 c_stops s' (forgetK none sp_stops K')) n s (fun e s => some (e, dropS kx_stops s))
noncomputable def g_stops : List LV → List (Blk (X := els)) → List SV → Ends3
  | [⟨El.int, l0⟩, ⟨El.window, l1⟩], [], xs => takeI xs fun v2_0 xs => takeI xs fun v2_1 xs => takeI xs fun v2_2 xs => takeI xs fun v2_4 xs => takeI xs fun v2_5 xs => takeI xs fun v2_6 xs => takeI xs fun v2_7 xs => takeI xs fun v2_8 xs => takeI xs fun v2_9 xs => takeI xs fun v2_10 xs => takeI xs fun v2_11 xs => takeI xs fun v2_12 xs => takeI xs fun v2_13 xs => takeI xs fun v2_14 xs => takeI xs fun v2_15 xs => takeI xs fun v2_16 xs => takeI xs fun v2_17 xs => takeI xs fun v2_18 xs => takeI xs fun v2_19 xs => takeI xs fun v2_20 xs => takeI xs fun v2_21 xs => takeI xs fun v2_22 xs => takeI xs fun v2_23 xs => takeI xs fun v2_24 xs => takeI xs fun v2_25 xs => takeI xs fun v2_26 xs => takeI xs fun v2_27 xs => takeI xs fun v2_28 xs => takeI xs fun v2_29 xs => takeI xs fun v2_30 xs => takeI xs fun v2_31 xs => takeI xs fun v2_32 xs => takeI xs fun v2_33 xs => takeI xs fun v2_34 xs => takeB xs fun v2_35 xs => takeB xs fun v3 xs => takeI xs fun v12 xs => takeI xs fun v13 xs => takeE xs (some (decide (l0.length ≤ 1048576) && (v12 == (l0.length : Int) && v13 == 0), [], .exit 0, (X_stops_0 l0 l1 v2_0 v2_1 v2_2 v2_4 v2_5 v2_6 v2_7 v2_8 v2_9 v2_10 v2_11 v2_12 v2_13 v2_14 v2_15 v2_16 v2_17 v2_18 v2_19 v2_20 v2_21 v2_22 v2_23 v2_24 v2_25 v2_26 v2_27 v2_28 v2_29 v2_30 v2_31 v2_32 v2_33 v2_34 v2_35 (v3 && chkS (IntKind.i64.wrap (v2_0 - 1)) none l0))))
  | _, _, _ => none
noncomputable def k25 : Cfg (X := els) := { k24 with lp := (27, 58, { keep := keep_stops, m := 3, mv := sp_stops.mv, ctx := 0, con := some ((P_stops).con g_stops) }) :: k24.lp }

noncomputable def s_config_stops := (Sig.cons true dConfig Sig.nil)
noncomputable def r_config_stops := (Res.int .i64)
noncomputable def k26 : Cfg (X := els) := { k25 with E := (27, (s_config_stops).con r_config_stops (fun x => (config_stops x.1)) (fun x => smallC x.1)) :: k25.E }

noncomputable def s_config_times := (Sig.cons true dConfig Sig.nil)
noncomputable def r_config_times := (Res.int .i64)
noncomputable def k27 : Cfg (X := els) := { k26 with E := (28, (s_config_times).con r_config_times (fun x => (config_times x.1)) (fun _ => true)) :: k26.E }

noncomputable def s_sunset_Check := (Sig.cons true (Dat.ofCel cSun) Sig.nil)
noncomputable def r_sunset_Check := (Res.int .i64)
noncomputable def k28 : Cfg (X := els) := { k27 with E := (31, (s_sunset_Check).con r_sunset_Check (fun x => (sunset_Check x.1)) (fun _ => true)) :: k27.E }

def P_wins : Pat (X := els) := { tm := [(.is (.slW 1 7)), (.is (.lit (AV.fn 50 [] []))), .any, .any, .any, .any, .any, (.is (.int .i64)), (.is (.int .i64)), .any, .any, .any, .any, .any, .any, .any, .any, .any, .any], hp := [(.vec (.int : El) false), (.vec (.window : El) false), (.raw [(.int .i64), (.int .i64), (.int .i64), (.slW 0 1), (.int .i64), (.int .i64), (.int .i64), (.int .i64), (.int .i64), (.int .i64), (.int .i64), (.int .i64), (.int .i64), (.int .i64), (.int .i64), (.int .i64), (.int .i64), (.int .i64), (.int .i64), (.int .i64), (.int .i64), (.int .i64), (.int .i64), (.int .i64), (.int .i64), (.int .i64), (.int .i64), (.int .i64), (.int .i64), (.int .i64), (.int .i64), (.int .i64), (.int .i64), (.int .i64), (.int .i64), .bool, (.slW 1 7)])] }
def keep_wins : List Nat := [0, 1, 7, 8]
def kx_wins : List Nat := [4]
noncomputable def sp_wins : LSpec (X := els) := { keep := keep_wins, m := 3, mv := [] }
def S_wins (l0 : List (Int)) (l1 : List (Window)) (v2_0 v2_1 v2_2 v2_4 v2_5 v2_6 v2_7 v2_8 v2_9 v2_10 v2_11 v2_12 v2_13 v2_14 v2_15 v2_16 v2_17 v2_18 v2_19 v2_20 v2_21 v2_22 v2_23 v2_24 v2_25 v2_26 v2_27 v2_28 v2_29 v2_30 v2_31 v2_32 v2_33 v2_34 : Int) (v2_35 : Bool) (v7 v8 : Int) : St (X := els) := { tm := [.is (.sl 1 0 7 (List.length l1) none), .is (AV.fn 50 [] []), .any, .any, .any, .any, .any, .is (.int .i64 v7), .is (.int .i64 v8), .any, .any, .any, .any, .any, .any, .any, .any, .any, .any], hp := [Blk.vec El.int l0 false, Blk.vec El.window l1 false, .raw [.int .i64 v2_0, .int .i64 v2_1, .int .i64 v2_2, .sl 0 0 1 (List.length l0) none, .int .i64 v2_4, .int .i64 v2_5, .int .i64 v2_6, .int .i64 v2_7, .int .i64 v2_8, .int .i64 v2_9, .int .i64 v2_10, .int .i64 v2_11, .int .i64 v2_12, .int .i64 v2_13, .int .i64 v2_14, .int .i64 v2_15, .int .i64 v2_16, .int .i64 v2_17, .int .i64 v2_18, .int .i64 v2_19, .int .i64 v2_20, .int .i64 v2_21, .int .i64 v2_22, .int .i64 v2_23, .int .i64 v2_24, .int .i64 v2_25, .int .i64 v2_26, .int .i64 v2_27, .int .i64 v2_28, .int .i64 v2_29, .int .i64 v2_30, .int .i64 v2_31, .int .i64 v2_32, .int .i64 v2_33, .int .i64 v2_34, .bool v2_35, .sl 1 0 7 (List.length l1) none]] }
def X_wins_0 (l0 : List (Int)) (l1 : List (Window)) (v2_0 v2_1 v2_2 v2_4 v2_5 v2_6 v2_7 v2_8 v2_9 v2_10 v2_11 v2_12 v2_13 v2_14 v2_15 v2_16 v2_17 v2_18 v2_19 v2_20 v2_21 v2_22 v2_23 v2_24 v2_25 v2_26 v2_27 v2_28 v2_29 v2_30 v2_31 v2_32 v2_33 v2_34 : Int) (v2_35 : Bool) (v8 : Int) : St (X := els) := { tm := [.any, .any, .any, .any, .is (.int .i64 v8), .any, .any, .any, .any, .any, .any, .any, .any, .any, .any, .any, .any, .any, .any], hp := [Blk.vec El.int l0 false, Blk.vec El.window l1 false, .raw [.int .i64 v2_0, .int .i64 v2_1, .int .i64 v2_2, .sl 0 0 1 (List.length l0) none, .int .i64 v2_4, .int .i64 v2_5, .int .i64 v2_6, .int .i64 v2_7, .int .i64 v2_8, .int .i64 v2_9, .int .i64 v2_10, .int .i64 v2_11, .int .i64 v2_12, .int .i64 v2_13, .int .i64 v2_14, .int .i64 v2_15, .int .i64 v2_16, .int .i64 v2_17, .int .i64 v2_18, .int .i64 v2_19, .int .i64 v2_20, .int .i64 v2_21, .int .i64 v2_22, .int .i64 v2_23, .int .i64 v2_24, .int .i64 v2_25, .int .i64 v2_26, .int .i64 v2_27, .int .i64 v2_28, .int .i64 v2_29, .int .i64 v2_30, .int .i64 v2_31, .int .i64 v2_32, .int .i64 v2_33, .int .i64 v2_34, .bool v2_35, .sl 1 0 7 (List.length l1) none], .raw [.int .i64 (Window.kind (List.getD l1 (0 + Int.toNat v8) { kind := 0, mode := 0, prio := 0, arg := 0, shift := 0, minute := 0, len := 0 })), .int .i64 (Window.mode (List.getD l1 (0 + Int.toNat v8) { kind := 0, mode := 0, prio := 0, arg := 0, shift := 0, minute := 0, len := 0 })), .int .i64 (Window.prio (List.getD l1 (0 + Int.toNat v8) { kind := 0, mode := 0, prio := 0, arg := 0, shift := 0, minute := 0, len := 0 })), .int .i64 (Window.arg (List.getD l1 (0 + Int.toNat v8) { kind := 0, mode := 0, prio := 0, arg := 0, shift := 0, minute := 0, len := 0 })), .int .i64 (Window.shift (List.getD l1 (0 + Int.toNat v8) { kind := 0, mode := 0, prio := 0, arg := 0, shift := 0, minute := 0, len := 0 })), .int .i64 (Window.minute (List.getD l1 (0 + Int.toNat v8) { kind := 0, mode := 0, prio := 0, arg := 0, shift := 0, minute := 0, len := 0 })), .int .i64 (Window.len (List.getD l1 (0 + Int.toNat v8) { kind := 0, mode := 0, prio := 0, arg := 0, shift := 0, minute := 0, len := 0 }))]] }
def X_wins_1 (l0 : List (Int)) (l1 : List (Window)) (v2_0 v2_1 v2_2 v2_4 v2_5 v2_6 v2_7 v2_8 v2_9 v2_10 v2_11 v2_12 v2_13 v2_14 v2_15 v2_16 v2_17 v2_18 v2_19 v2_20 v2_21 v2_22 v2_23 v2_24 v2_25 v2_26 v2_27 v2_28 v2_29 v2_30 v2_31 v2_32 v2_33 v2_34 : Int) (v2_35 : Bool) : St (X := els) := { tm := [.any, .any, .any, .any, .any, .any, .any, .any, .any, .any, .any, .any, .any, .any, .any, .any, .any, .any, .any], hp := [Blk.vec El.int l0 false, Blk.vec El.window l1 false, .raw [.int .i64 v2_0, .int .i64 v2_1, .int .i64 v2_2, .sl 0 0 1 (List.length l0) none, .int .i64 v2_4, .int .i64 v2_5, .int .i64 v2_6, .int .i64 v2_7, .int .i64 v2_8, .int .i64 v2_9, .int .i64 v2_10, .int .i64 v2_11, .int .i64 v2_12, .int .i64 v2_13, .int .i64 v2_14, .int .i64 v2_15, .int .i64 v2_16, .int .i64 v2_17, .int .i64 v2_18, .int .i64 v2_19, .int .i64 v2_20, .int .i64 v2_21, .int .i64 v2_22, .int .i64 v2_23, .int .i64 v2_24, .int .i64 v2_25, .int .i64 v2_26, .int .i64 v2_27, .int .i64 v2_28, .int .i64 v2_29, .int .i64 v2_30, .int .i64 v2_31, .int .i64 v2_32, .int .i64 v2_33, .int .i64 v2_34, .bool v2_35, .sl 1 0 7 (List.length l1) none]] }
noncomputable def c_wins : Code := ((codeB [false, true, false, true] (Tryz.f67.body.getD .skip)).getD .skip |> fun c => match c with | .loop c => c | c => c)
noncomputable def I_wins (F d n : Nat) (s : St (X := els)) : Option (Ex × St (X := els)) := iter none (fun s' K' => exec k28 none (callD k28 none F d) F 67 52 c_wins s' (forgetK none sp_wins K')) n s (fun e s => some (e, dropS kx_wins s))
noncomputable def g_wins : List LV → List (Blk (X := els)) → List SV → Ends3
  | [⟨El.int, l0⟩, ⟨El.window, l1⟩], [], xs => takeI xs fun v2_0 xs => takeI xs fun v2_1 xs => takeI xs fun v2_2 xs => takeI xs fun v2_4 xs => takeI xs fun v2_5 xs => takeI xs fun v2_6 xs => takeI xs fun v2_7 xs => takeI xs fun v2_8 xs => takeI xs fun v2_9 xs => takeI xs fun v2_10 xs => takeI xs fun v2_11 xs => takeI xs fun v2_12 xs => takeI xs fun v2_13 xs => takeI xs fun v2_14 xs => takeI xs fun v2_15 xs => takeI xs fun v2_16 xs => takeI xs fun v2_17 xs => takeI xs fun v2_18 xs => takeI xs fun v2_19 xs => takeI xs fun v2_20 xs => takeI xs fun v2_21 xs => takeI xs fun v2_22 xs => takeI xs fun v2_23 xs => takeI xs fun v2_24 xs => takeI xs fun v2_25 xs => takeI xs fun v2_26 xs => takeI xs fun v2_27 xs => takeI xs fun v2_28 xs => takeI xs fun v2_29 xs => takeI xs fun v2_30 xs => takeI xs fun v2_31 xs => takeI xs fun v2_32 xs => takeI xs fun v2_33 xs => takeI xs fun v2_34 xs => takeB xs fun v2_35 xs => takeI xs fun v7 xs => takeI xs fun v8 xs => takeE xs (some (decide (l1.length ≤ 1048576) && (v7 == (l1.length : Int) && v8 == 0), [(l1.all windowB, .exit 0, (X_wins_1 l0 l1 v2_0 v2_1 v2_2 v2_4 v2_5 v2_6 v2_7 v2_8 v2_9 v2_10 v2_11 v2_12 v2_13 v2_14 v2_15 v2_16 v2_17 v2_18 v2_19 v2_20 v2_21 v2_22 v2_23 v2_24 v2_25 v2_26 v2_27 v2_28 v2_29 v2_30 v2_31 v2_32 v2_33 v2_34 v2_35))], .ret, (X_wins_0 l0 l1 v2_0 v2_1 v2_2 v2_4 v2_5 v2_6 v2_7 v2_8 v2_9 v2_10 v2_11 v2_12 v2_13 v2_14 v2_15 v2_16 v2_17 v2_18 v2_19 v2_20 v2_21 v2_22 v2_23 v2_24 v2_25 v2_26 v2_27 v2_28 v2_29 v2_30 v2_31 v2_32 v2_33 v2_34 v2_35 (firstBad l1))))
  | _, _, _ => none
noncomputable def k29 : Cfg (X := els) := { k28 with lp := (67, 26, { keep := keep_wins, m := 3, mv := sp_wins.mv, ctx := 0, con := some ((P_wins).con g_wins) }) :: k28.lp }

noncomputable def s_config_windows := (Sig.cons true dConfig Sig.nil)
noncomputable def r_config_windows := (Res.int .i64)
noncomputable def k30 : Cfg (X := els) := { k29 with E := (32, (s_config_windows).con r_config_windows (fun x => (config_windows x.1)) (fun x => smallC x.1)) :: k29.E }

noncomputable def s_config_Check := (Sig.cons true dConfig Sig.nil)
noncomputable def r_config_Check := (Res.int .i64)
noncomputable def k31 : Cfg (X := els) := { k30 with E := (12, (s_config_Check).con r_config_Check (fun x => (config_Check x.1)) (fun x => smallC x.1)) :: k30.E }

noncomputable def s_newelref10_Few := (Sig.cons true dConfig Sig.nil)
noncomputable def r_newelref10_Few := Res.bool
noncomputable def k32 : Cfg (X := els) := { k31 with E := (4, (s_newelref10_Few).con r_newelref10_Few (fun x => (few10 x.1)) (fun _ => true)) :: k31.E }

noncomputable def s_newellaw10_Own := (Sig.cons true dConfig Sig.nil)
noncomputable def r_newellaw10_Own := (Out.agg oConfig)
noncomputable def k33 : Cfg (X := els) := { k32 with H := (7, (s_newellaw10_Own).hcon r_newellaw10_Own (fun x => (own10 x.1)) (fun x => smallC x.1)) :: k32.H }

noncomputable def s_molad_Leap := (Sig.cons false (Dat.ofCel (Cel.int .i64)) Sig.nil)
noncomputable def r_molad_Leap := Res.bool
noncomputable def k34 : Cfg (X := els) := { k33 with E := (126, (s_molad_Leap).con r_molad_Leap (fun x => (leapM x.1)) (fun x => midW x.1)) :: k33.E }

noncomputable def s_molad_year_months := (Sig.cons false (Dat.ofCel (Cel.int .i64)) Sig.nil)
noncomputable def r_molad_year_months := (Res.int .i64)
noncomputable def k35 : Cfg (X := els) := { k34 with E := (129, (s_molad_year_months).con r_molad_year_months (fun x => (monthsM x.1)) (fun x => yearM x.1)) :: k34.E }

noncomputable def s_molad_year_moon := (Sig.cons false (Dat.ofCel (Cel.int .i64)) Sig.nil)
noncomputable def r_molad_year_moon := (Res.tup2 (Res.int .i64) (Res.int .i64))
noncomputable def k36 : Cfg (X := els) := { k35 with E := (127, (s_molad_year_moon).con r_molad_year_moon (fun x => (moonM x.1)) (fun x => yearM x.1)) :: k35.E }

noncomputable def s_molad_year_delay := (Sig.cons false (Dat.ofCel (Cel.int .i64)) Sig.nil)
noncomputable def r_molad_year_delay := (Res.int .i64)
noncomputable def k37 : Cfg (X := els) := { k36 with E := (128, (s_molad_year_delay).con r_molad_year_delay (fun x => (delayM x.1)) (fun x => yearM x.1)) :: k36.E }

noncomputable def s_molad_year_first := (Sig.cons false (Dat.ofCel (Cel.int .i64)) Sig.nil)
noncomputable def r_molad_year_first := (Res.int .i64)
noncomputable def k38 : Cfg (X := els) := { k37 with E := (123, (s_molad_year_first).con r_molad_year_first (fun x => (newY x.1)) (fun x => yearM x.1)) :: k37.E }

noncomputable def s_molad_year_length := (Sig.cons false (Dat.ofCel (Cel.int .i64)) Sig.nil)
noncomputable def r_molad_year_length := (Res.int .i64)
noncomputable def k39 : Cfg (X := els) := { k38 with E := (124, (s_molad_year_length).con r_molad_year_length (fun x => (lenM x.1)) (fun x => yearM2 x.1)) :: k38.E }

noncomputable def s_molad_NewYear := (Sig.cons false (Dat.ofCel (Cel.int .i64)) Sig.nil)
noncomputable def r_molad_NewYear := (Res.tup2 (Res.int .i64) (Res.int .i64))
noncomputable def k40 : Cfg (X := els) := { k39 with E := (117, (s_molad_NewYear).con r_molad_NewYear (fun x => (newYearG x.1)) (fun _ => true)) :: k39.E }

noncomputable def s_molad_Len := (Sig.cons false (Dat.ofCel (Cel.int .i64)) Sig.nil)
noncomputable def r_molad_Len := (Res.tup2 (Res.int .i64) (Res.int .i64))
noncomputable def k41 : Cfg (X := els) := { k40 with E := (118, (s_molad_Len).con r_molad_Len (fun x => (lenG x.1)) (fun _ => true)) :: k40.E }

noncomputable def s_hebrew_Days := (Sig.cons false (Dat.ofCel (Cel.int .i64)) (Sig.cons false (Dat.ofCel (Cel.int .i64)) Sig.nil))
noncomputable def r_hebrew_Days := (Res.int .i64)
noncomputable def k42 : Cfg (X := els) := { k41 with E := (120, (s_hebrew_Days).con r_hebrew_Days (fun x => (daysH x.1 x.2.1)) (fun _ => true)) :: k41.E }

def P_yh : Pat (X := els) := { tm := [.any, (.is (.lit (AV.ptr 0 0))), (.is (.lit (AV.ptr 1 0))), (.is (.int .i64)), .any, .any, .any, .any, .any, .any, (.is (.lit (AV.ptr 2 0))), .any, .any, .any, .any, .any, .any, .any, .any, .any, .any, .any, .any, .any, .any, .any, .any, .any, .any, .any, .any, .any, .any, .any, .any, .any, .any, .any, .any, .any, .any, .any, .any, .any, .any, .any, .any, .any, .any, .any, .any, .any, .any, .any, .any, .any, .any, .any, .any, .any, .any, .any, .any, .any, .any, .any, .any, .any, .any, .any, .any, .any, .any, .any, .any, .any, .any, .any, .any, .any, .any, .any, .any, .any], hp := [(.raw [(.int .i64)]), (.raw [(.int .i64), (.int .i64), (.int .i64)]), (.raw [(.int .i64)])] }
def keep_yh : List Nat := [1, 2, 3, 10]
def kx_yh : List Nat := [1, 2, 3, 10, 11, 15, 16, 67, 68, 69, 70, 71, 72, 73, 74, 75, 76, 77, 78, 79, 80, 81, 82]
noncomputable def sp_yh : LSpec (X := els) := { keep := keep_yh, m := 3, mv := [] }
def S_yh (v0_0 v1_0 v1_1 v1_2 v2_0 v3 : Int) : St (X := els) := { tm := [.any, .is (.ptr 0 0), .is (.ptr 1 0), .is (.int .i64 v3), .any, .any, .any, .any, .any, .any, .is (.ptr 2 0), .any, .any, .any, .any, .any, .any, .any, .any, .any, .any, .any, .any, .any, .any, .any, .any, .any, .any, .any, .any, .any, .any, .any, .any, .any, .any, .any, .any, .any, .any, .any, .any, .any, .any, .any, .any, .any, .any, .any, .any, .any, .any, .any, .any, .any, .any, .any, .any, .any, .any, .any, .any, .any, .any, .any, .any, .any, .any, .any, .any, .any, .any, .any, .any, .any, .any, .any, .any, .any, .any, .any, .any, .any], hp := [.raw [.int .i64 v0_0], .raw [.int .i64 v1_0, .int .i64 v1_1, .int .i64 v1_2], .raw [.int .i64 v2_0]] }
def X_yh_0 (v0_0 v1_0 v1_1 v1_2 v2_0 v3 : Int) : St (X := els) := { tm := [.any, .is (.ptr 0 0), .is (.ptr 1 0), .is (.int .i64 v3), .any, .any, .any, .any, .any, .any, .is (.ptr 2 0), .is (.int .i64 (Prod.fst (newYearG v2_0))), .any, .any, .any, .any, .any, .any, .any, .any, .any, .any, .any, .any, .any, .any, .any, .any, .any, .any, .any, .any, .any, .any, .any, .any, .any, .any, .any, .any, .any, .any, .any, .any, .any, .any, .any, .any, .any, .any, .any, .any, .any, .any, .any, .any, .any, .any, .any, .any, .any, .any, .any, .any, .any, .any, .any, .any, .any, .any, .any, .any, .any, .any, .any, .any, .any, .any, .any, .any, .any, .any, .any, .any], hp := [.raw [.int .i64 v0_0], .raw [.int .i64 v1_0, .int .i64 v1_1, .int .i64 v1_2], .raw [.int .i64 v2_0]] }
noncomputable def c_yh : Code := ((codeB [false, false, true, true, true, true, true, true] (Tryz.f115.body.getD .skip)).getD .skip |> fun c => match c with | .loop c => c | c => c)
noncomputable def I_yh (F d n : Nat) (s : St (X := els)) : Option (Ex × St (X := els)) := iter none (fun s' K' => exec k42 none (callD k42 none F d) F 115 1016 c_yh s' (forgetK none sp_yh K')) n s (fun e s => some (e, dropS kx_yh s))
noncomputable def g_yh : List LV → List (Blk (X := els)) → List SV → Ends3
  | [], [], xs => takeI xs fun v0_0 xs => takeI xs fun v1_0 xs => takeI xs fun v1_1 xs => takeI xs fun v1_2 xs => takeI xs fun v2_0 xs => takeI xs fun v3 xs => takeE xs (some (yearReach v0_0 600 v2_0, [], .exit 0, (X_yh_0 v0_0 v1_0 v1_1 v1_2 (yearGo v0_0 600 v2_0) v3)))
  | _, _, _ => none
noncomputable def k43 : Cfg (X := els) := { k42 with lp := (115, 508, { keep := keep_yh, m := 3, mv := sp_yh.mv, ctx := 0, con := some ((P_yh).con g_yh) }) :: k42.lp }

def P_hm : Pat (X := els) := { tm := [(.is (.lit (AV.yld 7))), (.is (.lit (AV.ptr 5 0))), (.is (.lit (AV.ptr 4 0))), .any, (.is (.int .i64)), .any, .any, .any, .any, .any, .any, .any, .any, .any, .any, .any, .any, .any, .any], hp := [(.raw [(.int .i64)]), (.raw [(.int .i64), (.int .i64), (.int .i64)]), (.raw [(.int .i64)]), (.raw [(.int .i64), (.int .i64), (.int .i64)]), (.raw [(.int .i64)]), (.raw [(.int .i64)]), .dfr, (.rcd 0 [.any, (.is (.lit (AV.ptr 0 0))), .any, .any, .any, .any, .any, .any, .any, .any, (.is (.lit (AV.ptr 2 0))), .any, .any, .any, (.is (.lit (AV.ptr 3 0))), .any, .any, .any, .any, .any, .any, .any, .any, .any, .any, .any, .any, .any, .any, .any, .any, .any, .any, .any, .any, .any, .any, .any, .any, .any, .any, .any, .any, .any, .any, .any, .any, .any, .any, .any, .any, .any, .any, .any, .any, .any, .any, .any, .any, .any, .any, .any, .any, .any, .any, .any, (.is (.lit (AV.fn 125 [] [AV.ptr 5 0, AV.ptr 4 0]))), .any, .any, .any, .any, .any, .any, .any, .any, .any, .any, .any, .any, .any, .any, .any, .any, .any])] }
def keep_hm : List Nat := [0, 1, 2, 4]
def kx_hm : List Nat := []
noncomputable def sp_hm : LSpec (X := els) := { keep := keep_hm, m := 8, mv := [] }
def S_hm (v0_0 v1_0 v1_1 v1_2 v2_0 v3_0 v3_1 v3_2 v4_0 v5_0 v4 : Int) : St (X := els) := { tm := [.is (AV.yld 7), .is (.ptr 5 0), .is (.ptr 4 0), .any, .is (.int .i64 v4), .any, .any, .any, .any, .any, .any, .any, .any, .any, .any, .any, .any, .any, .any], hp := [.raw [.int .i64 v0_0], .raw [.int .i64 v1_0, .int .i64 v1_1, .int .i64 v1_2], .raw [.int .i64 v2_0], .raw [.int .i64 v3_0, .int .i64 v3_1, .int .i64 v3_2], .raw [.int .i64 v4_0], .raw [.int .i64 v5_0], Blk.dfr, Blk.rcd RS.ready 0 [.any, .is (.ptr 0 0), .any, .any, .any, .any, .any, .any, .any, .any, .is (.ptr 2 0), .any, .any, .any, .is (.ptr 3 0), .any, .any, .any, .any, .any, .any, .any, .any, .any, .any, .any, .any, .any, .any, .any, .any, .any, .any, .any, .any, .any, .any, .any, .any, .any, .any, .any, .any, .any, .any, .any, .any, .any, .any, .any, .any, .any, .any, .any, .any, .any, .any, .any, .any, .any, .any, .any, .any, .any, .any, .any, .is (AV.fn 125 [] [.ptr 5 0, .ptr 4 0]), .any, .any, .any, .any, .any, .any, .any, .any, .any, .any, .any, .any, .any, .any, .any, .any, .any]] }
def X_hm_0 (v0_0 v1_0 v1_1 v1_2 v2_0 v3_0 v3_1 v3_2 v4_0 v5_0 : Int) : St (X := els) := { tm := [.any, .any, .any, .any, .any, .any, .any, .any, .any, .any, .any, .any, .any, .any, .any, .any, .any, .any, .any], hp := [.raw [.int .i64 v0_0], .raw [.int .i64 v1_0, .int .i64 v1_1, .int .i64 v1_2], .raw [.int .i64 v2_0], .raw [.int .i64 v3_0, .int .i64 v3_1, .int .i64 v3_2], .raw [.int .i64 v4_0], .raw [.int .i64 v5_0], Blk.dfr, Blk.rcd (RS.done (Ex.exit 2)) 0 [.any, .is (.ptr 0 0), .any, .any, .any, .any, .any, .any, .any, .any, .is (.ptr 2 0), .any, .any, .any, .is (.ptr 3 0), .any, .any, .any, .any, .any, .any, .any, .any, .any, .any, .any, .any, .any, .any, .any, .any, .any, .any, .any, .any, .any, .any, .any, .any, .any, .any, .any, .any, .any, .any, .any, .any, .any, .any, .any, .any, .any, .any, .any, .any, .any, .any, .any, .any, .any, .any, .any, .any, .any, .any, .any, .is (AV.fn 125 [] [.ptr 5 0, .ptr 4 0]), .any, .any, .any, .any, .any, .any, .any, .any, .any, .any, .any, .any, .any, .any, .any, .any, .any]] }
def X_hm_1 (v0_0 v1_0 v1_1 v1_2 v2_0 v3_0 v3_1 v3_2 v4_0 v5_0 : Int) : St (X := els) := { tm := [.any, .any, .any, .any, .any, .any, .any, .any, .any, .any, .any, .any, .any, .any, .any, .any, .any, .any, .any], hp := [.raw [.int .i64 v0_0], .raw [.int .i64 v1_0, .int .i64 v1_1, .int .i64 v1_2], .raw [.int .i64 v2_0], .raw [.int .i64 v3_0, .int .i64 v3_1, .int .i64 v3_2], .raw [.int .i64 v4_0], .raw [.int .i64 v5_0], Blk.dfr, Blk.rcd RS.ready 0 [.any, .is (.ptr 0 0), .any, .any, .any, .any, .any, .any, .any, .any, .is (.ptr 2 0), .any, .any, .any, .is (.ptr 3 0), .any, .any, .any, .any, .any, .any, .any, .any, .any, .any, .any, .any, .any, .any, .any, .any, .any, .any, .any, .any, .any, .any, .any, .any, .any, .any, .any, .any, .any, .any, .any, .any, .any, .any, .any, .any, .any, .any, .any, .any, .any, .any, .any, .any, .any, .any, .any, .any, .any, .any, .any, .is (AV.fn 125 [] [.ptr 5 0, .ptr 4 0]), .any, .any, .any, .any, .any, .any, .any, .any, .any, .any, .any, .any, .any, .any, .any, .any, .any]] }
noncomputable def c_hm : Code := ((codeB [false, true] (Tryz.f125.body.getD .skip)).getD .skip |> fun c => match c with | .loop c => c | c => c)
noncomputable def I_hm (F d n : Nat) (s : St (X := els)) : Option (Ex × St (X := els)) := iter none (fun s' K' => exec k43 none (callD k43 none F d) F 125 12 c_hm s' (forgetK none sp_hm K')) n s (fun e s => some (e, dropS kx_hm s))
noncomputable def g_hm : List LV → List (Blk (X := els)) → List SV → Ends3
  | [], [], xs => takeI xs fun v0_0 xs => takeI xs fun v1_0 xs => takeI xs fun v1_1 xs => takeI xs fun v1_2 xs => takeI xs fun v2_0 xs => takeI xs fun v3_0 xs => takeI xs fun v3_1 xs => takeI xs fun v3_2 xs => takeI xs fun v4_0 xs => takeI xs fun v5_0 xs => takeI xs fun v4 xs => takeE xs (some (monOk v0_0 v2_0 v4_0 v4 v5_0, [((datH v0_0 v2_0 (14 - v4).toNat v4 v5_0 v3_1 v3_2).1, .ret, (X_hm_0 v0_0 v1_0 v1_1 v1_2 v2_0 v3_0 (datH v0_0 v2_0 (14 - v4).toNat v4 v5_0 v3_1 v3_2).2.1 (datH v0_0 v2_0 (14 - v4).toNat v4 v5_0 v3_1 v3_2).2.2.1 v4_0 (datH v0_0 v2_0 (14 - v4).toNat v4 v5_0 v3_1 v3_2).2.2.2))], .exit 0, (X_hm_1 v0_0 v1_0 v1_1 v1_2 v2_0 v3_0 (datH v0_0 v2_0 (14 - v4).toNat v4 v5_0 v3_1 v3_2).2.1 (datH v0_0 v2_0 (14 - v4).toNat v4 v5_0 v3_1 v3_2).2.2.1 v4_0 (datH v0_0 v2_0 (14 - v4).toNat v4 v5_0 v3_1 v3_2).2.2.2)))
  | _, _, _ => none
noncomputable def k44 : Cfg (X := els) := { k43 with lp := (125, 6, { keep := keep_hm, m := 8, mv := sp_hm.mv, ctx := 1, con := some ((P_hm).con g_hm) }) :: k43.lp }

noncomputable def s_hebrew_Of := (Sig.cons false (Dat.ofCel (Cel.int .i64)) Sig.nil)
noncomputable def r_hebrew_Of := (Res.tup2 (Res.agg cHDate) (Res.int .i64))
noncomputable def k45 : Cfg (X := els) := { k44 with E := (115, (s_hebrew_Of).con r_hebrew_Of (fun x => (hofG x.1)) (fun _ => true)) :: k44.E }

noncomputable def k46 : Cfg (X := els) := { k45 with E := (116, kindCon) :: k45.E }

noncomputable def s_feast_Rest := (Sig.cons false (Dat.ofCel (Cel.int .i64)) (Sig.cons false (Dat.ofCel Cel.bool) Sig.nil))
noncomputable def r_feast_Rest := Res.bool
noncomputable def k47 : Cfg (X := els) := { k46 with E := (132, (s_feast_Rest).con r_feast_Rest (fun x => (restG x.1 x.2.1)) (fun _ => true)) :: k46.E }

def P_runs : Pat (X := els) := { tm := [(.is (.int .i64)), .any, (.is (.lit (AV.ptr 1 0))), .any, .any, (.is (.int .i64)), .any, .any, .any, .any, .any, .any, .any, .any, .any, .any], hp := [(.raw [(.int .i64)]), (.raw [.bool])] }
def keep_runs : List Nat := [0, 2, 5]
def kx_runs : List Nat := [4, 5]
noncomputable def sp_runs : LSpec (X := els) := { keep := keep_runs, m := 2, mv := [] }
def S_runs (v0_0 : Int) (v1_0 : Bool) (v0 v5 : Int) : St (X := els) := { tm := [.is (.int .i64 v0), .any, .is (.ptr 1 0), .any, .any, .is (.int .i64 v5), .any, .any, .any, .any, .any, .any, .any, .any, .any, .any], hp := [.raw [.int .i64 v0_0], .raw [.bool v1_0]] }
def X_runs_0 (v0_0 : Int) (v1_0 : Bool) (v5 : Int) : St (X := els) := { tm := [.any, .any, .any, .any, .any, .is (.int .i64 v5), .any, .any, .any, .any, .any, .any, .any, .any, .any, .any], hp := [.raw [.int .i64 v0_0], .raw [.bool v1_0]] }
noncomputable def c_runs : Code := ((codeB [false, false, true, true] (Tryz.f134.body.getD .skip)).getD .skip |> fun c => match c with | .loop c => c | c => c)
noncomputable def I_runs (F d n : Nat) (s : St (X := els)) : Option (Ex × St (X := els)) := iter none (fun s' K' => exec k47 none (callD k47 none F d) F 134 56 c_runs s' (forgetK none sp_runs K')) n s (fun e s => some (e, dropS kx_runs s))
noncomputable def g_runs : List LV → List (Blk (X := els)) → List SV → Ends3
  | [], [], xs => takeI xs fun v0_0 xs => takeB xs fun v1_0 xs => takeI xs fun v0 xs => takeI xs fun v5 xs => takeE xs (some (runOk v0 v1_0 v5, [], .exit 0, (X_runs_0 v0_0 v1_0 (runEnd v0 v1_0 10 v5))))
  | _, _, _ => none
noncomputable def k48 : Cfg (X := els) := { k47 with lp := (134, 28, { keep := keep_runs, m := 2, mv := sp_runs.mv, ctx := 0, con := some ((P_runs).con g_runs) }) :: k47.lp }

noncomputable def s_feast_Run := (Sig.cons false (Dat.ofCel (Cel.int .i64)) (Sig.cons false (Dat.ofCel Cel.bool) Sig.nil))
noncomputable def r_feast_Run := (Res.tup3 (Res.int .i64) (Res.int .i64) (Res.int .i64))
noncomputable def k49 : Cfg (X := els) := { k48 with E := (131, (s_feast_Run).con r_feast_Run (fun x => (runG x.1 x.2.1)) (fun _ => true)) :: k48.E }

noncomputable def s_feast_Kind := (Sig.cons false (Dat.ofCel (Cel.int .i64)) (Sig.cons false (Dat.ofCel Cel.bool) Sig.nil))
noncomputable def r_feast_Kind := (Res.int .i64)
noncomputable def k50 : Cfg (X := els) := { k49 with E := (114, (s_feast_Kind).con r_feast_Kind (fun x => (kindDay x.1 x.2.1)) (fun _ => true)) :: k49.E }

noncomputable def s_sunset_At := (Sig.cons true (Dat.ofCel cSun) (Sig.cons false (Dat.ofCel (Cel.int .i64)) Sig.nil))
noncomputable def r_sunset_At := (Res.tup2 (Res.int .i64) (Res.int .i64))
noncomputable def k51 : Cfg (X := els) := { k50 with E := (135, (s_sunset_At).con r_sunset_At (fun x => (sunAt x.1 x.2.1)) (fun _ => true)) :: k50.E }

noncomputable def s_sunset_Moment := (Sig.cons true (Dat.ofCel cZone) (Sig.cons true (Dat.ofCel cSun) (Sig.cons false (Dat.ofCel (Cel.int .i64)) Sig.nil)))
noncomputable def r_sunset_Moment := (Res.tup2 (Res.int .i64) (Res.int .i64))
noncomputable def k52 : Cfg (X := els) := { k51 with E := (133, (s_sunset_Moment).con r_sunset_Moment (fun x => (sunMom x.1 x.2.1 x.2.2.1)) (fun _ => true)) :: k51.E }

noncomputable def s_window_weekly_open := (Sig.cons true Dat.void (Sig.cons true dConfig (Sig.cons true (Dat.ofCel cWindow) (Sig.cons false (Dat.ofCel (Cel.int .i64)) Sig.nil))))
noncomputable def r_window_weekly_open := (Res.tup3 (Res.int .i64) (Res.int .i64) Res.bool)
noncomputable def k53 : Cfg (X := els) := { k52 with E := (109, (s_window_weekly_open).con r_window_weekly_open (fun x => (weekOpen x.1 x.2.1 x.2.2.1 x.2.2.2.1)) (fun x => weekOk x.1 x.2.1 x.2.2.1 x.2.2.2.1)) :: k52.E }

noncomputable def s_window_dated_open := (Sig.cons true Dat.void (Sig.cons true dConfig (Sig.cons true (Dat.ofCel cWindow) (Sig.cons false (Dat.ofCel (Cel.int .i64)) Sig.nil))))
noncomputable def r_window_dated_open := (Res.tup3 (Res.int .i64) (Res.int .i64) Res.bool)
noncomputable def k54 : Cfg (X := els) := { k53 with E := (112, (s_window_dated_open).con r_window_dated_open (fun x => (datedOpen x.1 x.2.1 x.2.2.1 x.2.2.2.1)) (fun x => openOk x.1 x.2.1 x.2.2.1 x.2.2.2.1)) :: k53.E }

noncomputable def s_window_yearly_open := (Sig.cons true Dat.void (Sig.cons true dConfig (Sig.cons true (Dat.ofCel cWindow) (Sig.cons false (Dat.ofCel (Cel.int .i64)) Sig.nil))))
noncomputable def r_window_yearly_open := (Res.tup3 (Res.int .i64) (Res.int .i64) Res.bool)
noncomputable def k55 : Cfg (X := els) := { k54 with E := (113, (s_window_yearly_open).con r_window_yearly_open (fun x => (yearOpen x.1 x.2.1 x.2.2.1 x.2.2.2.1)) (fun x => openOk x.1 x.2.1 x.2.2.1 x.2.2.2.1)) :: k54.E }

noncomputable def s_window_resting_open := (Sig.cons true Dat.void (Sig.cons true dConfig (Sig.cons true (Dat.ofCel cWindow) (Sig.cons false (Dat.ofCel (Cel.int .i64)) Sig.nil))))
noncomputable def r_window_resting_open := (Res.tup3 (Res.int .i64) (Res.int .i64) Res.bool)
noncomputable def k56 : Cfg (X := els) := { k55 with E := (130, (s_window_resting_open).con r_window_resting_open (fun x => (restOpen x.1 x.2.1 x.2.2.1 x.2.2.2.1)) (fun x => openOk x.1 x.2.1 x.2.2.1 x.2.2.2.1)) :: k55.E }

noncomputable def s_of1 := (Sig.cons true (Dat.ofCel cWindow) Sig.nil)
noncomputable def r_of1 := (⟨fun _ => .ifc 76 (.agg []), fun _ => ⟨_, rfl⟩⟩ : Res Unit)
noncomputable def k57 : Cfg (X := els) := { k56 with E := (15, (s_of1).con r_of1 (fun x => (noneW x.1)) (fun x => kind1 x.1)) :: k56.E }

noncomputable def s_of2 := (Sig.cons true (Dat.ofCel cWindow) Sig.nil)
noncomputable def r_of2 := (⟨fun _ => .ifc 77 (.agg []), fun _ => ⟨_, rfl⟩⟩ : Res Unit)
noncomputable def k58 : Cfg (X := els) := { k57 with E := (15, (s_of2).con r_of2 (fun x => (noneW x.1)) (fun x => kind2 x.1)) :: k57.E }

noncomputable def s_of3 := (Sig.cons true (Dat.ofCel cWindow) Sig.nil)
noncomputable def r_of3 := (⟨fun _ => .ifc 78 (.agg []), fun _ => ⟨_, rfl⟩⟩ : Res Unit)
noncomputable def k59 : Cfg (X := els) := { k58 with E := (15, (s_of3).con r_of3 (fun x => (noneW x.1)) (fun x => kind3 x.1)) :: k58.E }

noncomputable def s_of4 := (Sig.cons true (Dat.ofCel cWindow) Sig.nil)
noncomputable def r_of4 := (⟨fun _ => .ifc 79 (.agg []), fun _ => ⟨_, rfl⟩⟩ : Res Unit)
noncomputable def k60 : Cfg (X := els) := { k59 with E := (15, (s_of4).con r_of4 (fun x => (noneW x.1)) (fun x => kind4 x.1)) :: k59.E }

noncomputable def k61 : Cfg (X := els) := { k60 with E := (15, (ofSel (eAt k57 15) (eAt k58 15) (eAt k59 15) (eAt k60 15))) :: k60.E }

noncomputable def s_window_Span := (Sig.cons true dConfig (Sig.cons true (Dat.ofCel cWindow) (Sig.cons false (Dat.ofCel (Cel.int .i64)) Sig.nil)))
noncomputable def r_window_Span := (Res.tup3 (Res.agg cSpan) Res.bool (Res.int .i64))
noncomputable def k62 : Cfg (X := els) := { k61 with E := (6, (s_window_Span).con r_window_Span (fun x => (spanG x.1 x.2.1 x.2.2.1)) (fun x => spanOk x.1 x.2.1 x.2.2.1)) :: k61.E }

noncomputable def s_newelref01_Div := (Sig.cons false (Dat.ofCel (Cel.int .i64)) (Sig.cons false (Dat.ofCel (Cel.int .i64)) Sig.nil))
noncomputable def r_newelref01_Div := (Res.int .i64)
noncomputable def k63 : Cfg (X := els) := { k62 with E := (61, (s_newelref01_Div).con r_newelref01_Div (fun x => (rDiv x.1 x.2.1)) (fun x => divOk x.1 x.2.1)) :: k62.E }

noncomputable def s_newelref01_Mod := (Sig.cons false (Dat.ofCel (Cel.int .i64)) (Sig.cons false (Dat.ofCel (Cel.int .i64)) Sig.nil))
noncomputable def r_newelref01_Mod := (Res.int .i64)
noncomputable def k64 : Cfg (X := els) := { k63 with E := (54, (s_newelref01_Mod).con r_newelref01_Mod (fun x => (rMod x.1 x.2.1)) (fun x => divOk x.1 x.2.1)) :: k63.E }

noncomputable def s_newelref02_Leap := (Sig.cons false (Dat.ofCel (Cel.int .i64)) Sig.nil)
noncomputable def r_newelref02_Leap := Res.bool
noncomputable def k65 : Cfg (X := els) := { k64 with E := (75, (s_newelref02_Leap).con r_newelref02_Leap (fun x => (leapG x.1)) (fun _ => true)) :: k64.E }

noncomputable def s_newelref02_long := (Sig.cons false (Dat.ofCel (Cel.int .i64)) Sig.nil)
noncomputable def r_newelref02_long := (Res.int .i64)
noncomputable def k66 : Cfg (X := els) := { k65 with E := (74, (s_newelref02_long).con r_newelref02_long (fun x => (rLong x.1)) (fun _ => true)) :: k65.E }

noncomputable def s_newelref02_Days := (Sig.cons false (Dat.ofCel (Cel.int .i64)) (Sig.cons false (Dat.ofCel (Cel.int .i64)) Sig.nil))
noncomputable def r_newelref02_Days := (Res.int .i64)
noncomputable def k67 : Cfg (X := els) := { k66 with E := (62, (s_newelref02_Days).con r_newelref02_Days (fun x => (daysG x.1 x.2.1)) (fun _ => true)) :: k66.E }

def P_yrs : Pat (X := els) := { tm := [(.is (.int .i64)), .any, (.is (.lit (AV.ptr 0 0))), (.is (.int .i64)), .any, .any, .any, .any, .any, .any, .any, .any, .any, .any, .any, .any, .any, .any, .any, .any, .any, .any, .any, .any, .any, .any, .any, .any, .any, .any, .any], hp := [(.raw [(.int .i64), (.int .i64), (.int .i64)])] }
def keep_yrs : List Nat := [0, 2, 3]
def kx_yrs : List Nat := [0, 2, 3]
noncomputable def sp_yrs : LSpec (X := els) := { keep := keep_yrs, m := 1, mv := [] }
def S_yrs (v0_0 v0_1 v0_2 v0 v3 : Int) : St (X := els) := { tm := [.is (.int .i64 v0), .any, .is (.ptr 0 0), .is (.int .i64 v3), .any, .any, .any, .any, .any, .any, .any, .any, .any, .any, .any, .any, .any, .any, .any, .any, .any, .any, .any, .any, .any, .any, .any, .any, .any, .any, .any], hp := [.raw [.int .i64 v0_0, .int .i64 v0_1, .int .i64 v0_2]] }
def X_yrs_0 (v0_0 v0_1 v0_2 v0 v3 : Int) : St (X := els) := { tm := [.is (.int .i64 v0), .any, .is (.ptr 0 0), .is (.int .i64 v3), .any, .any, .any, .any, .any, .any, .any, .any, .any, .any, .any, .any, .any, .any, .any, .any, .any, .any, .any, .any, .any, .any, .any, .any, .any, .any, .any], hp := [.raw [.int .i64 v0_0, .int .i64 v0_1, .int .i64 v0_2]] }
noncomputable def c_yrs : Code := ((codeB [false, false, true, true] (Tryz.f60.body.getD .skip)).getD .skip |> fun c => match c with | .loop c => c | c => c)
noncomputable def I_yrs (F d n : Nat) (s : St (X := els)) : Option (Ex × St (X := els)) := iter none (fun s' K' => exec k67 none (callD k67 none F d) F 60 56 c_yrs s' (forgetK none sp_yrs K')) n s (fun e s => some (e, dropS kx_yrs s))
noncomputable def g_yrs : List LV → List (Blk (X := els)) → List SV → Ends3
  | [], [], xs => takeI xs fun v0_0 xs => takeI xs fun v0_1 xs => takeI xs fun v0_2 xs => takeI xs fun v0 xs => takeI xs fun v3 xs => takeE xs (some (v3 == 1 && dayOk v0, [], .exit 0, (X_yrs_0 v0_0 v0_1 v0_2 (v0 - beforeG (yrG v0)) (yrG v0))))
  | _, _, _ => none
noncomputable def k68 : Cfg (X := els) := { k67 with lp := (60, 28, { keep := keep_yrs, m := 1, mv := sp_yrs.mv, ctx := 0, con := some ((P_yrs).con g_yrs) }) :: k67.lp }

def P_mons : Pat (X := els) := { tm := [(.is (.int .i64)), .any, (.is (.lit (AV.ptr 0 0))), (.is (.int .i64)), (.is (.int .i64)), .any, .any, .any, .any, .any, .any, .any, .any, .any, .any, .any, .any, .any, .any, .any, .any, .any, .any, .any, .any, .any, .any, .any, .any, .any, .any], hp := [(.raw [(.int .i64), (.int .i64), (.int .i64)])] }
def keep_mons : List Nat := [0, 2, 3, 4]
def kx_mons : List Nat := [0, 2, 3, 4]
noncomputable def sp_mons : LSpec (X := els) := { keep := keep_mons, m := 1, mv := [] }
def S_mons (v0_0 v0_1 v0_2 v0 v3 v4 : Int) : St (X := els) := { tm := [.is (.int .i64 v0), .any, .is (.ptr 0 0), .is (.int .i64 v3), .is (.int .i64 v4), .any, .any, .any, .any, .any, .any, .any, .any, .any, .any, .any, .any, .any, .any, .any, .any, .any, .any, .any, .any, .any, .any, .any, .any, .any, .any], hp := [.raw [.int .i64 v0_0, .int .i64 v0_1, .int .i64 v0_2]] }
def X_mons_0 (v0_0 v0_1 v0_2 v0 v3 v4 : Int) : St (X := els) := { tm := [.is (.int .i64 v0), .any, .is (.ptr 0 0), .is (.int .i64 v3), .is (.int .i64 v4), .any, .any, .any, .any, .any, .any, .any, .any, .any, .any, .any, .any, .any, .any, .any, .any, .any, .any, .any, .any, .any, .any, .any, .any, .any, .any], hp := [.raw [.int .i64 v0_0, .int .i64 v0_1, .int .i64 v0_2]] }
noncomputable def c_mons : Code := ((codeB [false, false, true, true, true, true] (Tryz.f60.body.getD .skip)).getD .skip |> fun c => match c with | .loop c => c | c => c)
noncomputable def I_mons (F d n : Nat) (s : St (X := els)) : Option (Ex × St (X := els)) := iter none (fun s' K' => exec k68 none (callD k68 none F d) F 60 248 c_mons s' (forgetK none sp_mons K')) n s (fun e s => some (e, dropS kx_mons s))
noncomputable def g_mons : List LV → List (Blk (X := els)) → List SV → Ends3
  | [], [], xs => takeI xs fun v0_0 xs => takeI xs fun v0_1 xs => takeI xs fun v0_2 xs => takeI xs fun v0 xs => takeI xs fun v3 xs => takeI xs fun v4 xs => takeE xs (some (v4 == 1 && (decide (1 ≤ v3) && (decide (v3 ≤ 9999) && (decide (1 ≤ v0) && decide (v0 ≤ rLong v3)))), [], .exit 2, (X_mons_0 v0_0 v0_1 v0_2 (v0 - sumG v3 (monR v3 v0 - 1)) v3 ((monR v3 v0 : Nat) : Int))))
  | _, _, _ => none
noncomputable def k69 : Cfg (X := els) := { k68 with lp := (60, 124, { keep := keep_mons, m := 1, mv := sp_mons.mv, ctx := 0, con := some ((P_mons).con g_mons) }) :: k68.lp }

noncomputable def s_newelref02_Of := (Sig.cons false (Dat.ofCel (Cel.int .i64)) Sig.nil)
noncomputable def r_newelref02_Of := (Res.agg cDate)
noncomputable def k70 : Cfg (X := els) := { k69 with E := (60, (s_newelref02_Of).con r_newelref02_Of (fun x => (rOf x.1)) (fun x => dayOk x.1)) :: k69.E }

def P_dyrs : Pat (X := els) := { tm := [.any, (.is (.lit (AV.ptr 0 0))), .any, (.is (.int .i64)), (.is (.int .i64)), .any, .any, .any, .any, .any, .any, .any, .any, .any, .any, .any, .any, .any, .any, .any, .any, .any, .any, .any, .any, .any, .any, .any, .any, .any, .any], hp := [(.raw [(.int .i64), (.int .i64), (.int .i64)])] }
def keep_dyrs : List Nat := [1, 3, 4]
def kx_dyrs : List Nat := [1, 2, 3]
noncomputable def sp_dyrs : LSpec (X := els) := { keep := keep_dyrs, m := 1, mv := [] }
def S_dyrs (v0_0 v0_1 v0_2 v3 v4 : Int) : St (X := els) := { tm := [.any, .is (.ptr 0 0), .any, .is (.int .i64 v3), .is (.int .i64 v4), .any, .any, .any, .any, .any, .any, .any, .any, .any, .any, .any, .any, .any, .any, .any, .any, .any, .any, .any, .any, .any, .any, .any, .any, .any, .any], hp := [.raw [.int .i64 v0_0, .int .i64 v0_1, .int .i64 v0_2]] }
def X_dyrs_0 (v0_0 v0_1 v0_2 v3 : Int) : St (X := els) := { tm := [.any, .is (.ptr 0 0), .any, .is (.int .i64 v3), .any, .any, .any, .any, .any, .any, .any, .any, .any, .any, .any, .any, .any, .any, .any, .any, .any, .any, .any, .any, .any, .any, .any, .any, .any, .any, .any], hp := [.raw [.int .i64 v0_0, .int .i64 v0_1, .int .i64 v0_2]] }
noncomputable def c_dyrs : Code := ((codeB [false, true, false, true, true] (Tryz.f92.body.getD .skip)).getD .skip |> fun c => match c with | .loop c => c | c => c)
noncomputable def I_dyrs (F d n : Nat) (s : St (X := els)) : Option (Ex × St (X := els)) := iter none (fun s' K' => exec k70 none (callD k70 none F d) F 92 116 c_dyrs s' (forgetK none sp_dyrs K')) n s (fun e s => some (e, dropS kx_dyrs s))
noncomputable def g_dyrs : List LV → List (Blk (X := els)) → List SV → Ends3
  | [], [], xs => takeI xs fun v0_0 xs => takeI xs fun v0_1 xs => takeI xs fun v0_2 xs => takeI xs fun v3 xs => takeI xs fun v4 xs => takeE xs (some (v4 == 1 && (lit v3 && yearB v0_0), [], .exit 0, (X_dyrs_0 v0_0 v0_1 v0_2 (v3 + beforeG v0_0))))
  | _, _, _ => none
noncomputable def k71 : Cfg (X := els) := { k70 with lp := (92, 58, { keep := keep_dyrs, m := 1, mv := sp_dyrs.mv, ctx := 0, con := some ((P_dyrs).con g_dyrs) }) :: k70.lp }

def P_dmon : Pat (X := els) := { tm := [.any, (.is (.lit (AV.ptr 0 0))), .any, (.is (.int .i64)), .any, (.is (.int .i64)), .any, .any, .any, .any, .any, .any, .any, .any, .any, .any, .any, .any, .any, .any, .any, .any, .any, .any, .any, .any, .any, .any, .any, .any, .any], hp := [(.raw [(.int .i64), (.int .i64), (.int .i64)])] }
def keep_dmon : List Nat := [1, 3, 5]
def kx_dmon : List Nat := [2, 3]
noncomputable def sp_dmon : LSpec (X := els) := { keep := keep_dmon, m := 1, mv := [] }
def S_dmon (v0_0 v0_1 v0_2 v3 v5 : Int) : St (X := els) := { tm := [.any, .is (.ptr 0 0), .any, .is (.int .i64 v3), .any, .is (.int .i64 v5), .any, .any, .any, .any, .any, .any, .any, .any, .any, .any, .any, .any, .any, .any, .any, .any, .any, .any, .any, .any, .any, .any, .any, .any, .any], hp := [.raw [.int .i64 v0_0, .int .i64 v0_1, .int .i64 v0_2]] }
def X_dmon_0 (v0_0 v0_1 v0_2 v3 : Int) : St (X := els) := { tm := [.any, .any, .any, .is (.int .i64 v3), .any, .any, .any, .any, .any, .any, .any, .any, .any, .any, .any, .any, .any, .any, .any, .any, .any, .any, .any, .any, .any, .any, .any, .any, .any, .any, .any], hp := [.raw [.int .i64 v0_0, .int .i64 v0_1, .int .i64 v0_2]] }
noncomputable def c_dmon : Code := ((codeB [false, true, false, true, true, true] (Tryz.f92.body.getD .skip)).getD .skip |> fun c => match c with | .loop c => c | c => c)
noncomputable def I_dmon (F d n : Nat) (s : St (X := els)) : Option (Ex × St (X := els)) := iter none (fun s' K' => exec k71 none (callD k71 none F d) F 92 244 c_dmon s' (forgetK none sp_dmon K')) n s (fun e s => some (e, dropS kx_dmon s))
noncomputable def g_dmon : List LV → List (Blk (X := els)) → List SV → Ends3
  | [], [], xs => takeI xs fun v0_0 xs => takeI xs fun v0_1 xs => takeI xs fun v0_2 xs => takeI xs fun v3 xs => takeI xs fun v5 xs => takeE xs (some (v5 == 1 && (big v3 && (decide (1 ≤ v0_1) && decide (v0_1 ≤ 12))), [], .exit 2, (X_dmon_0 v0_0 v0_1 v0_2 (v3 + sumG v0_0 (v0_1 - 1).toNat))))
  | _, _, _ => none
noncomputable def k72 : Cfg (X := els) := { k71 with lp := (92, 122, { keep := keep_dmon, m := 1, mv := sp_dmon.mv, ctx := 0, con := some ((P_dmon).con g_dmon) }) :: k71.lp }

noncomputable def s_newelref02_Day := (Sig.cons true (Dat.ofCel cDate) Sig.nil)
noncomputable def r_newelref02_Day := (Res.int .i64)
noncomputable def k73 : Cfg (X := els) := { k72 with E := (92, (s_newelref02_Day).con r_newelref02_Day (fun x => (rDay x.1)) (fun x => dateOk x.1)) :: k72.E }

noncomputable def s_newelref02_Weekday := (Sig.cons false (Dat.ofCel (Cel.int .i64)) Sig.nil)
noncomputable def r_newelref02_Weekday := (Res.int .i64)
noncomputable def k74 : Cfg (X := els) := { k73 with E := (39, (s_newelref02_Weekday).con r_newelref02_Weekday (fun x => (rWeekday x.1)) (fun x => midW x.1)) :: k73.E }

def P_rnth : Pat (X := els) := { tm := [(.is (.int .i64)), (.is (.int .i64)), (.is (.int .i64)), (.is (.int .i64)), .any, .any, .any, .any, .any, .any, (.is (.int .i64)), (.is (.int .i64)), (.is (.int .i64)), (.is (.int .i64)), .any, .any, .any, .any, .any, .any, .any, .any, .any, .any, .any, .any, .any, .any, .any, .any, .any, .any, .any, .any, .any, .any, .any, .any, .any, .any, .any, .any, .any, .any, .any, .any, .any, .any, .any, .any, .any, .any, .any, .any, .any, .any, .any, .any, .any, .any, .any, .any, .any, .any, .any], hp := [] }
def keep_rnth : List Nat := [0, 1, 2, 3, 10, 11, 12, 13]
def kx_rnth : List Nat := [3, 8, 9, 12]
noncomputable def sp_rnth : LSpec (X := els) := { keep := keep_rnth, m := 0, mv := [] }
def S_rnth (v0 v1 v2 v3 v10 v11 v12 v13 : Int) : St (X := els) := { tm := [.is (.int .i64 v0), .is (.int .i64 v1), .is (.int .i64 v2), .is (.int .i64 v3), .any, .any, .any, .any, .any, .any, .is (.int .i64 v10), .is (.int .i64 v11), .is (.int .i64 v12), .is (.int .i64 v13), .any, .any, .any, .any, .any, .any, .any, .any, .any, .any, .any, .any, .any, .any, .any, .any, .any, .any, .any, .any, .any, .any, .any, .any, .any, .any, .any, .any, .any, .any, .any, .any, .any, .any, .any, .any, .any, .any, .any, .any, .any, .any, .any, .any, .any, .any, .any, .any, .any, .any, .any], hp := [] }
def X_rnth_0 (v3 v10 v13 : Int) : St (X := els) := { tm := [.any, .any, .any, .is (.int .i64 v3), .any, .any, .any, .any, .is (.int .i64 (IntKind.wrap IntKind.i64 (v10 + v13))), .is (.int .i64 0), .any, .any, .is (.int .i64 (IntKind.wrap IntKind.i64 (v10 + v13))), .any, .any, .any, .any, .any, .any, .any, .any, .any, .any, .any, .any, .any, .any, .any, .any, .any, .any, .any, .any, .any, .any, .any, .any, .any, .any, .any, .any, .any, .any, .any, .any, .any, .any, .any, .any, .any, .any, .any, .any, .any, .any, .any, .any, .any, .any, .any, .any, .any, .any, .any, .any], hp := [] }
def X_rnth_1 (v3 v12 : Int) : St (X := els) := { tm := [.any, .any, .any, .is (.int .i64 v3), .any, .any, .any, .any, .any, .any, .any, .any, .is (.int .i64 v12), .any, .any, .any, .any, .any, .any, .any, .any, .any, .any, .any, .any, .any, .any, .any, .any, .any, .any, .any, .any, .any, .any, .any, .any, .any, .any, .any, .any, .any, .any, .any, .any, .any, .any, .any, .any, .any, .any, .any, .any, .any, .any, .any, .any, .any, .any, .any, .any, .any, .any, .any, .any], hp := [] }
noncomputable def c_rnth : Code := ((codeB [false, true, false, true, true, true, true, true, true] (Tryz.f88.body.getD .skip)).getD .skip |> fun c => match c with | .loop c => c | c => c)
noncomputable def I_rnth (F d n : Nat) (s : St (X := els)) : Option (Ex × St (X := els)) := iter none (fun s' K' => exec k74 none (callD k74 none F d) F 88 2036 c_rnth s' (forgetK none sp_rnth K')) n s (fun e s => some (e, dropS kx_rnth s))
noncomputable def g_rnth : List LV → List (Blk (X := els)) → List SV → Ends3
  | [], [], xs => takeI xs fun v0 xs => takeI xs fun v1 xs => takeI xs fun v2 xs => takeI xs fun v3 xs => takeI xs fun v10 xs => takeI xs fun v11 xs => takeI xs fun v12 xs => takeI xs fun v13 xs => takeE xs (some (v10 == firstG v0 v1 && (monthB v0 v1 && (!nthBad v2 v3 && (v11 == 0 && (v12 == 0 && v13 == 0)))), [(endN v3 (cntN v0 v1 v2), .exit 0, (X_rnth_1 v3 (fromG v0 v1 v2 + 7 * (cntN v0 v1 v2 - 1))))], .ret, (X_rnth_0 v3 v10 (fromG v0 v1 v2 + 7 * (v3 - 1) - v10))))
  | _, _, _ => none
noncomputable def k75 : Cfg (X := els) := { k74 with lp := (88, 1018, { keep := keep_rnth, m := 0, mv := sp_rnth.mv, ctx := 0, con := some ((P_rnth).con g_rnth) }) :: k74.lp }

noncomputable def s_newelref02_Nth := (Sig.cons false (Dat.ofCel (Cel.int .i64)) (Sig.cons false (Dat.ofCel (Cel.int .i64)) (Sig.cons false (Dat.ofCel (Cel.int .i64)) (Sig.cons false (Dat.ofCel (Cel.int .i64)) Sig.nil))))
noncomputable def r_newelref02_Nth := (Res.tup2 (Res.int .i64) (Res.int .i64))
noncomputable def k76 : Cfg (X := els) := { k75 with E := (88, (s_newelref02_Nth).con r_newelref02_Nth (fun x => (nthG x.1 x.2.1 x.2.2.1 x.2.2.2.1)) (fun _ => true)) :: k75.E }

noncomputable def s_newelref06_turn := (Sig.cons true (Dat.ofCel cTurn) Sig.nil)
noncomputable def r_newelref06_turn := Res.bool
noncomputable def k77 : Cfg (X := els) := { k76 with E := (53, (s_newelref06_turn).con r_newelref06_turn (fun x => (turnB x.1)) (fun _ => true)) :: k76.E }

noncomputable def s_newelref06_Check := (Sig.cons true (Dat.ofCel cZone) Sig.nil)
noncomputable def r_newelref06_Check := (Res.int .i64)
noncomputable def k78 : Cfg (X := els) := { k77 with E := (36, (s_newelref06_Check).con r_newelref06_Check (fun x => (zone_Check x.1)) (fun _ => true)) :: k77.E }

noncomputable def s_newelref06_When := (Sig.cons true (Dat.ofCel cZone) (Sig.cons true (Dat.ofCel cTurn) (Sig.cons false (Dat.ofCel (Cel.int .i64)) Sig.nil)))
noncomputable def r_newelref06_When := (Res.int .i64)
noncomputable def k79 : Cfg (X := els) := { k78 with E := (82, (s_newelref06_When).con r_newelref06_When (fun x => (whenG x.1 x.2.1 x.2.2.1)) (fun x => whenOk x.1 x.2.1 x.2.2.1)) :: k78.E }

noncomputable def s_newelref06_Summer := (Sig.cons true (Dat.ofCel cZone) (Sig.cons false (Dat.ofCel (Cel.int .i64)) Sig.nil))
noncomputable def r_newelref06_Summer := Res.bool
noncomputable def k80 : Cfg (X := els) := { k79 with E := (72, (s_newelref06_Summer).con r_newelref06_Summer (fun x => (summerR x.1 x.2.1)) (fun x => summerOk x.1 x.2.1)) :: k79.E }

noncomputable def s_newelref06_Told := (Sig.cons true (Dat.ofCel cZone) (Sig.cons false (Dat.ofCel (Cel.int .i64)) Sig.nil))
noncomputable def r_newelref06_Told := (Res.int .i64)
noncomputable def k81 : Cfg (X := els) := { k80 with E := (57, (s_newelref06_Told).con r_newelref06_Told (fun x => (toldR x.1 x.2.1)) (fun x => summerOk x.1 x.2.1)) :: k80.E }

noncomputable def s_newelref06_Instants := (Sig.cons true (Dat.ofCel cZone) (Sig.cons false (Dat.ofCel (Cel.int .i64)) (Sig.cons false (Dat.ofCel (Cel.int .i64)) Sig.nil)))
noncomputable def r_newelref06_Instants := (Out.one (Own.sl (.int : El)))
noncomputable def k82 : Cfg (X := els) := { k81 with H := (41, (s_newelref06_Instants).hcon r_newelref06_Instants (fun x => (instR x.1 x.2.1 x.2.2.1)) (fun x => instRok x.1 x.2.1 x.2.2.1)) :: k81.H }

noncomputable def s_newelref14_Day := (Sig.cons false (Dat.ofCel (Cel.int .i64)) Sig.nil)
noncomputable def r_newelref14_Day := Res.bool
noncomputable def k83 : Cfg (X := els) := { k82 with E := (18, (s_newelref14_Day).con r_newelref14_Day (fun x => (day14 x.1)) (fun _ => true)) :: k82.E }

def P_rmom : Pat (X := els) := { tm := [.any, .any, .any, (.is (.lit (AV.ptr 0 0))), .any, .any, .any, (.is (.int .i64)), (.is (.slW 2 1)), .any, .any, .any, .any, .any, .any, .any, .any, .any, .any, .any, .any, .any, .any, .any, .any, .any, .any, .any, .any, .any, .any, .any, .any], hp := [(.raw [(.int .i64), (.int .i64), (.int .i64), (.int .i64), (.int .i64), (.int .i64), (.int .i64), (.int .i64), (.int .i64), (.int .i64)]), .dead, (.vec (.int : El) true)] }
def keep_rmom : List Nat := [3, 7, 8]
def kx_rmom : List Nat := [6, 8]
noncomputable def sp_rmom : LSpec (X := els) := { keep := keep_rmom, m := 2, mv := [(.slot 8, (.int : El))] }
def S_rmom (l2 : List (Int)) (v0_0 v0_1 v0_2 v0_3 v0_4 v0_5 v0_6 v0_7 v0_8 v0_9 v7 : Int) : St (X := els) := { tm := [.any, .any, .any, .is (.ptr 0 0), .any, .any, .any, .is (.int .i64 v7), .is (.sl 2 0 1 (List.length l2) none), .any, .any, .any, .any, .any, .any, .any, .any, .any, .any, .any, .any, .any, .any, .any, .any, .any, .any, .any, .any, .any, .any, .any, .any], hp := [.raw [.int .i64 v0_0, .int .i64 v0_1, .int .i64 v0_2, .int .i64 v0_3, .int .i64 v0_4, .int .i64 v0_5, .int .i64 v0_6, .int .i64 v0_7, .int .i64 v0_8, .int .i64 v0_9], .dead, Blk.vec El.int l2 true] }
def X_rmom_0 (l2 : List (Int)) (v0_0 v0_1 v0_2 v0_3 v0_4 v0_5 v0_6 v0_7 v0_8 v0_9 : Int) : St (X := els) := { tm := [.any, .any, .any, .any, .any, .any, .any, .any, .is (.sl 2 0 1 (List.length l2) none), .any, .any, .any, .any, .any, .any, .any, .any, .any, .any, .any, .any, .any, .any, .any, .any, .any, .any, .any, .any, .any, .any, .any, .any], hp := [.raw [.int .i64 v0_0, .int .i64 v0_1, .int .i64 v0_2, .int .i64 v0_3, .int .i64 v0_4, .int .i64 v0_5, .int .i64 v0_6, .int .i64 v0_7, .int .i64 v0_8, .int .i64 v0_9], .dead, Blk.vec El.int l2 true] }
noncomputable def c_rmom : Code := ((codeB [false, false, true, true, true] (Tryz.f20.body.getD .skip)).getD .skip |> fun c => match c with | .loop c => c | c => c)
noncomputable def I_rmom (F d n : Nat) (s : St (X := els)) : Option (Ex × St (X := els)) := iter none (fun s' K' => exec k83 none (callD k83 none F d) F 20 120 c_rmom s' (forgetK none sp_rmom K')) n s (fun e s => some (e, dropS kx_rmom s))
noncomputable def g_rmom : List LV → List (Blk (X := els)) → List SV → Ends3
  | [⟨El.int, l2⟩], [], xs => takeI xs fun v0_0 xs => takeI xs fun v0_1 xs => takeI xs fun v0_2 xs => takeI xs fun v0_3 xs => takeI xs fun v0_4 xs => takeI xs fun v0_5 xs => takeI xs fun v0_6 xs => takeI xs fun v0_7 xs => takeI xs fun v0_8 xs => takeI xs fun v0_9 xs => takeI xs fun v7 xs => takeE xs (some (zone_Check (⟨v0_0, v0_1, ⟨v0_2, v0_3, v0_4, v0_5⟩, ⟨v0_6, v0_7, v0_8, v0_9⟩⟩ : Zone) == 0 && (toldOk v7 && (sameI l2 (rowR (⟨v0_0, v0_1, ⟨v0_2, v0_3, v0_4, v0_5⟩, ⟨v0_6, v0_7, v0_8, v0_9⟩⟩ : Zone) v7) && reachIn (rowR (⟨v0_0, v0_1, ⟨v0_2, v0_3, v0_4, v0_5⟩, ⟨v0_6, v0_7, v0_8, v0_9⟩⟩ : Zone)) 200 v7)), [], .exit 0, (X_rmom_0 (rowR (⟨v0_0, v0_1, ⟨v0_2, v0_3, v0_4, v0_5⟩, ⟨v0_6, v0_7, v0_8, v0_9⟩⟩ : Zone) (whereIn (rowR (⟨v0_0, v0_1, ⟨v0_2, v0_3, v0_4, v0_5⟩, ⟨v0_6, v0_7, v0_8, v0_9⟩⟩ : Zone)) 200 v7)) v0_0 v0_1 v0_2 v0_3 v0_4 v0_5 v0_6 v0_7 v0_8 v0_9)))
  | _, _, _ => none
noncomputable def k84 : Cfg (X := els) := { k83 with lp := (20, 60, { keep := keep_rmom, m := 2, mv := sp_rmom.mv, ctx := 0, con := some ((P_rmom).con g_rmom) }) :: k83.lp }

noncomputable def s_newelref14_Moment := (Sig.cons true (Dat.ofCel cZone) (Sig.cons false (Dat.ofCel (Cel.int .i64)) (Sig.cons false (Dat.ofCel (Cel.int .i64)) Sig.nil)))
noncomputable def r_newelref14_Moment := (Res.int .i64)
noncomputable def k85 : Cfg (X := els) := { k84 with E := (20, (s_newelref14_Moment).con r_newelref14_Moment (fun x => (momR x.1 x.2.1 x.2.2.1)) (fun x => momRok x.1 x.2.1 x.2.2.1)) :: k84.E }

noncomputable def s_newelref10_timed := (Sig.cons true (Dat.ofCel cWindow) Sig.nil)
noncomputable def r_newelref10_timed := Res.bool
noncomputable def k86 : Cfg (X := els) := { k85 with E := (38, (s_newelref10_timed).con r_newelref10_timed (fun x => (timedB x.1)) (fun _ => true)) :: k85.E }

noncomputable def s_newelref10_tick := (Sig.cons false (Dat.ofCel (Cel.int .i64)) Sig.nil)
noncomputable def r_newelref10_tick := Res.bool
noncomputable def k87 : Cfg (X := els) := { k86 with E := (52, (s_newelref10_tick).con r_newelref10_tick (fun x => (tickB x.1)) (fun _ => true)) :: k86.E }

noncomputable def s_newelref10_Window := (Sig.cons true (Dat.ofCel cWindow) Sig.nil)
noncomputable def r_newelref10_Window := Res.bool
noncomputable def k88 : Cfg (X := els) := { k87 with E := (17, (s_newelref10_Window).con r_newelref10_Window (fun x => (windowB x.1)) (fun _ => true)) :: k87.E }

noncomputable def s_newelref07_Check := (Sig.cons true (Dat.ofCel cSun) Sig.nil)
noncomputable def r_newelref07_Check := (Res.int .i64)
noncomputable def k89 : Cfg (X := els) := { k88 with E := (37, (s_newelref07_Check).con r_newelref07_Check (fun x => (sunset_Check x.1)) (fun _ => true)) :: k88.E }

noncomputable def s_newelref10_times := (Sig.cons true dConfig Sig.nil)
noncomputable def r_newelref10_times := Res.bool
noncomputable def k90 : Cfg (X := els) := { k89 with E := (35, (s_newelref10_times).con r_newelref10_times (fun x => (timesC x.1)) (fun _ => true)) :: k89.E }

def P_rstops : Pat (X := els) := { tm := [.any, (.is (.lit (AV.ptr 2 0))), .any, (.is (.int .i64)), .any, .any, .any, .any, .any, .any, .any, .any, .any, .any, .any, .any, .any, .any, .any, .any, .any, .any, .any, .any, .any, .any, .any, .any, .any, .any, .any, .any, .any, .any, .any, .any, .any, .any, .any, .any, .any, .any, .any, .any, .any, .any, .any, .any, .any], hp := [(.vec (.int : El) false), (.vec (.window : El) false), (.raw [(.int .i64), (.int .i64), (.int .i64), (.slW 0 1), (.int .i64), (.int .i64), (.int .i64), (.int .i64), (.int .i64), (.int .i64), (.int .i64), (.int .i64), (.int .i64), (.int .i64), (.int .i64), (.int .i64), (.int .i64), (.int .i64), (.int .i64), (.int .i64), (.int .i64), (.int .i64), (.int .i64), (.int .i64), (.int .i64), (.int .i64), (.int .i64), (.int .i64), (.int .i64), (.int .i64), (.int .i64), (.int .i64), (.int .i64), (.int .i64), (.int .i64), .bool, (.slW 1 7)])] }
def keep_rstops : List Nat := [1, 3]
def kx_rstops : List Nat := [1, 2]
noncomputable def sp_rstops : LSpec (X := els) := { keep := keep_rstops, m := 3, mv := [] }
def S_rstops (l0 : List (Int)) (l1 : List (Window)) (v2_0 v2_1 v2_2 v2_4 v2_5 v2_6 v2_7 v2_8 v2_9 v2_10 v2_11 v2_12 v2_13 v2_14 v2_15 v2_16 v2_17 v2_18 v2_19 v2_20 v2_21 v2_22 v2_23 v2_24 v2_25 v2_26 v2_27 v2_28 v2_29 v2_30 v2_31 v2_32 v2_33 v2_34 : Int) (v2_35 : Bool) (v3 : Int) : St (X := els) := { tm := [.any, .is (.ptr 2 0), .any, .is (.int .i64 v3), .any, .any, .any, .any, .any, .any, .any, .any, .any, .any, .any, .any, .any, .any, .any, .any, .any, .any, .any, .any, .any, .any, .any, .any, .any, .any, .any, .any, .any, .any, .any, .any, .any, .any, .any, .any, .any, .any, .any, .any, .any, .any, .any, .any, .any], hp := [Blk.vec El.int l0 false, Blk.vec El.window l1 false, .raw [.int .i64 v2_0, .int .i64 v2_1, .int .i64 v2_2, .sl 0 0 1 (List.length l0) none, .int .i64 v2_4, .int .i64 v2_5, .int .i64 v2_6, .int .i64 v2_7, .int .i64 v2_8, .int .i64 v2_9, .int .i64 v2_10, .int .i64 v2_11, .int .i64 v2_12, .int .i64 v2_13, .int .i64 v2_14, .int .i64 v2_15, .int .i64 v2_16, .int .i64 v2_17, .int .i64 v2_18, .int .i64 v2_19, .int .i64 v2_20, .int .i64 v2_21, .int .i64 v2_22, .int .i64 v2_23, .int .i64 v2_24, .int .i64 v2_25, .int .i64 v2_26, .int .i64 v2_27, .int .i64 v2_28, .int .i64 v2_29, .int .i64 v2_30, .int .i64 v2_31, .int .i64 v2_32, .int .i64 v2_33, .int .i64 v2_34, .bool v2_35, .sl 1 0 7 (List.length l1) none]] }
def X_rstops_0 (l0 : List (Int)) (l1 : List (Window)) (v2_0 v2_1 v2_2 v2_4 v2_5 v2_6 v2_7 v2_8 v2_9 v2_10 v2_11 v2_12 v2_13 v2_14 v2_15 v2_16 v2_17 v2_18 v2_19 v2_20 v2_21 v2_22 v2_23 v2_24 v2_25 v2_26 v2_27 v2_28 v2_29 v2_30 v2_31 v2_32 v2_33 v2_34 : Int) (v2_35 : Bool) : St (X := els) := { tm := [.any, .is (.ptr 2 0), .is (.bool false), .any, .any, .any, .any, .any, .any, .any, .any, .any, .any, .any, .any, .any, .any, .any, .any, .any, .any, .any, .any, .any, .any, .any, .any, .any, .any, .any, .any, .any, .any, .any, .any, .any, .any, .any, .any, .any, .any, .any, .any, .any, .any, .any, .any, .any, .any], hp := [Blk.vec El.int l0 false, Blk.vec El.window l1 false, .raw [.int .i64 v2_0, .int .i64 v2_1, .int .i64 v2_2, .sl 0 0 1 (List.length l0) none, .int .i64 v2_4, .int .i64 v2_5, .int .i64 v2_6, .int .i64 v2_7, .int .i64 v2_8, .int .i64 v2_9, .int .i64 v2_10, .int .i64 v2_11, .int .i64 v2_12, .int .i64 v2_13, .int .i64 v2_14, .int .i64 v2_15, .int .i64 v2_16, .int .i64 v2_17, .int .i64 v2_18, .int .i64 v2_19, .int .i64 v2_20, .int .i64 v2_21, .int .i64 v2_22, .int .i64 v2_23, .int .i64 v2_24, .int .i64 v2_25, .int .i64 v2_26, .int .i64 v2_27, .int .i64 v2_28, .int .i64 v2_29, .int .i64 v2_30, .int .i64 v2_31, .int .i64 v2_32, .int .i64 v2_33, .int .i64 v2_34, .bool v2_35, .sl 1 0 7 (List.length l1) none]] }
def X_rstops_1 (l0 : List (Int)) (l1 : List (Window)) (v2_0 v2_1 v2_2 v2_4 v2_5 v2_6 v2_7 v2_8 v2_9 v2_10 v2_11 v2_12 v2_13 v2_14 v2_15 v2_16 v2_17 v2_18 v2_19 v2_20 v2_21 v2_22 v2_23 v2_24 v2_25 v2_26 v2_27 v2_28 v2_29 v2_30 v2_31 v2_32 v2_33 v2_34 : Int) (v2_35 : Bool) : St (X := els) := { tm := [.any, .is (.ptr 2 0), .any, .any, .any, .any, .any, .any, .any, .any, .any, .any, .any, .any, .any, .any, .any, .any, .any, .any, .any, .any, .any, .any, .any, .any, .any, .any, .any, .any, .any, .any, .any, .any, .any, .any, .any, .any, .any, .any, .any, .any, .any, .any, .any, .any, .any, .any, .any], hp := [Blk.vec El.int l0 false, Blk.vec El.window l1 false, .raw [.int .i64 v2_0, .int .i64 v2_1, .int .i64 v2_2, .sl 0 0 1 (List.length l0) none, .int .i64 v2_4, .int .i64 v2_5, .int .i64 v2_6, .int .i64 v2_7, .int .i64 v2_8, .int .i64 v2_9, .int .i64 v2_10, .int .i64 v2_11, .int .i64 v2_12, .int .i64 v2_13, .int .i64 v2_14, .int .i64 v2_15, .int .i64 v2_16, .int .i64 v2_17, .int .i64 v2_18, .int .i64 v2_19, .int .i64 v2_20, .int .i64 v2_21, .int .i64 v2_22, .int .i64 v2_23, .int .i64 v2_24, .int .i64 v2_25, .int .i64 v2_26, .int .i64 v2_27, .int .i64 v2_28, .int .i64 v2_29, .int .i64 v2_30, .int .i64 v2_31, .int .i64 v2_32, .int .i64 v2_33, .int .i64 v2_34, .bool v2_35, .sl 1 0 7 (List.length l1) none]] }
noncomputable def c_rstops : Code := ((codeB [false, true, false, true] (Tryz.f34.body.getD .skip)).getD .skip |> fun c => match c with | .loop c => c | c => c)
noncomputable def I_rstops (F d n : Nat) (s : St (X := els)) : Option (Ex × St (X := els)) := iter none (fun s' K' => exec k90 none (callD k90 none F d) F 34 52 c_rstops s' (forgetK none sp_rstops K')) n s (fun e s => some (e, dropS kx_rstops s))
noncomputable def g_rstops : List LV → List (Blk (X := els)) → List SV → Ends3
  | [⟨El.int, l0⟩, ⟨El.window, l1⟩], [], xs => takeI xs fun v2_0 xs => takeI xs fun v2_1 xs => takeI xs fun v2_2 xs => takeI xs fun v2_4 xs => takeI xs fun v2_5 xs => takeI xs fun v2_6 xs => takeI xs fun v2_7 xs => takeI xs fun v2_8 xs => takeI xs fun v2_9 xs => takeI xs fun v2_10 xs => takeI xs fun v2_11 xs => takeI xs fun v2_12 xs => takeI xs fun v2_13 xs => takeI xs fun v2_14 xs => takeI xs fun v2_15 xs => takeI xs fun v2_16 xs => takeI xs fun v2_17 xs => takeI xs fun v2_18 xs => takeI xs fun v2_19 xs => takeI xs fun v2_20 xs => takeI xs fun v2_21 xs => takeI xs fun v2_22 xs => takeI xs fun v2_23 xs => takeI xs fun v2_24 xs => takeI xs fun v2_25 xs => takeI xs fun v2_26 xs => takeI xs fun v2_27 xs => takeI xs fun v2_28 xs => takeI xs fun v2_29 xs => takeI xs fun v2_30 xs => takeI xs fun v2_31 xs => takeI xs fun v2_32 xs => takeI xs fun v2_33 xs => takeI xs fun v2_34 xs => takeB xs fun v2_35 xs => takeI xs fun v3 xs => takeE xs (some (decide (l0.length ≤ 1048576) && v3 == 0, [(chkR v2_0 none l0, .exit 0, (X_rstops_1 l0 l1 v2_0 v2_1 v2_2 v2_4 v2_5 v2_6 v2_7 v2_8 v2_9 v2_10 v2_11 v2_12 v2_13 v2_14 v2_15 v2_16 v2_17 v2_18 v2_19 v2_20 v2_21 v2_22 v2_23 v2_24 v2_25 v2_26 v2_27 v2_28 v2_29 v2_30 v2_31 v2_32 v2_33 v2_34 v2_35))], .ret, (X_rstops_0 l0 l1 v2_0 v2_1 v2_2 v2_4 v2_5 v2_6 v2_7 v2_8 v2_9 v2_10 v2_11 v2_12 v2_13 v2_14 v2_15 v2_16 v2_17 v2_18 v2_19 v2_20 v2_21 v2_22 v2_23 v2_24 v2_25 v2_26 v2_27 v2_28 v2_29 v2_30 v2_31 v2_32 v2_33 v2_34 v2_35)))
  | _, _, _ => none
noncomputable def k91 : Cfg (X := els) := { k90 with lp := (34, 26, { keep := keep_rstops, m := 3, mv := sp_rstops.mv, ctx := 0, con := some ((P_rstops).con g_rstops) }) :: k90.lp }

noncomputable def s_newelref10_stops := (Sig.cons true dConfig Sig.nil)
noncomputable def r_newelref10_stops := Res.bool
noncomputable def k92 : Cfg (X := els) := { k91 with E := (34, (s_newelref10_stops).con r_newelref10_stops (fun x => (ref_stops x.1)) (fun x => smallC x.1)) :: k91.E }

def P_rwins : Pat (X := els) := { tm := [.any, (.is (.lit (AV.ptr 2 0))), .any, .any, .any, .any, .any, (.is (.int .i64)), .any, .any, .any, .any, .any, .any, .any, .any, .any, .any, .any, .any, .any, .any, .any, .any, .any, .any, .any, .any, .any, .any, .any, .any, .any, .any, .any, .any, .any, .any, .any, .any, .any, .any, .any, .any, .any, .any, .any, .any, .any, .any, .any, .any, .any, .any, .any, .any, .any, .any, .any, .any, .any, .any, .any, .any, .any, .any, .any, .any, .any, .any, .any, .any, .any, .any, .any, .any, .any, .any], hp := [(.vec (.int : El) false), (.vec (.window : El) false), (.raw [(.int .i64), (.int .i64), (.int .i64), (.slW 0 1), (.int .i64), (.int .i64), (.int .i64), (.int .i64), (.int .i64), (.int .i64), (.int .i64), (.int .i64), (.int .i64), (.int .i64), (.int .i64), (.int .i64), (.int .i64), (.int .i64), (.int .i64), (.int .i64), (.int .i64), (.int .i64), (.int .i64), (.int .i64), (.int .i64), (.int .i64), (.int .i64), (.int .i64), (.int .i64), (.int .i64), (.int .i64), (.int .i64), (.int .i64), (.int .i64), (.int .i64), .bool, (.slW 1 7)])] }
def keep_rwins : List Nat := [1, 7]
def kx_rwins : List Nat := [2]
noncomputable def sp_rwins : LSpec (X := els) := { keep := keep_rwins, m := 3, mv := [] }
def S_rwins (l0 : List (Int)) (l1 : List (Window)) (v2_0 v2_1 v2_2 v2_4 v2_5 v2_6 v2_7 v2_8 v2_9 v2_10 v2_11 v2_12 v2_13 v2_14 v2_15 v2_16 v2_17 v2_18 v2_19 v2_20 v2_21 v2_22 v2_23 v2_24 v2_25 v2_26 v2_27 v2_28 v2_29 v2_30 v2_31 v2_32 v2_33 v2_34 : Int) (v2_35 : Bool) (v7 : Int) : St (X := els) := { tm := [.any, .is (.ptr 2 0), .any, .any, .any, .any, .any, .is (.int .i64 v7), .any, .any, .any, .any, .any, .any, .any, .any, .any, .any, .any, .any, .any, .any, .any, .any, .any, .any, .any, .any, .any, .any, .any, .any, .any, .any, .any, .any, .any, .any, .any, .any, .any, .any, .any, .any, .any, .any, .any, .any, .any, .any, .any, .any, .any, .any, .any, .any, .any, .any, .any, .any, .any, .any, .any, .any, .any, .any, .any, .any, .any, .any, .any, .any, .any, .any, .any, .any, .any, .any], hp := [Blk.vec El.int l0 false, Blk.vec El.window l1 false, .raw [.int .i64 v2_0, .int .i64 v2_1, .int .i64 v2_2, .sl 0 0 1 (List.length l0) none, .int .i64 v2_4, .int .i64 v2_5, .int .i64 v2_6, .int .i64 v2_7, .int .i64 v2_8, .int .i64 v2_9, .int .i64 v2_10, .int .i64 v2_11, .int .i64 v2_12, .int .i64 v2_13, .int .i64 v2_14, .int .i64 v2_15, .int .i64 v2_16, .int .i64 v2_17, .int .i64 v2_18, .int .i64 v2_19, .int .i64 v2_20, .int .i64 v2_21, .int .i64 v2_22, .int .i64 v2_23, .int .i64 v2_24, .int .i64 v2_25, .int .i64 v2_26, .int .i64 v2_27, .int .i64 v2_28, .int .i64 v2_29, .int .i64 v2_30, .int .i64 v2_31, .int .i64 v2_32, .int .i64 v2_33, .int .i64 v2_34, .bool v2_35, .sl 1 0 7 (List.length l1) none]] }
def X_rwins_0 (l0 : List (Int)) (l1 : List (Window)) (v2_0 v2_1 v2_2 v2_4 v2_5 v2_6 v2_7 v2_8 v2_9 v2_10 v2_11 v2_12 v2_13 v2_14 v2_15 v2_16 v2_17 v2_18 v2_19 v2_20 v2_21 v2_22 v2_23 v2_24 v2_25 v2_26 v2_27 v2_28 v2_29 v2_30 v2_31 v2_32 v2_33 v2_34 : Int) (v2_35 : Bool) : St (X := els) := { tm := [.any, .any, .is (.int .i64 104), .any, .any, .any, .any, .any, .any, .any, .any, .any, .any, .any, .any, .any, .any, .any, .any, .any, .any, .any, .any, .any, .any, .any, .any, .any, .any, .any, .any, .any, .any, .any, .any, .any, .any, .any, .any, .any, .any, .any, .any, .any, .any, .any, .any, .any, .any, .any, .any, .any, .any, .any, .any, .any, .any, .any, .any, .any, .any, .any, .any, .any, .any, .any, .any, .any, .any, .any, .any, .any, .any, .any, .any, .any, .any, .any], hp := [Blk.vec El.int l0 false, Blk.vec El.window l1 false, .raw [.int .i64 v2_0, .int .i64 v2_1, .int .i64 v2_2, .sl 0 0 1 (List.length l0) none, .int .i64 v2_4, .int .i64 v2_5, .int .i64 v2_6, .int .i64 v2_7, .int .i64 v2_8, .int .i64 v2_9, .int .i64 v2_10, .int .i64 v2_11, .int .i64 v2_12, .int .i64 v2_13, .int .i64 v2_14, .int .i64 v2_15, .int .i64 v2_16, .int .i64 v2_17, .int .i64 v2_18, .int .i64 v2_19, .int .i64 v2_20, .int .i64 v2_21, .int .i64 v2_22, .int .i64 v2_23, .int .i64 v2_24, .int .i64 v2_25, .int .i64 v2_26, .int .i64 v2_27, .int .i64 v2_28, .int .i64 v2_29, .int .i64 v2_30, .int .i64 v2_31, .int .i64 v2_32, .int .i64 v2_33, .int .i64 v2_34, .bool v2_35, .sl 1 0 7 (List.length l1) none]] }
def X_rwins_1 (l0 : List (Int)) (l1 : List (Window)) (v2_0 v2_1 v2_2 v2_4 v2_5 v2_6 v2_7 v2_8 v2_9 v2_10 v2_11 v2_12 v2_13 v2_14 v2_15 v2_16 v2_17 v2_18 v2_19 v2_20 v2_21 v2_22 v2_23 v2_24 v2_25 v2_26 v2_27 v2_28 v2_29 v2_30 v2_31 v2_32 v2_33 v2_34 : Int) (v2_35 : Bool) : St (X := els) := { tm := [.any, .any, .any, .any, .any, .any, .any, .any, .any, .any, .any, .any, .any, .any, .any, .any, .any, .any, .any, .any, .any, .any, .any, .any, .any, .any, .any, .any, .any, .any, .any, .any, .any, .any, .any, .any, .any, .any, .any, .any, .any, .any, .any, .any, .any, .any, .any, .any, .any, .any, .any, .any, .any, .any, .any, .any, .any, .any, .any, .any, .any, .any, .any, .any, .any, .any, .any, .any, .any, .any, .any, .any, .any, .any, .any, .any, .any, .any], hp := [Blk.vec El.int l0 false, Blk.vec El.window l1 false, .raw [.int .i64 v2_0, .int .i64 v2_1, .int .i64 v2_2, .sl 0 0 1 (List.length l0) none, .int .i64 v2_4, .int .i64 v2_5, .int .i64 v2_6, .int .i64 v2_7, .int .i64 v2_8, .int .i64 v2_9, .int .i64 v2_10, .int .i64 v2_11, .int .i64 v2_12, .int .i64 v2_13, .int .i64 v2_14, .int .i64 v2_15, .int .i64 v2_16, .int .i64 v2_17, .int .i64 v2_18, .int .i64 v2_19, .int .i64 v2_20, .int .i64 v2_21, .int .i64 v2_22, .int .i64 v2_23, .int .i64 v2_24, .int .i64 v2_25, .int .i64 v2_26, .int .i64 v2_27, .int .i64 v2_28, .int .i64 v2_29, .int .i64 v2_30, .int .i64 v2_31, .int .i64 v2_32, .int .i64 v2_33, .int .i64 v2_34, .bool v2_35, .sl 1 0 7 (List.length l1) none]] }
noncomputable def c_rwins : Code := ((codeB [false, true, false, true, true, true, true, true, true, true, true, true, true, true] (Tryz.f16.body.getD .skip)).getD .skip |> fun c => match c with | .loop c => c | c => c)
noncomputable def I_rwins (F d n : Nat) (s : St (X := els)) : Option (Ex × St (X := els)) := iter none (fun s' K' => exec k92 none (callD k92 none F d) F 16 65524 c_rwins s' (forgetK none sp_rwins K')) n s (fun e s => some (e, dropS kx_rwins s))
noncomputable def g_rwins : List LV → List (Blk (X := els)) → List SV → Ends3
  | [⟨El.int, l0⟩, ⟨El.window, l1⟩], [], xs => takeI xs fun v2_0 xs => takeI xs fun v2_1 xs => takeI xs fun v2_2 xs => takeI xs fun v2_4 xs => takeI xs fun v2_5 xs => takeI xs fun v2_6 xs => takeI xs fun v2_7 xs => takeI xs fun v2_8 xs => takeI xs fun v2_9 xs => takeI xs fun v2_10 xs => takeI xs fun v2_11 xs => takeI xs fun v2_12 xs => takeI xs fun v2_13 xs => takeI xs fun v2_14 xs => takeI xs fun v2_15 xs => takeI xs fun v2_16 xs => takeI xs fun v2_17 xs => takeI xs fun v2_18 xs => takeI xs fun v2_19 xs => takeI xs fun v2_20 xs => takeI xs fun v2_21 xs => takeI xs fun v2_22 xs => takeI xs fun v2_23 xs => takeI xs fun v2_24 xs => takeI xs fun v2_25 xs => takeI xs fun v2_26 xs => takeI xs fun v2_27 xs => takeI xs fun v2_28 xs => takeI xs fun v2_29 xs => takeI xs fun v2_30 xs => takeI xs fun v2_31 xs => takeI xs fun v2_32 xs => takeI xs fun v2_33 xs => takeI xs fun v2_34 xs => takeB xs fun v2_35 xs => takeI xs fun v7 xs => takeE xs (some (decide (l1.length ≤ 1048576) && v7 == 0, [(l1.all windowB, .exit 0, (X_rwins_1 l0 l1 v2_0 v2_1 v2_2 v2_4 v2_5 v2_6 v2_7 v2_8 v2_9 v2_10 v2_11 v2_12 v2_13 v2_14 v2_15 v2_16 v2_17 v2_18 v2_19 v2_20 v2_21 v2_22 v2_23 v2_24 v2_25 v2_26 v2_27 v2_28 v2_29 v2_30 v2_31 v2_32 v2_33 v2_34 v2_35))], .ret, (X_rwins_0 l0 l1 v2_0 v2_1 v2_2 v2_4 v2_5 v2_6 v2_7 v2_8 v2_9 v2_10 v2_11 v2_12 v2_13 v2_14 v2_15 v2_16 v2_17 v2_18 v2_19 v2_20 v2_21 v2_22 v2_23 v2_24 v2_25 v2_26 v2_27 v2_28 v2_29 v2_30 v2_31 v2_32 v2_33 v2_34 v2_35)))
  | _, _, _ => none
noncomputable def k93 : Cfg (X := els) := { k92 with lp := (16, 32762, { keep := keep_rwins, m := 3, mv := sp_rwins.mv, ctx := 0, con := some ((P_rwins).con g_rwins) }) :: k92.lp }

noncomputable def s_newelref10_Check := (Sig.cons true dConfig Sig.nil)
noncomputable def r_newelref10_Check := (Res.int .i64)
noncomputable def k94 : Cfg (X := els) := { k93 with E := (16, (s_newelref10_Check).con r_newelref10_Check (fun x => (ref_Check x.1)) (fun x => smallC x.1)) :: k93.E }

noncomputable def s_newelref07_At := (Sig.cons true (Dat.ofCel cSun) (Sig.cons false (Dat.ofCel (Cel.int .i64)) Sig.nil))
noncomputable def r_newelref07_At := (Res.int .i64)
noncomputable def k95 : Cfg (X := els) := { k94 with E := (43, (s_newelref07_At).con r_newelref07_At (fun x => (sunR x.1 x.2.1)) (fun x => sunRok x.1 x.2.1)) :: k94.E }

noncomputable def s_newelref07_Moment := (Sig.cons true (Dat.ofCel cZone) (Sig.cons true (Dat.ofCel cSun) (Sig.cons false (Dat.ofCel (Cel.int .i64)) Sig.nil)))
noncomputable def r_newelref07_Moment := (Res.tup2 (Res.int .i64) (Res.int .i64))
noncomputable def k96 : Cfg (X := els) := { k95 with E := (23, (s_newelref07_Moment).con r_newelref07_Moment (fun x => (sunMom x.1 x.2.1 x.2.2.1)) (fun _ => true)) :: k95.E }

noncomputable def s_newelref03_Leap := (Sig.cons false (Dat.ofCel (Cel.int .i64)) Sig.nil)
noncomputable def r_newelref03_Leap := Res.bool
noncomputable def k97 : Cfg (X := els) := { k96 with E := (81, (s_newelref03_Leap).con r_newelref03_Leap (fun x => (leapM x.1)) (fun x => midW x.1)) :: k96.E }

noncomputable def s_newelref03_May := (Sig.cons false (Dat.ofCel (Cel.int .i64)) Sig.nil)
noncomputable def r_newelref03_May := Res.bool
noncomputable def k98 : Cfg (X := els) := { k97 with E := (80, (s_newelref03_May).con r_newelref03_May (fun x => (recM x.1)) (fun _ => true)) :: k97.E }

def P_rmth : Pat (X := els) := { tm := [(.is (.int .i64)), .any, .any, .any, (.is (.int .i64)), (.is (.int .i64)), .any, .any, .any, .any, .any, .any, .any, .any, .any, .any, .any, .any, .any, .any, .any, .any, .any, .any, .any, .any, .any, .any], hp := [] }
def keep_rmth : List Nat := [0, 4, 5]
def kx_rmth : List Nat := [2, 4]
noncomputable def sp_rmth : LSpec (X := els) := { keep := keep_rmth, m := 0, mv := [] }
def S_rmth (v0 v4 v5 : Int) : St (X := els) := { tm := [.is (.int .i64 v0), .any, .any, .any, .is (.int .i64 v4), .is (.int .i64 v5), .any, .any, .any, .any, .any, .any, .any, .any, .any, .any, .any, .any, .any, .any, .any, .any, .any, .any, .any, .any, .any, .any], hp := [] }
def X_rmth_0 (v4 : Int) : St (X := els) := { tm := [.any, .any, .any, .any, .is (.int .i64 v4), .any, .any, .any, .any, .any, .any, .any, .any, .any, .any, .any, .any, .any, .any, .any, .any, .any, .any, .any, .any, .any, .any, .any], hp := [] }
noncomputable def c_rmth : Code := ((codeB [false, true, false, true, true, true] (Tryz.f86.body.getD .skip)).getD .skip |> fun c => match c with | .loop c => c | c => c)
noncomputable def I_rmth (F d n : Nat) (s : St (X := els)) : Option (Ex × St (X := els)) := iter none (fun s' K' => exec k98 none (callD k98 none F d) F 86 244 c_rmth s' (forgetK none sp_rmth K')) n s (fun e s => some (e, dropS kx_rmth s))
noncomputable def g_rmth : List LV → List (Blk (X := els)) → List SV → Ends3
  | [], [], xs => takeI xs fun v0 xs => takeI xs fun v4 xs => takeI xs fun v5 xs => takeE xs (some (yearM v0 && (decide (1 ≤ v5) && (decide (v5 ≤ v0) && (decide (v0 - v5 ≤ 20) && v4 == monthsM v5))), [], .exit 0, (X_rmth_0 (monthsM v0))))
  | _, _, _ => none
noncomputable def k99 : Cfg (X := els) := { k98 with lp := (86, 122, { keep := keep_rmth, m := 0, mv := sp_rmth.mv, ctx := 0, con := some ((P_rmth).con g_rmth) }) :: k98.lp }

noncomputable def s_newelref03_Months := (Sig.cons false (Dat.ofCel (Cel.int .i64)) Sig.nil)
noncomputable def r_newelref03_Months := (Res.int .i64)
noncomputable def k100 : Cfg (X := els) := { k99 with E := (86, (s_newelref03_Months).con r_newelref03_Months (fun x => (monthsM x.1)) (fun x => yearM x.1)) :: k99.E }

noncomputable def s_newelref03_Molad := (Sig.cons false (Dat.ofCel (Cel.int .i64)) Sig.nil)
noncomputable def r_newelref03_Molad := (Res.agg cMoon)
noncomputable def k101 : Cfg (X := els) := { k100 with E := (78, (s_newelref03_Molad).con r_newelref03_Molad (fun x => (moonR x.1)) (fun x => yearM x.1)) :: k100.E }

noncomputable def s_newelref03_put := (Sig.cons false (Dat.ofCel (Cel.int .i64)) (Sig.cons true (Dat.ofCel cMoon) Sig.nil))
noncomputable def r_newelref03_put := (Res.int .i64)
noncomputable def k102 : Cfg (X := els) := { k101 with E := (87, (s_newelref03_put).con r_newelref03_put (fun x => (putR x.1 x.2.1)) (fun x => putOk x.1 x.2.1)) :: k101.E }

noncomputable def s_newelref03_Delay := (Sig.cons false (Dat.ofCel (Cel.int .i64)) Sig.nil)
noncomputable def r_newelref03_Delay := (Res.int .i64)
noncomputable def k103 : Cfg (X := els) := { k102 with E := (79, (s_newelref03_Delay).con r_newelref03_Delay (fun x => (delayM x.1)) (fun x => yearM x.1)) :: k102.E }

noncomputable def s_newelref03_NewYear := (Sig.cons false (Dat.ofCel (Cel.int .i64)) Sig.nil)
noncomputable def r_newelref03_NewYear := (Res.int .i64)
noncomputable def k104 : Cfg (X := els) := { k103 with E := (70, (s_newelref03_NewYear).con r_newelref03_NewYear (fun x => (newY x.1)) (fun x => yearM x.1)) :: k103.E }

noncomputable def s_newelref03_Len := (Sig.cons false (Dat.ofCel (Cel.int .i64)) Sig.nil)
noncomputable def r_newelref03_Len := (Res.int .i64)
noncomputable def k105 : Cfg (X := els) := { k104 with E := (73, (s_newelref03_Len).con r_newelref03_Len (fun x => (lenM x.1)) (fun x => yearM2 x.1)) :: k104.E }

noncomputable def s_newelref04_Days := (Sig.cons false (Dat.ofCel (Cel.int .i64)) (Sig.cons false (Dat.ofCel (Cel.int .i64)) Sig.nil))
noncomputable def r_newelref04_Days := (Res.int .i64)
noncomputable def k106 : Cfg (X := els) := { k105 with E := (71, (s_newelref04_Days).con r_newelref04_Days (fun x => (daysH x.1 x.2.1)) (fun _ => true)) :: k105.E }

noncomputable def s_newelref04_First := Sig.nil
noncomputable def r_newelref04_First := (Res.int .i64)
noncomputable def k107 : Cfg (X := els) := { k106 with E := (58, (s_newelref04_First).con r_newelref04_First (fun _ => firstH) (fun _ => true)) :: k106.E }

noncomputable def s_newelref04_Last := Sig.nil
noncomputable def r_newelref04_Last := (Res.int .i64)
noncomputable def k108 : Cfg (X := els) := { k107 with E := (59, (s_newelref04_Last).con r_newelref04_Last (fun _ => lastH) (fun _ => true)) :: k107.E }

def P_seek : Pat (X := els) := { tm := [(.is (.int .i64)), .any, .any, (.is (.int .i64)), (.is (.int .i64)), .any, .any, .any, .any, .any, .any, .any, .any, .any, .any, .any, .any, .any, .any, .any, .any], hp := [] }
def keep_seek : List Nat := [0, 3, 4]
def kx_seek : List Nat := [2, 3]
noncomputable def sp_seek : LSpec (X := els) := { keep := keep_seek, m := 0, mv := [] }
def S_seek (v0 v3 v4 : Int) : St (X := els) := { tm := [.is (.int .i64 v0), .any, .any, .is (.int .i64 v3), .is (.int .i64 v4), .any, .any, .any, .any, .any, .any, .any, .any, .any, .any, .any, .any, .any, .any, .any, .any], hp := [] }
def X_seek_0 (v3 : Int) : St (X := els) := { tm := [.any, .any, .any, .is (.int .i64 v3), .any, .any, .any, .any, .any, .any, .any, .any, .any, .any, .any, .any, .any, .any, .any, .any, .any], hp := [] }
noncomputable def c_seek : Code := ((codeB [false, false, true, true, true] (Tryz.f69.body.getD .skip)).getD .skip |> fun c => match c with | .loop c => c | c => c)
noncomputable def I_seek (F d n : Nat) (s : St (X := els)) : Option (Ex × St (X := els)) := iter none (fun s' K' => exec k108 none (callD k108 none F d) F 69 120 c_seek s' (forgetK none sp_seek K')) n s (fun e s => some (e, dropS kx_seek s))
noncomputable def g_seek : List LV → List (Blk (X := els)) → List SV → Ends3
  | [], [], xs => takeI xs fun v0 xs => takeI xs fun v3 xs => takeI xs fun v4 xs => takeE xs (some (seekOk v0 v3 v4, [], .exit 0, (X_seek_0 (hyear v0))))
  | _, _, _ => none
noncomputable def k109 : Cfg (X := els) := { k108 with lp := (69, 60, { keep := keep_seek, m := 0, mv := sp_seek.mv, ctx := 0, con := some ((P_seek).con g_seek) }) :: k108.lp }

noncomputable def s_newelref04_year := (Sig.cons false (Dat.ofCel (Cel.int .i64)) Sig.nil)
noncomputable def r_newelref04_year := (Res.int .i64)
noncomputable def k110 : Cfg (X := els) := { k109 with E := (69, (s_newelref04_year).con r_newelref04_year (fun x => (hyear x.1)) (fun x => inH x.1)) :: k109.E }

def P_rmon : Pat (X := els) := { tm := [.any, .any, (.is (.lit (AV.ptr 0 0))), (.is (.int .i64)), (.is (.int .i64)), (.is (.int .i64)), .any, .any, .any, .any, .any, .any, .any, .any, .any, .any, .any, .any, .any, .any, .any, .any, .any, .any, .any, .any, .any, .any, .any], hp := [(.raw [(.int .i64), (.int .i64), (.int .i64)])] }
def keep_rmon : List Nat := [2, 3, 4, 5]
def kx_rmon : List Nat := [2, 3, 4, 5]
noncomputable def sp_rmon : LSpec (X := els) := { keep := keep_rmon, m := 1, mv := [] }
def S_rmon (v0_0 v0_1 v0_2 v3 v4 v5 : Int) : St (X := els) := { tm := [.any, .any, .is (.ptr 0 0), .is (.int .i64 v3), .is (.int .i64 v4), .is (.int .i64 v5), .any, .any, .any, .any, .any, .any, .any, .any, .any, .any, .any, .any, .any, .any, .any, .any, .any, .any, .any, .any, .any, .any, .any], hp := [.raw [.int .i64 v0_0, .int .i64 v0_1, .int .i64 v0_2]] }
def X_rmon_0 (v0_0 v0_1 v0_2 v3 v4 v5 : Int) : St (X := els) := { tm := [.any, .any, .is (.ptr 0 0), .is (.int .i64 v3), .is (.int .i64 v4), .is (.int .i64 v5), .any, .any, .any, .any, .any, .any, .any, .any, .any, .any, .any, .any, .any, .any, .any, .any, .any, .any, .any, .any, .any, .any, .any], hp := [.raw [.int .i64 v0_0, .int .i64 v0_1, .int .i64 v0_2]] }
noncomputable def c_rmon : Code := ((codeB [false, false, true, true, true, true] (Tryz.f56.body.getD .skip)).getD .skip |> fun c => match c with | .loop c => c | c => c)
noncomputable def I_rmon (F d n : Nat) (s : St (X := els)) : Option (Ex × St (X := els)) := iter none (fun s' K' => exec k110 none (callD k110 none F d) F 56 248 c_rmon s' (forgetK none sp_rmon K')) n s (fun e s => some (e, dropS kx_rmon s))
noncomputable def g_rmon : List LV → List (Blk (X := els)) → List SV → Ends3
  | [], [], xs => takeI xs fun v0_0 xs => takeI xs fun v0_1 xs => takeI xs fun v0_2 xs => takeI xs fun v3 xs => takeI xs fun v4 xs => takeI xs fun v5 xs => takeE xs (some (monR5 v3 v5 v4, [], .exit 0, (X_rmon_0 v0_0 v0_1 v0_2 v3 (refD (lenM v3) 13 1 v4).2 (refD (lenM v3) 13 1 v4).1)))
  | _, _, _ => none
noncomputable def k111 : Cfg (X := els) := { k110 with lp := (56, 124, { keep := keep_rmon, m := 1, mv := sp_rmon.mv, ctx := 0, con := some ((P_rmon).con g_rmon) }) :: k110.lp }

noncomputable def s_newelref04_Of := (Sig.cons false (Dat.ofCel (Cel.int .i64)) Sig.nil)
noncomputable def r_newelref04_Of := (Res.agg cHDate)
noncomputable def k112 : Cfg (X := els) := { k111 with E := (56, (s_newelref04_Of).con r_newelref04_Of (fun x => (hdateOf x.1)) (fun x => inH x.1)) :: k111.E }

noncomputable def s_newelref05_tishri := (Sig.cons false (Dat.ofCel (Cel.int .i64)) (Sig.cons false (Dat.ofCel Cel.bool) Sig.nil))
noncomputable def r_newelref05_tishri := (Res.int .i64)
noncomputable def k113 : Cfg (X := els) := { k112 with E := (68, (s_newelref05_tishri).con r_newelref05_tishri (fun x => (tishriR x.1 x.2.1)) (fun _ => true)) :: k112.E }

noncomputable def s_newelref05_Of := (Sig.cons true (Dat.ofCel cHDate) (Sig.cons false (Dat.ofCel Cel.bool) Sig.nil))
noncomputable def r_newelref05_Of := (Res.int .i64)
noncomputable def k114 : Cfg (X := els) := { k113 with E := (55, (s_newelref05_Of).con r_newelref05_Of (fun x => (kindR x.1 x.2.1)) (fun _ => true)) :: k113.E }

noncomputable def s_newelref05_Has := (Sig.cons false (Dat.ofCel (Cel.int .i64)) Sig.nil)
noncomputable def r_newelref05_Has := Res.bool
noncomputable def k115 : Cfg (X := els) := { k114 with E := (42, (s_newelref05_Has).con r_newelref05_Has (fun x => (inH x.1)) (fun _ => true)) :: k114.E }

noncomputable def s_newelref05_Kind := (Sig.cons false (Dat.ofCel (Cel.int .i64)) (Sig.cons false (Dat.ofCel Cel.bool) Sig.nil))
noncomputable def r_newelref05_Kind := (Res.int .i64)
noncomputable def k116 : Cfg (X := els) := { k115 with E := (40, (s_newelref05_Kind).con r_newelref05_Kind (fun x => (kindDay x.1 x.2.1)) (fun _ => true)) :: k115.E }

noncomputable def s_newelref05_Rest := (Sig.cons false (Dat.ofCel (Cel.int .i64)) (Sig.cons false (Dat.ofCel Cel.bool) Sig.nil))
noncomputable def r_newelref05_Rest := Res.bool
noncomputable def k117 : Cfg (X := els) := { k116 with E := (21, (s_newelref05_Rest).con r_newelref05_Rest (fun x => (restG x.1 x.2.1)) (fun _ => true)) :: k116.E }

def P_rback : Pat (X := els) := { tm := [.any, (.is .bool), .any, .any, (.is (.lit (AV.ptr 0 0))), (.is (.int .i64)), (.is (.int .i64)), (.is .bool), .any, .any, .any, .any, .any, .any, .any, .any, .any, .any, .any, .any, .any, .any, .any, .any, .any, .any, .any, .any, .any, .any, .any, .any, .any, .any, .any], hp := [(.raw [(.int .i64), (.int .i64)])] }
def keep_rback : List Nat := [1, 4, 5, 6, 7]
def kx_rback : List Nat := [1, 4, 5, 6]
noncomputable def sp_rback : LSpec (X := els) := { keep := keep_rback, m := 1, mv := [] }
def S_rback (v0_0 v0_1 : Int) (v1 : Bool) (v5 v6 : Int) (v7 : Bool) : St (X := els) := { tm := [.any, .is (.bool v1), .any, .any, .is (.ptr 0 0), .is (.int .i64 v5), .is (.int .i64 v6), .is (.bool v7), .any, .any, .any, .any, .any, .any, .any, .any, .any, .any, .any, .any, .any, .any, .any, .any, .any, .any, .any, .any, .any, .any, .any, .any, .any, .any, .any], hp := [.raw [.int .i64 v0_0, .int .i64 v0_1]] }
def X_rback_0 (v0_0 v0_1 : Int) (v1 : Bool) (v5 v6 : Int) : St (X := els) := { tm := [.any, .is (.bool v1), .any, .any, .is (.ptr 0 0), .is (.int .i64 v5), .is (.int .i64 v6), .any, .any, .any, .any, .any, .any, .any, .any, .any, .any, .any, .any, .any, .any, .any, .any, .any, .any, .any, .any, .any, .any, .any, .any, .any, .any, .any, .any], hp := [.raw [.int .i64 v0_0, .int .i64 v0_1]] }
noncomputable def c_rback : Code := ((codeB [false, false, true, true, true, true] (Tryz.f22.body.getD .skip)).getD .skip |> fun c => match c with | .loop c => c | c => c)
noncomputable def I_rback (F d n : Nat) (s : St (X := els)) : Option (Ex × St (X := els)) := iter none (fun s' K' => exec k117 none (callD k117 none F d) F 22 248 c_rback s' (forgetK none sp_rback K')) n s (fun e s => some (e, dropS kx_rback s))
noncomputable def g_rback : List LV → List (Blk (X := els)) → List SV → Ends3
  | [], [], xs => takeI xs fun v0_0 xs => takeI xs fun v0_1 xs => takeB xs fun v1 xs => takeI xs fun v5 xs => takeI xs fun v6 xs => takeB xs fun v7 xs => takeE xs (some (runOk (-1) v1 v5 && v7 == restG (v5 - 1) v1, [], .exit 0, (X_rback_0 v0_0 v0_1 v1 (runEnd (-1) v1 10 v5) v6)))
  | _, _, _ => none
noncomputable def k118 : Cfg (X := els) := { k117 with lp := (22, 124, { keep := keep_rback, m := 1, mv := sp_rback.mv, ctx := 0, con := some ((P_rback).con g_rback) }) :: k117.lp }

def P_rforth : Pat (X := els) := { tm := [.any, (.is .bool), .any, .any, (.is (.lit (AV.ptr 0 0))), (.is (.int .i64)), (.is (.int .i64)), (.is .bool), .any, .any, .any, .any, .any, .any, .any, .any, .any, .any, .any, .any, .any, .any, .any, .any, .any, .any, .any, .any, .any, .any, .any, .any, .any, .any, .any], hp := [(.raw [(.int .i64), (.int .i64)])] }
def keep_rforth : List Nat := [1, 4, 5, 6, 7]
def kx_rforth : List Nat := [4, 5, 6]
noncomputable def sp_rforth : LSpec (X := els) := { keep := keep_rforth, m := 1, mv := [] }
def S_rforth (v0_0 v0_1 : Int) (v1 : Bool) (v5 v6 : Int) (v7 : Bool) : St (X := els) := { tm := [.any, .is (.bool v1), .any, .any, .is (.ptr 0 0), .is (.int .i64 v5), .is (.int .i64 v6), .is (.bool v7), .any, .any, .any, .any, .any, .any, .any, .any, .any, .any, .any, .any, .any, .any, .any, .any, .any, .any, .any, .any, .any, .any, .any, .any, .any, .any, .any], hp := [.raw [.int .i64 v0_0, .int .i64 v0_1]] }
def X_rforth_0 (v0_0 v0_1 v5 v6 : Int) : St (X := els) := { tm := [.any, .any, .any, .any, .is (.ptr 0 0), .is (.int .i64 v5), .is (.int .i64 v6), .any, .any, .any, .any, .any, .any, .any, .any, .any, .any, .any, .any, .any, .any, .any, .any, .any, .any, .any, .any, .any, .any, .any, .any, .any, .any, .any, .any], hp := [.raw [.int .i64 v0_0, .int .i64 v0_1]] }
noncomputable def c_rforth : Code := ((codeB [false, false, true, true, true, true, true, true] (Tryz.f22.body.getD .skip)).getD .skip |> fun c => match c with | .loop c => c | c => c)
noncomputable def I_rforth (F d n : Nat) (s : St (X := els)) : Option (Ex × St (X := els)) := iter none (fun s' K' => exec k118 none (callD k118 none F d) F 22 1016 c_rforth s' (forgetK none sp_rforth K')) n s (fun e s => some (e, dropS kx_rforth s))
noncomputable def g_rforth : List LV → List (Blk (X := els)) → List SV → Ends3
  | [], [], xs => takeI xs fun v0_0 xs => takeI xs fun v0_1 xs => takeB xs fun v1 xs => takeI xs fun v5 xs => takeI xs fun v6 xs => takeB xs fun v7 xs => takeE xs (some (runOk 1 v1 v6 && v7 == restG (v6 + 1) v1, [], .exit 2, (X_rforth_0 v0_0 v0_1 v5 (runEnd 1 v1 10 v6))))
  | _, _, _ => none
noncomputable def k119 : Cfg (X := els) := { k118 with lp := (22, 508, { keep := keep_rforth, m := 1, mv := sp_rforth.mv, ctx := 0, con := some ((P_rforth).con g_rforth) }) :: k118.lp }

noncomputable def s_newelref05_Run := (Sig.cons false (Dat.ofCel (Cel.int .i64)) (Sig.cons false (Dat.ofCel Cel.bool) Sig.nil))
noncomputable def r_newelref05_Run := (Res.agg cRow5)
noncomputable def k120 : Cfg (X := els) := { k119 with E := (22, (s_newelref05_Run).con r_newelref05_Run (fun x => (run5 x.1 x.2.1)) (fun x => restG x.1 x.2.1)) :: k119.E }

noncomputable def s_newelref14_begins := (Sig.cons true dConfig (Sig.cons true (Dat.ofCel cWindow) (Sig.cons false (Dat.ofCel (Cel.int .i64)) Sig.nil)))
noncomputable def r_newelref14_begins := Res.bool
noncomputable def k121 : Cfg (X := els) := { k120 with E := (19, (s_newelref14_begins).con r_newelref14_begins (fun x => (beginsR x.1 x.2.1 x.2.2.1)) (fun x => beginsOk x.1 x.2.1 x.2.2.1)) :: k120.E }

noncomputable def s_newelref14_Of := (Sig.cons true dConfig (Sig.cons true (Dat.ofCel cWindow) (Sig.cons false (Dat.ofCel (Cel.int .i64)) Sig.nil)))
noncomputable def r_newelref14_Of := (Res.agg cOpenW)
noncomputable def k122 : Cfg (X := els) := { k121 with E := (9, (s_newelref14_Of).con r_newelref14_Of (fun x => (openR x.1 x.2.1 x.2.2.1)) (fun x => openRok x.1 x.2.1 x.2.2.1)) :: k121.E }

noncomputable def s_newelref14_Check := (Sig.cons true dConfig (Sig.cons true (Dat.ofCel cWindow) (Sig.cons false (Dat.ofCel (Cel.int .i64)) Sig.nil)))
noncomputable def r_newelref14_Check := (Res.int .i64)
noncomputable def k123 : Cfg (X := els) := { k122 with E := (8, (s_newelref14_Check).con r_newelref14_Check (fun x => (spanErr x.1 x.2.1 x.2.2.1)) (fun x => spanOk x.1 x.2.1 x.2.2.1)) :: k122.E }

noncomputable def s_newellaw14_awake := Sig.nil
noncomputable def r_newellaw14_awake := Res.bool
noncomputable def k124 : Cfg (X := els) := { k123 with E := (5, (s_newellaw14_awake).con r_newellaw14_awake (fun _ => true) (fun _ => true)) :: k123.E }

noncomputable def s_newellaw14_WindowTells := (Sig.cons true dConfig (Sig.cons true (Dat.ofCel cWindow) (Sig.cons false (Dat.ofCel (Cel.int .i64)) Sig.nil)))
noncomputable def r_newellaw14_WindowTells := Res.bool
noncomputable abbrev k125 : Cfg (X := els) := k124

end Go.Proofs.YtgfinnhojeghhaaGreatDoor.Px.PxY
