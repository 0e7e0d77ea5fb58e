/- The contracts of a seat's functions. -/
import Derived.Test.YtgfinnhojeghhaaDoorPxXTypes
import Derived.Test.YtgfinnhojeghhaaDoorPxSpecConfig
import Derived.Test.YtgfinnhojeghhaaDoorPxSpecGreg
import Derived.Test.YtgfinnhojeghhaaDoorPxSpecFeast
set_option linter.unusedVariables false
set_option linter.unusedSimpArgs false
namespace Go.Proofs.YtgfinnhojeghhaaDoor.Px.PxX
open Go Go.Proofs

noncomputable def s_zone_within := (Sig.cons false (Dat.ofCel (Cel.int .i64)) (Sig.cons false (Dat.ofCel (Cel.int .i64)) (Sig.cons false (Dat.ofCel (Cel.int .i64)) Sig.nil)))
noncomputable def r_zone_within := Res.bool
noncomputable def k1 : Cfg (X := els) := { k0 with E := (31, (s_zone_within).con r_zone_within (fun x => (inB x.1 x.2.1 x.2.2.1)) (fun _ => true)) :: k0.E }

noncomputable def s_config_within := (Sig.cons false (Dat.ofCel (Cel.int .i64)) (Sig.cons false (Dat.ofCel (Cel.int .i64)) (Sig.cons false (Dat.ofCel (Cel.int .i64)) Sig.nil)))
noncomputable def r_config_within := Res.bool
noncomputable def k2 : Cfg (X := els) := { k1 with E := (42, (s_config_within).con r_config_within (fun x => (inB x.1 x.2.1 x.2.2.1)) (fun _ => true)) :: k1.E }

noncomputable def s_divs_Div := (Sig.cons false (Dat.ofCel (Cel.int .i64)) (Sig.cons false (Dat.ofCel (Cel.int .i64)) Sig.nil))
noncomputable def r_divs_Div := (Res.tup2 (Res.int .i64) (Res.int .i64))
noncomputable def k3 : Cfg (X := els) := { k2 with E := (46, (s_divs_Div).con r_divs_Div (fun x => (divsDiv x.1 x.2.1)) (fun x => divOk x.1 x.2.1)) :: k2.E }

noncomputable def s_divs_Mod := (Sig.cons false (Dat.ofCel (Cel.int .i64)) (Sig.cons false (Dat.ofCel (Cel.int .i64)) Sig.nil))
noncomputable def r_divs_Mod := (Res.tup2 (Res.int .i64) (Res.int .i64))
noncomputable def k4 : Cfg (X := els) := { k3 with E := (59, (s_divs_Mod).con r_divs_Mod (fun x => (divsMod x.1 x.2.1)) (fun x => divOk x.1 x.2.1)) :: k3.E }

noncomputable def s_divs_Next := (Sig.cons false (Dat.ofCel (Cel.int .i64)) (Sig.cons false (Dat.ofCel (Cel.int .i64)) (Sig.cons false (Dat.ofCel (Cel.int .i64)) Sig.nil)))
noncomputable def r_divs_Next := (Res.tup2 (Res.int .i64) (Res.int .i64))
noncomputable def k5 : Cfg (X := els) := { k4 with E := (74, (s_divs_Next).con r_divs_Next (fun x => (divsNext x.1 x.2.1 x.2.2.1)) (fun x => nextOk x.1 x.2.1 x.2.2.1)) :: k4.E }

noncomputable def s_greg_Leap := (Sig.cons false (Dat.ofCel (Cel.int .i64)) Sig.nil)
noncomputable def r_greg_Leap := Res.bool
noncomputable def k6 : Cfg (X := els) := { k5 with E := (80, (s_greg_Leap).con r_greg_Leap (fun x => (leapG x.1)) (fun _ => true)) :: k5.E }

noncomputable def s_greg_Days := (Sig.cons false (Dat.ofCel (Cel.int .i64)) (Sig.cons false (Dat.ofCel (Cel.int .i64)) Sig.nil))
noncomputable def r_greg_Days := (Res.int .i64)
noncomputable def k7 : Cfg (X := els) := { k6 with E := (72, (s_greg_Days).con r_greg_Days (fun x => (daysG x.1 x.2.1)) (fun _ => true)) :: k6.E }

noncomputable def s_greg_ahead := (Sig.cons false (Dat.ofCel (Cel.int .i64)) Sig.nil)
noncomputable def r_greg_ahead := (Res.agg cSums)
noncomputable def k8 : Cfg (X := els) := { k7 with E := (61, (s_greg_ahead).con r_greg_ahead (fun x => (aheadG x.1)) (fun _ => true)) :: k7.E }

noncomputable def s_greg_before := (Sig.cons false (Dat.ofCel (Cel.int .i64)) Sig.nil)
noncomputable def r_greg_before := (Res.int .i64)
noncomputable def k9 : Cfg (X := els) := { k8 with E := (81, (s_greg_before).con r_greg_before (fun x => (beforeG x.1)) (fun x => yearB x.1)) :: k8.E }

noncomputable def s_greg_Day := (Sig.cons true (Dat.ofCel cDate) Sig.nil)
noncomputable def r_greg_Day := (Res.tup2 (Res.int .i64) (Res.int .i64))
noncomputable def k10 : Cfg (X := els) := { k9 with E := (73, (s_greg_Day).con r_greg_Day (fun x => (dayG x.1)) (fun _ => true)) :: k9.E }

noncomputable def s_greg_Of := (Sig.cons false (Dat.ofCel (Cel.int .i64)) Sig.nil)
noncomputable def r_greg_Of := (Res.tup2 (Res.agg cDate) (Res.int .i64))
noncomputable def k11 : Cfg (X := els) := { k10 with E := (47, (s_greg_Of).con r_greg_Of (fun x => (ofG x.1)) (fun _ => true)) :: k10.E }

noncomputable def s_greg_Nth := (Sig.cons false (Dat.ofCel (Cel.int .i64)) (Sig.cons false (Dat.ofCel (Cel.int .i64)) (Sig.cons false (Dat.ofCel (Cel.int .i64)) (Sig.cons false (Dat.ofCel (Cel.int .i64)) Sig.nil))))
noncomputable def r_greg_Nth := (Res.tup2 (Res.int .i64) (Res.int .i64))
noncomputable def k12 : Cfg (X := els) := { k11 with E := (62, (s_greg_Nth).con r_greg_Nth (fun x => (nthG x.1 x.2.1 x.2.2.1 x.2.2.2.1)) (fun _ => true)) :: k11.E }

noncomputable def s_zone_Check := (Sig.cons true (Dat.ofCel cZone) Sig.nil)
noncomputable def r_zone_Check := (Res.int .i64)
noncomputable def k13 : Cfg (X := els) := { k12 with E := (19, (s_zone_Check).con r_zone_Check (fun x => (zone_Check x.1)) (fun _ => true)) :: k12.E }

noncomputable def s_zone_when := (Sig.cons true (Dat.ofCel cZone) (Sig.cons true (Dat.ofCel cTurn) (Sig.cons false (Dat.ofCel (Cel.int .i64)) Sig.nil)))
noncomputable def r_zone_when := (Res.int .i64)
noncomputable def k14 : Cfg (X := els) := { k13 with E := (48, (s_zone_when).con r_zone_when (fun x => (whenG x.1 x.2.1 x.2.2.1)) (fun x => whenOk x.1 x.2.1 x.2.2.1)) :: k13.E }

noncomputable def s_zone_shift := (Sig.cons true (Dat.ofCel cZone) (Sig.cons false (Dat.ofCel (Cel.int .i64)) Sig.nil))
noncomputable def r_zone_shift := (Res.int .i64)
noncomputable def k15 : Cfg (X := els) := { k14 with E := (30, (s_zone_shift).con r_zone_shift (fun x => (shiftG x.1 x.2.1)) (fun x => shiftOk x.1 x.2.1)) :: k14.E }

noncomputable def s_zone_Instants := (Sig.cons true (Dat.ofCel cZone) (Sig.cons false (Dat.ofCel (Cel.int .i64)) (Sig.cons false (Dat.ofCel (Cel.int .i64)) Sig.nil)))
noncomputable def r_zone_Instants := (Out.tup (Outs.cons (Out.one (Own.sl (.int : El))) (Outs.last (Out.one (Own.ofCel (Cel.int .i64))))))
noncomputable def k16 : Cfg (X := els) := { k15 with H := (18, (s_zone_Instants).hcon r_zone_Instants (fun x => (instG x.1 x.2.1 x.2.2.1)) (fun _ => true)) :: k15.H }

noncomputable def s_window_reckoned := (Sig.cons false (Dat.ofCel (Cel.int .i64)) Sig.nil)
noncomputable def r_window_reckoned := Res.bool
noncomputable def k17 : Cfg (X := els) := { k16 with E := (20, (s_window_reckoned).con r_window_reckoned (fun x => (recG x.1)) (fun _ => true)) :: k16.E }

def P_wmom : Pat (X := els) := { tm := [.any, .any, .any, (.is (.lit (AV.ptr 0 0))), .any, .any, .any, .any, .any, (.is (.int .i64)), .any, .any, .any, .any, .any, .any, .any, .any, .any, .any, .any, .any, .any, .any, .any, .any, .any, .any, .any, .any, .any, .any, .any, .any, .any, .any, .any, .any, .any, .any, .any, .any, .any, .any, .any, .any, .any, .any, .any], hp := [(.raw [(.int .i64), (.int .i64), (.int .i64), (.int .i64), (.int .i64), (.int .i64), (.int .i64), (.int .i64), (.int .i64), (.int .i64)])] }
def keep_wmom : List Nat := [3, 9]
def kx_wmom : List Nat := [6, 7]
noncomputable def sp_wmom : LSpec (X := els) := { keep := keep_wmom, m := 1, mv := [] }
def S_wmom (v0_0 v0_1 v0_2 v0_3 v0_4 v0_5 v0_6 v0_7 v0_8 v0_9 v9 : Int) : St (X := els) := { tm := [.any, .any, .any, .is (.ptr 0 0), .any, .any, .any, .any, .any, .is (.int .i64 v9), .any, .any, .any, .any, .any, .any, .any, .any, .any, .any, .any, .any, .any, .any, .any, .any, .any, .any, .any, .any, .any, .any, .any, .any, .any, .any, .any, .any, .any, .any, .any, .any, .any, .any, .any, .any, .any, .any, .any], hp := [.raw [.int .i64 v0_0, .int .i64 v0_1, .int .i64 v0_2, .int .i64 v0_3, .int .i64 v0_4, .int .i64 v0_5, .int .i64 v0_6, .int .i64 v0_7, .int .i64 v0_8, .int .i64 v0_9]] }
def X_wmom_0 (v0_0 v0_1 v0_2 v0_3 v0_4 v0_5 v0_6 v0_7 v0_8 v0_9 v9 : Int) : St (X := els) := { tm := [.any, .any, .any, .any, .any, .any, .is (.int .i64 (List.getD (Prod.fst (instG { base := v0_0, shift := v0_1, on := { month := v0_2, week := v0_3, weekday := v0_4, minute := v0_5 }, off := { month := v0_6, week := v0_7, weekday := v0_8, minute := v0_9 } } (IntKind.wrap IntKind.i64 (Int.tdiv v9 1440)) (Int.tmod v9 1440))) 0 0)), .is (.int .i64 0), .any, .any, .any, .any, .any, .any, .any, .any, .any, .any, .any, .any, .any, .any, .any, .any, .any, .any, .any, .any, .any, .any, .any, .any, .any, .any, .any, .any, .any, .any, .any, .any, .any, .any, .any, .any, .any, .any, .any, .any, .any], hp := [.raw [.int .i64 v0_0, .int .i64 v0_1, .int .i64 v0_2, .int .i64 v0_3, .int .i64 v0_4, .int .i64 v0_5, .int .i64 v0_6, .int .i64 v0_7, .int .i64 v0_8, .int .i64 v0_9], Blk.vec El.int (Prod.fst (instG { base := v0_0, shift := v0_1, on := { month := v0_2, week := v0_3, weekday := v0_4, minute := v0_5 }, off := { month := v0_6, week := v0_7, weekday := v0_8, minute := v0_9 } } (IntKind.wrap IntKind.i64 (Int.tdiv v9 1440)) (Int.tmod v9 1440))) true] }
noncomputable def c_wmom : Code := ((codeB [false, true, true, true, true] (Tryd.f8.body.getD .skip)).getD .skip |> fun c => match c with | .loop c => c | c => c)
noncomputable def I_wmom (F d n : Nat) (s : St (X := els)) : Option (Ex × St (X := els)) := iter none (fun s' K' => exec k17 none (callD k17 none F d) F 8 124 c_wmom s' (forgetK none sp_wmom K')) n s (fun e s => some (e, dropS kx_wmom s))
noncomputable def g_wmom : List LV → List (Blk (X := els)) → List SV → Ends3
  | [], [], xs => takeI xs fun v0_0 xs => takeI xs fun v0_1 xs => takeI xs fun v0_2 xs => takeI xs fun v0_3 xs => takeI xs fun v0_4 xs => takeI xs fun v0_5 xs => takeI xs fun v0_6 xs => takeI xs fun v0_7 xs => takeI xs fun v0_8 xs => takeI xs fun v0_9 xs => takeI xs fun v9 xs => takeE xs (some (zone_Check (⟨v0_0, v0_1, ⟨v0_2, v0_3, v0_4, v0_5⟩, ⟨v0_6, v0_7, v0_8, v0_9⟩⟩ : Zone) == 0 && (toldOk v9 && reachIn (rowG (⟨v0_0, v0_1, ⟨v0_2, v0_3, v0_4, v0_5⟩, ⟨v0_6, v0_7, v0_8, v0_9⟩⟩ : Zone)) 200 v9), [], .ret, (X_wmom_0 v0_0 v0_1 v0_2 v0_3 v0_4 v0_5 v0_6 v0_7 v0_8 v0_9 (whereIn (rowG (⟨v0_0, v0_1, ⟨v0_2, v0_3, v0_4, v0_5⟩, ⟨v0_6, v0_7, v0_8, v0_9⟩⟩ : Zone)) 200 v9))))
  | _, _, _ => none
noncomputable def k18 : Cfg (X := els) := { k17 with lp := (8, 62, { keep := keep_wmom, m := 1, mv := sp_wmom.mv, ctx := 0, con := some ((P_wmom).con g_wmom) }) :: k17.lp }

noncomputable def s_window_Moment := (Sig.cons true (Dat.ofCel cZone) (Sig.cons false (Dat.ofCel (Cel.int .i64)) (Sig.cons false (Dat.ofCel (Cel.int .i64)) Sig.nil)))
noncomputable def r_window_Moment := (Res.tup2 (Res.int .i64) (Res.int .i64))
noncomputable def k19 : Cfg (X := els) := { k18 with E := (8, (s_window_Moment).con r_window_Moment (fun x => (momG x.1 x.2.1 x.2.2.1)) (fun _ => true)) :: k18.E }

noncomputable def s_greg_Weekday := (Sig.cons false (Dat.ofCel (Cel.int .i64)) Sig.nil)
noncomputable def r_greg_Weekday := (Res.int .i64)
noncomputable def k20 : Cfg (X := els) := { k19 with E := (44, (s_greg_Weekday).con r_greg_Weekday (fun x => (rWeekday x.1)) (fun x => midW x.1)) :: k19.E }

noncomputable def s_window_timed := (Sig.cons true dConfig (Sig.cons true (Dat.ofCel cWindow) (Sig.cons false (Dat.ofCel (Cel.int .i64)) (Sig.cons false (Dat.ofCel Cel.bool) Sig.nil))))
noncomputable def r_window_timed := (Res.tup3 (Res.int .i64) (Res.int .i64) Res.bool)
noncomputable def k21 : Cfg (X := els) := { k20 with E := (104, (s_window_timed).con r_window_timed (fun x => (timedG x.1 x.2.1 x.2.2.1 x.2.2.2.1)) (fun _ => true)) :: k20.E }

noncomputable def s_config_must := (Sig.cons false (Dat.ofCel Cel.bool) (Sig.cons false (Dat.ofCel (Cel.int .i64)) Sig.nil))
noncomputable def r_config_must := (Res.int .i64)
noncomputable def k22 : Cfg (X := els) := { k21 with E := (51, (s_config_must).con r_config_must (fun x => (errIf x.1 x.2.1)) (fun _ => true)) :: k21.E }

noncomputable def s_config_Window := (Sig.cons true (Dat.ofCel cWindow) Sig.nil)
noncomputable def r_config_Window := (Res.int .i64)
noncomputable def k23 : Cfg (X := els) := { k22 with E := (25, (s_config_Window).con r_config_Window (fun x => (config_Window x.1)) (fun _ => true)) :: k22.E }

noncomputable def s_config_size := (Sig.cons true dConfig Sig.nil)
noncomputable def r_config_size := (Res.int .i64)
noncomputable def k24 : Cfg (X := els) := { k23 with E := (35, (s_config_size).con r_config_size (fun x => (config_size x.1)) (fun _ => true)) :: k23.E }

def P_stops : Pat (X := els) := { tm := [.any, (.is (.lit (AV.ptr 2 0))), .any, (.is .bool), .any, .any, .any, .any, .any, .any, .any, (.is (.slW 0 1)), (.is (.int .i64)), (.is (.int .i64)), .any, .any, .any, .any, .any, .any, .any, .any, .any, .any, .any, .any, .any, .any, .any, .any, .any, .any, .any, .any, .any, .any, .any, .any, .any, .any, .any, .any, .any], hp := [(.vec (.int : El) false), (.vec (.window : El) false), (.raw [(.int .i64), (.int .i64), (.int .i64), (.slW 0 1), (.int .i64), (.int .i64), (.int .i64), (.int .i64), (.int .i64), (.int .i64), (.int .i64), (.int .i64), (.int .i64), (.int .i64), (.int .i64), (.int .i64), (.int .i64), (.int .i64), (.int .i64), (.int .i64), (.int .i64), (.int .i64), (.int .i64), (.int .i64), (.int .i64), (.int .i64), (.int .i64), (.int .i64), (.int .i64), (.int .i64), (.int .i64), (.int .i64), (.int .i64), (.int .i64), (.int .i64), .bool, (.slW 1 7)])] }
def keep_stops : List Nat := [1, 3, 11, 12, 13]
def kx_stops : List Nat := [2, 3]
noncomputable def sp_stops : LSpec (X := els) := { keep := keep_stops, m := 3, mv := [] }
def S_stops (l0 : List (Int)) (l1 : List (Window)) (v2_0 v2_1 v2_2 v2_4 v2_5 v2_6 v2_7 v2_8 v2_9 v2_10 v2_11 v2_12 v2_13 v2_14 v2_15 v2_16 v2_17 v2_18 v2_19 v2_20 v2_21 v2_22 v2_23 v2_24 v2_25 v2_26 v2_27 v2_28 v2_29 v2_30 v2_31 v2_32 v2_33 v2_34 : Int) (v2_35 v3 : Bool) (v12 v13 : Int) : St (X := els) := { tm := [.any, .is (.ptr 2 0), .any, .is (.bool v3), .any, .any, .any, .any, .any, .any, .any, .is (.sl 0 0 1 (List.length l0) none), .is (.int .i64 v12), .is (.int .i64 v13), .any, .any, .any, .any, .any, .any, .any, .any, .any, .any, .any, .any, .any, .any, .any, .any, .any, .any, .any, .any, .any, .any, .any, .any, .any, .any, .any, .any, .any], hp := [Blk.vec El.int l0 false, Blk.vec El.window l1 false, .raw [.int .i64 v2_0, .int .i64 v2_1, .int .i64 v2_2, .sl 0 0 1 (List.length l0) none, .int .i64 v2_4, .int .i64 v2_5, .int .i64 v2_6, .int .i64 v2_7, .int .i64 v2_8, .int .i64 v2_9, .int .i64 v2_10, .int .i64 v2_11, .int .i64 v2_12, .int .i64 v2_13, .int .i64 v2_14, .int .i64 v2_15, .int .i64 v2_16, .int .i64 v2_17, .int .i64 v2_18, .int .i64 v2_19, .int .i64 v2_20, .int .i64 v2_21, .int .i64 v2_22, .int .i64 v2_23, .int .i64 v2_24, .int .i64 v2_25, .int .i64 v2_26, .int .i64 v2_27, .int .i64 v2_28, .int .i64 v2_29, .int .i64 v2_30, .int .i64 v2_31, .int .i64 v2_32, .int .i64 v2_33, .int .i64 v2_34, .bool v2_35, .sl 1 0 7 (List.length l1) none]] }
def X_stops_0 (l0 : List (Int)) (l1 : List (Window)) (v2_0 v2_1 v2_2 v2_4 v2_5 v2_6 v2_7 v2_8 v2_9 v2_10 v2_11 v2_12 v2_13 v2_14 v2_15 v2_16 v2_17 v2_18 v2_19 v2_20 v2_21 v2_22 v2_23 v2_24 v2_25 v2_26 v2_27 v2_28 v2_29 v2_30 v2_31 v2_32 v2_33 v2_34 : Int) (v2_35 v3 : Bool) : St (X := els) := { tm := [.any, .any, .any, .is (.bool v3), .any, .any, .any, .any, .any, .any, .any, .any, .any, .any, .any, .any, .any, .any, .any, .any, .any, .any, .any, .any, .any, .any, .any, .any, .any, .any, .any, .any, .any, .any, .any, .any, .any, .any, .any, .any, .any, .any, .any], hp := [Blk.vec El.int l0 false, Blk.vec El.window l1 false, .raw [.int .i64 v2_0, .int .i64 v2_1, .int .i64 v2_2, .sl 0 0 1 (List.length l0) none, .int .i64 v2_4, .int .i64 v2_5, .int .i64 v2_6, .int .i64 v2_7, .int .i64 v2_8, .int .i64 v2_9, .int .i64 v2_10, .int .i64 v2_11, .int .i64 v2_12, .int .i64 v2_13, .int .i64 v2_14, .int .i64 v2_15, .int .i64 v2_16, .int .i64 v2_17, .int .i64 v2_18, .int .i64 v2_19, .int .i64 v2_20, .int .i64 v2_21, .int .i64 v2_22, .int .i64 v2_23, .int .i64 v2_24, .int .i64 v2_25, .int .i64 v2_26, .int .i64 v2_27, .int .i64 v2_28, .int .i64 v2_29, .int .i64 v2_30, .int .i64 v2_31, .int .i64 v2_32, .int .i64 v2_33, .int .i64 v2_34, .bool v2_35, .sl 1 0 7 (List.length l1) none]] }
noncomputable def c_stops : Code := ((codeB [false, true, false, true, true] (Tryd.f36.body.getD .skip)).getD .skip |> fun c => match c with | .loop c => c | c => c)
noncomputable def I_stops (F d n : Nat) (s : St (X := els)) : Option (Ex × St (X := els)) := iter none (fun s' K' => exec k24 none (callD k24 none F d) F 36 116 c_stops s' (forgetK none sp_stops K')) n s (fun e s => some (e, dropS kx_stops s))
noncomputable def g_stops : List LV → List (Blk (X := els)) → List SV → Ends3
  | [⟨El.int, l0⟩, ⟨El.window, l1⟩], [], xs => takeI xs fun v2_0 xs => takeI xs fun v2_1 xs => takeI xs fun v2_2 xs => takeI xs fun v2_4 xs => takeI xs fun v2_5 xs => takeI xs fun v2_6 xs => takeI xs fun v2_7 xs => takeI xs fun v2_8 xs => takeI xs fun v2_9 xs => takeI xs fun v2_10 xs => takeI xs fun v2_11 xs => takeI xs fun v2_12 xs => takeI xs fun v2_13 xs => takeI xs fun v2_14 xs => takeI xs fun v2_15 xs => takeI xs fun v2_16 xs => takeI xs fun v2_17 xs => takeI xs fun v2_18 xs => takeI xs fun v2_19 xs => takeI xs fun v2_20 xs => takeI xs fun v2_21 xs => takeI xs fun v2_22 xs => takeI xs fun v2_23 xs => takeI xs fun v2_24 xs => takeI xs fun v2_25 xs => takeI xs fun v2_26 xs => takeI xs fun v2_27 xs => takeI xs fun v2_28 xs => takeI xs fun v2_29 xs => takeI xs fun v2_30 xs => takeI xs fun v2_31 xs => takeI xs fun v2_32 xs => takeI xs fun v2_33 xs => takeI xs fun v2_34 xs => takeB xs fun v2_35 xs => takeB xs fun v3 xs => takeI xs fun v12 xs => takeI xs fun v13 xs => takeE xs (some (decide (l0.length ≤ 1048576) && (v12 == (l0.length : Int) && v13 == 0), [], .exit 0, (X_stops_0 l0 l1 v2_0 v2_1 v2_2 v2_4 v2_5 v2_6 v2_7 v2_8 v2_9 v2_10 v2_11 v2_12 v2_13 v2_14 v2_15 v2_16 v2_17 v2_18 v2_19 v2_20 v2_21 v2_22 v2_23 v2_24 v2_25 v2_26 v2_27 v2_28 v2_29 v2_30 v2_31 v2_32 v2_33 v2_34 v2_35 (v3 && chkS (IntKind.i64.wrap (v2_0 - 1)) none l0))))
  | _, _, _ => none
noncomputable def k25 : Cfg (X := els) := { k24 with lp := (36, 58, { keep := keep_stops, m := 3, mv := sp_stops.mv, ctx := 0, con := some ((P_stops).con g_stops) }) :: k24.lp }

noncomputable def s_config_stops := (Sig.cons true dConfig Sig.nil)
noncomputable def r_config_stops := (Res.int .i64)
noncomputable def k26 : Cfg (X := els) := { k25 with E := (36, (s_config_stops).con r_config_stops (fun x => (config_stops x.1)) (fun x => smallC x.1)) :: k25.E }

noncomputable def s_config_times := (Sig.cons true dConfig Sig.nil)
noncomputable def r_config_times := (Res.int .i64)
noncomputable def k27 : Cfg (X := els) := { k26 with E := (37, (s_config_times).con r_config_times (fun x => (config_times x.1)) (fun _ => true)) :: k26.E }

noncomputable def s_sunset_Check := (Sig.cons true (Dat.ofCel cSun) Sig.nil)
noncomputable def r_sunset_Check := (Res.int .i64)
noncomputable def k28 : Cfg (X := els) := { k27 with E := (40, (s_sunset_Check).con r_sunset_Check (fun x => (sunset_Check x.1)) (fun _ => true)) :: k27.E }

def P_wins : Pat (X := els) := { tm := [(.is (.slW 1 7)), (.is (.lit (AV.fn 53 [] []))), .any, .any, .any, .any, .any, (.is (.int .i64)), (.is (.int .i64)), .any, .any, .any, .any, .any, .any, .any, .any, .any, .any], hp := [(.vec (.int : El) false), (.vec (.window : El) false), (.raw [(.int .i64), (.int .i64), (.int .i64), (.slW 0 1), (.int .i64), (.int .i64), (.int .i64), (.int .i64), (.int .i64), (.int .i64), (.int .i64), (.int .i64), (.int .i64), (.int .i64), (.int .i64), (.int .i64), (.int .i64), (.int .i64), (.int .i64), (.int .i64), (.int .i64), (.int .i64), (.int .i64), (.int .i64), (.int .i64), (.int .i64), (.int .i64), (.int .i64), (.int .i64), (.int .i64), (.int .i64), (.int .i64), (.int .i64), (.int .i64), (.int .i64), .bool, (.slW 1 7)])] }
def keep_wins : List Nat := [0, 1, 7, 8]
def kx_wins : List Nat := [4]
noncomputable def sp_wins : LSpec (X := els) := { keep := keep_wins, m := 3, mv := [] }
def S_wins (l0 : List (Int)) (l1 : List (Window)) (v2_0 v2_1 v2_2 v2_4 v2_5 v2_6 v2_7 v2_8 v2_9 v2_10 v2_11 v2_12 v2_13 v2_14 v2_15 v2_16 v2_17 v2_18 v2_19 v2_20 v2_21 v2_22 v2_23 v2_24 v2_25 v2_26 v2_27 v2_28 v2_29 v2_30 v2_31 v2_32 v2_33 v2_34 : Int) (v2_35 : Bool) (v7 v8 : Int) : St (X := els) := { tm := [.is (.sl 1 0 7 (List.length l1) none), .is (AV.fn 53 [] []), .any, .any, .any, .any, .any, .is (.int .i64 v7), .is (.int .i64 v8), .any, .any, .any, .any, .any, .any, .any, .any, .any, .any], hp := [Blk.vec El.int l0 false, Blk.vec El.window l1 false, .raw [.int .i64 v2_0, .int .i64 v2_1, .int .i64 v2_2, .sl 0 0 1 (List.length l0) none, .int .i64 v2_4, .int .i64 v2_5, .int .i64 v2_6, .int .i64 v2_7, .int .i64 v2_8, .int .i64 v2_9, .int .i64 v2_10, .int .i64 v2_11, .int .i64 v2_12, .int .i64 v2_13, .int .i64 v2_14, .int .i64 v2_15, .int .i64 v2_16, .int .i64 v2_17, .int .i64 v2_18, .int .i64 v2_19, .int .i64 v2_20, .int .i64 v2_21, .int .i64 v2_22, .int .i64 v2_23, .int .i64 v2_24, .int .i64 v2_25, .int .i64 v2_26, .int .i64 v2_27, .int .i64 v2_28, .int .i64 v2_29, .int .i64 v2_30, .int .i64 v2_31, .int .i64 v2_32, .int .i64 v2_33, .int .i64 v2_34, .bool v2_35, .sl 1 0 7 (List.length l1) none]] }
def X_wins_0 (l0 : List (Int)) (l1 : List (Window)) (v2_0 v2_1 v2_2 v2_4 v2_5 v2_6 v2_7 v2_8 v2_9 v2_10 v2_11 v2_12 v2_13 v2_14 v2_15 v2_16 v2_17 v2_18 v2_19 v2_20 v2_21 v2_22 v2_23 v2_24 v2_25 v2_26 v2_27 v2_28 v2_29 v2_30 v2_31 v2_32 v2_33 v2_34 : Int) (v2_35 : Bool) (v8 : Int) : St (X := els) := { tm := [.any, .any, .any, .any, .is (.int .i64 v8), .any, .any, .any, .any, .any, .any, .any, .any, .any, .any, .any, .any, .any, .any], hp := [Blk.vec El.int l0 false, Blk.vec El.window l1 false, .raw [.int .i64 v2_0, .int .i64 v2_1, .int .i64 v2_2, .sl 0 0 1 (List.length l0) none, .int .i64 v2_4, .int .i64 v2_5, .int .i64 v2_6, .int .i64 v2_7, .int .i64 v2_8, .int .i64 v2_9, .int .i64 v2_10, .int .i64 v2_11, .int .i64 v2_12, .int .i64 v2_13, .int .i64 v2_14, .int .i64 v2_15, .int .i64 v2_16, .int .i64 v2_17, .int .i64 v2_18, .int .i64 v2_19, .int .i64 v2_20, .int .i64 v2_21, .int .i64 v2_22, .int .i64 v2_23, .int .i64 v2_24, .int .i64 v2_25, .int .i64 v2_26, .int .i64 v2_27, .int .i64 v2_28, .int .i64 v2_29, .int .i64 v2_30, .int .i64 v2_31, .int .i64 v2_32, .int .i64 v2_33, .int .i64 v2_34, .bool v2_35, .sl 1 0 7 (List.length l1) none], .raw [.int .i64 (Window.kind (List.getD l1 (0 + Int.toNat v8) { kind := 0, mode := 0, prio := 0, arg := 0, shift := 0, minute := 0, len := 0 })), .int .i64 (Window.mode (List.getD l1 (0 + Int.toNat v8) { kind := 0, mode := 0, prio := 0, arg := 0, shift := 0, minute := 0, len := 0 })), .int .i64 (Window.prio (List.getD l1 (0 + Int.toNat v8) { kind := 0, mode := 0, prio := 0, arg := 0, shift := 0, minute := 0, len := 0 })), .int .i64 (Window.arg (List.getD l1 (0 + Int.toNat v8) { kind := 0, mode := 0, prio := 0, arg := 0, shift := 0, minute := 0, len := 0 })), .int .i64 (Window.shift (List.getD l1 (0 + Int.toNat v8) { kind := 0, mode := 0, prio := 0, arg := 0, shift := 0, minute := 0, len := 0 })), .int .i64 (Window.minute (List.getD l1 (0 + Int.toNat v8) { kind := 0, mode := 0, prio := 0, arg := 0, shift := 0, minute := 0, len := 0 })), .int .i64 (Window.len (List.getD l1 (0 + Int.toNat v8) { kind := 0, mode := 0, prio := 0, arg := 0, shift := 0, minute := 0, len := 0 }))]] }
def X_wins_1 (l0 : List (Int)) (l1 : List (Window)) (v2_0 v2_1 v2_2 v2_4 v2_5 v2_6 v2_7 v2_8 v2_9 v2_10 v2_11 v2_12 v2_13 v2_14 v2_15 v2_16 v2_17 v2_18 v2_19 v2_20 v2_21 v2_22 v2_23 v2_24 v2_25 v2_26 v2_27 v2_28 v2_29 v2_30 v2_31 v2_32 v2_33 v2_34 : Int) (v2_35 : Bool) : St (X := els) := { tm := [.any, .any, .any, .any, .any, .any, .any, .any, .any, .any, .any, .any, .any, .any, .any, .any, .any, .any, .any], hp := [Blk.vec El.int l0 false, Blk.vec El.window l1 false, .raw [.int .i64 v2_0, .int .i64 v2_1, .int .i64 v2_2, .sl 0 0 1 (List.length l0) none, .int .i64 v2_4, .int .i64 v2_5, .int .i64 v2_6, .int .i64 v2_7, .int .i64 v2_8, .int .i64 v2_9, .int .i64 v2_10, .int .i64 v2_11, .int .i64 v2_12, .int .i64 v2_13, .int .i64 v2_14, .int .i64 v2_15, .int .i64 v2_16, .int .i64 v2_17, .int .i64 v2_18, .int .i64 v2_19, .int .i64 v2_20, .int .i64 v2_21, .int .i64 v2_22, .int .i64 v2_23, .int .i64 v2_24, .int .i64 v2_25, .int .i64 v2_26, .int .i64 v2_27, .int .i64 v2_28, .int .i64 v2_29, .int .i64 v2_30, .int .i64 v2_31, .int .i64 v2_32, .int .i64 v2_33, .int .i64 v2_34, .bool v2_35, .sl 1 0 7 (List.length l1) none]] }
noncomputable def c_wins : Code := ((codeB [false, true, false, true] (Tryd.f66.body.getD .skip)).getD .skip |> fun c => match c with | .loop c => c | c => c)
noncomputable def I_wins (F d n : Nat) (s : St (X := els)) : Option (Ex × St (X := els)) := iter none (fun s' K' => exec k28 none (callD k28 none F d) F 66 52 c_wins s' (forgetK none sp_wins K')) n s (fun e s => some (e, dropS kx_wins s))
noncomputable def g_wins : List LV → List (Blk (X := els)) → List SV → Ends3
  | [⟨El.int, l0⟩, ⟨El.window, l1⟩], [], xs => takeI xs fun v2_0 xs => takeI xs fun v2_1 xs => takeI xs fun v2_2 xs => takeI xs fun v2_4 xs => takeI xs fun v2_5 xs => takeI xs fun v2_6 xs => takeI xs fun v2_7 xs => takeI xs fun v2_8 xs => takeI xs fun v2_9 xs => takeI xs fun v2_10 xs => takeI xs fun v2_11 xs => takeI xs fun v2_12 xs => takeI xs fun v2_13 xs => takeI xs fun v2_14 xs => takeI xs fun v2_15 xs => takeI xs fun v2_16 xs => takeI xs fun v2_17 xs => takeI xs fun v2_18 xs => takeI xs fun v2_19 xs => takeI xs fun v2_20 xs => takeI xs fun v2_21 xs => takeI xs fun v2_22 xs => takeI xs fun v2_23 xs => takeI xs fun v2_24 xs => takeI xs fun v2_25 xs => takeI xs fun v2_26 xs => takeI xs fun v2_27 xs => takeI xs fun v2_28 xs => takeI xs fun v2_29 xs => takeI xs fun v2_30 xs => takeI xs fun v2_31 xs => takeI xs fun v2_32 xs => takeI xs fun v2_33 xs => takeI xs fun v2_34 xs => takeB xs fun v2_35 xs => takeI xs fun v7 xs => takeI xs fun v8 xs => takeE xs (some (decide (l1.length ≤ 1048576) && (v7 == (l1.length : Int) && v8 == 0), [(l1.all windowB, .exit 0, (X_wins_1 l0 l1 v2_0 v2_1 v2_2 v2_4 v2_5 v2_6 v2_7 v2_8 v2_9 v2_10 v2_11 v2_12 v2_13 v2_14 v2_15 v2_16 v2_17 v2_18 v2_19 v2_20 v2_21 v2_22 v2_23 v2_24 v2_25 v2_26 v2_27 v2_28 v2_29 v2_30 v2_31 v2_32 v2_33 v2_34 v2_35))], .ret, (X_wins_0 l0 l1 v2_0 v2_1 v2_2 v2_4 v2_5 v2_6 v2_7 v2_8 v2_9 v2_10 v2_11 v2_12 v2_13 v2_14 v2_15 v2_16 v2_17 v2_18 v2_19 v2_20 v2_21 v2_22 v2_23 v2_24 v2_25 v2_26 v2_27 v2_28 v2_29 v2_30 v2_31 v2_32 v2_33 v2_34 v2_35 (firstBad l1))))
  | _, _, _ => none
noncomputable def k29 : Cfg (X := els) := { k28 with lp := (66, 26, { keep := keep_wins, m := 3, mv := sp_wins.mv, ctx := 0, con := some ((P_wins).con g_wins) }) :: k28.lp }

noncomputable def s_config_windows := (Sig.cons true dConfig Sig.nil)
noncomputable def r_config_windows := (Res.int .i64)
noncomputable def k30 : Cfg (X := els) := { k29 with E := (41, (s_config_windows).con r_config_windows (fun x => (config_windows x.1)) (fun x => smallC x.1)) :: k29.E }

noncomputable def s_config_Check := (Sig.cons true dConfig Sig.nil)
noncomputable def r_config_Check := (Res.int .i64)
noncomputable def k31 : Cfg (X := els) := { k30 with E := (24, (s_config_Check).con r_config_Check (fun x => (config_Check x.1)) (fun x => smallC x.1)) :: k30.E }

noncomputable def s_newelref10_Few := (Sig.cons true dConfig Sig.nil)
noncomputable def r_newelref10_Few := Res.bool
noncomputable def k32 : Cfg (X := els) := { k31 with E := (13, (s_newelref10_Few).con r_newelref10_Few (fun x => (few10 x.1)) (fun _ => true)) :: k31.E }

noncomputable def s_newellaw10_Own := (Sig.cons true dConfig Sig.nil)
noncomputable def r_newellaw10_Own := (Out.agg oConfig)
noncomputable def k33 : Cfg (X := els) := { k32 with H := (15, (s_newellaw10_Own).hcon r_newellaw10_Own (fun x => (own10 x.1)) (fun x => smallC x.1)) :: k32.H }

noncomputable def s_molad_Leap := (Sig.cons false (Dat.ofCel (Cel.int .i64)) Sig.nil)
noncomputable def r_molad_Leap := Res.bool
noncomputable def k34 : Cfg (X := els) := { k33 with E := (71, (s_molad_Leap).con r_molad_Leap (fun x => (leapM x.1)) (fun x => midW x.1)) :: k33.E }

noncomputable def s_molad_year_months := (Sig.cons false (Dat.ofCel (Cel.int .i64)) Sig.nil)
noncomputable def r_molad_year_months := (Res.int .i64)
noncomputable def k35 : Cfg (X := els) := { k34 with E := (85, (s_molad_year_months).con r_molad_year_months (fun x => (monthsM x.1)) (fun x => yearM x.1)) :: k34.E }

noncomputable def s_molad_year_moon := (Sig.cons false (Dat.ofCel (Cel.int .i64)) Sig.nil)
noncomputable def r_molad_year_moon := (Res.tup2 (Res.int .i64) (Res.int .i64))
noncomputable def k36 : Cfg (X := els) := { k35 with E := (78, (s_molad_year_moon).con r_molad_year_moon (fun x => (moonM x.1)) (fun x => yearM x.1)) :: k35.E }

noncomputable def s_molad_year_delay := (Sig.cons false (Dat.ofCel (Cel.int .i64)) Sig.nil)
noncomputable def r_molad_year_delay := (Res.int .i64)
noncomputable def k37 : Cfg (X := els) := { k36 with E := (79, (s_molad_year_delay).con r_molad_year_delay (fun x => (delayM x.1)) (fun x => yearM x.1)) :: k36.E }

noncomputable def s_molad_year_first := (Sig.cons false (Dat.ofCel (Cel.int .i64)) Sig.nil)
noncomputable def r_molad_year_first := (Res.int .i64)
noncomputable def k38 : Cfg (X := els) := { k37 with E := (68, (s_molad_year_first).con r_molad_year_first (fun x => (newY x.1)) (fun x => yearM x.1)) :: k37.E }

noncomputable def s_molad_year_length := (Sig.cons false (Dat.ofCel (Cel.int .i64)) Sig.nil)
noncomputable def r_molad_year_length := (Res.int .i64)
noncomputable def k39 : Cfg (X := els) := { k38 with E := (69, (s_molad_year_length).con r_molad_year_length (fun x => (lenM x.1)) (fun x => yearM2 x.1)) :: k38.E }

noncomputable def s_molad_NewYear := (Sig.cons false (Dat.ofCel (Cel.int .i64)) Sig.nil)
noncomputable def r_molad_NewYear := (Res.tup2 (Res.int .i64) (Res.int .i64))
noncomputable def k40 : Cfg (X := els) := { k39 with E := (55, (s_molad_NewYear).con r_molad_NewYear (fun x => (newYearG x.1)) (fun _ => true)) :: k39.E }

noncomputable def s_molad_Len := (Sig.cons false (Dat.ofCel (Cel.int .i64)) Sig.nil)
noncomputable def r_molad_Len := (Res.tup2 (Res.int .i64) (Res.int .i64))
noncomputable def k41 : Cfg (X := els) := { k40 with E := (56, (s_molad_Len).con r_molad_Len (fun x => (lenG x.1)) (fun _ => true)) :: k40.E }

noncomputable def s_hebrew_Days := (Sig.cons false (Dat.ofCel (Cel.int .i64)) (Sig.cons false (Dat.ofCel (Cel.int .i64)) Sig.nil))
noncomputable def r_hebrew_Days := (Res.int .i64)
noncomputable def k42 : Cfg (X := els) := { k41 with E := (58, (s_hebrew_Days).con r_hebrew_Days (fun x => (daysH x.1 x.2.1)) (fun _ => true)) :: k41.E }

def P_yh : Pat (X := els) := { tm := [.any, (.is (.lit (AV.ptr 0 0))), (.is (.lit (AV.ptr 1 0))), (.is (.int .i64)), .any, .any, .any, .any, .any, .any, (.is (.lit (AV.ptr 2 0))), .any, .any, .any, .any, .any, .any, .any, .any, .any, .any, .any, .any, .any, .any, .any, .any, .any, .any, .any, .any, .any, .any, .any, .any, .any, .any, .any, .any, .any, .any, .any, .any, .any, .any, .any, .any, .any, .any, .any, .any, .any, .any, .any, .any, .any, .any, .any, .any, .any, .any, .any, .any, .any, .any, .any, .any, .any, .any, .any, .any, .any, .any, .any, .any, .any, .any, .any, .any, .any, .any, .any, .any, .any], hp := [(.raw [(.int .i64)]), (.raw [(.int .i64), (.int .i64), (.int .i64)]), (.raw [(.int .i64)])] }
def keep_yh : List Nat := [1, 2, 3, 10]
def kx_yh : List Nat := [1, 2, 3, 10, 11, 15, 16, 67, 68, 69, 70, 71, 72, 73, 74, 75, 76, 77, 78, 79, 80, 81, 82]
noncomputable def sp_yh : LSpec (X := els) := { keep := keep_yh, m := 3, mv := [] }
def S_yh (v0_0 v1_0 v1_1 v1_2 v2_0 v3 : Int) : St (X := els) := { tm := [.any, .is (.ptr 0 0), .is (.ptr 1 0), .is (.int .i64 v3), .any, .any, .any, .any, .any, .any, .is (.ptr 2 0), .any, .any, .any, .any, .any, .any, .any, .any, .any, .any, .any, .any, .any, .any, .any, .any, .any, .any, .any, .any, .any, .any, .any, .any, .any, .any, .any, .any, .any, .any, .any, .any, .any, .any, .any, .any, .any, .any, .any, .any, .any, .any, .any, .any, .any, .any, .any, .any, .any, .any, .any, .any, .any, .any, .any, .any, .any, .any, .any, .any, .any, .any, .any, .any, .any, .any, .any, .any, .any, .any, .any, .any, .any], hp := [.raw [.int .i64 v0_0], .raw [.int .i64 v1_0, .int .i64 v1_1, .int .i64 v1_2], .raw [.int .i64 v2_0]] }
def X_yh_0 (v0_0 v1_0 v1_1 v1_2 v2_0 v3 : Int) : St (X := els) := { tm := [.any, .is (.ptr 0 0), .is (.ptr 1 0), .is (.int .i64 v3), .any, .any, .any, .any, .any, .any, .is (.ptr 2 0), .is (.int .i64 (Prod.fst (newYearG v2_0))), .any, .any, .any, .any, .any, .any, .any, .any, .any, .any, .any, .any, .any, .any, .any, .any, .any, .any, .any, .any, .any, .any, .any, .any, .any, .any, .any, .any, .any, .any, .any, .any, .any, .any, .any, .any, .any, .any, .any, .any, .any, .any, .any, .any, .any, .any, .any, .any, .any, .any, .any, .any, .any, .any, .any, .any, .any, .any, .any, .any, .any, .any, .any, .any, .any, .any, .any, .any, .any, .any, .any, .any], hp := [.raw [.int .i64 v0_0], .raw [.int .i64 v1_0, .int .i64 v1_1, .int .i64 v1_2], .raw [.int .i64 v2_0]] }
noncomputable def c_yh : Code := ((codeB [false, false, true, true, true, true, true, true] (Tryd.f43.body.getD .skip)).getD .skip |> fun c => match c with | .loop c => c | c => c)
noncomputable def I_yh (F d n : Nat) (s : St (X := els)) : Option (Ex × St (X := els)) := iter none (fun s' K' => exec k42 none (callD k42 none F d) F 43 1016 c_yh s' (forgetK none sp_yh K')) n s (fun e s => some (e, dropS kx_yh s))
noncomputable def g_yh : List LV → List (Blk (X := els)) → List SV → Ends3
  | [], [], xs => takeI xs fun v0_0 xs => takeI xs fun v1_0 xs => takeI xs fun v1_1 xs => takeI xs fun v1_2 xs => takeI xs fun v2_0 xs => takeI xs fun v3 xs => takeE xs (some (yearReach v0_0 600 v2_0, [], .exit 0, (X_yh_0 v0_0 v1_0 v1_1 v1_2 (yearGo v0_0 600 v2_0) v3)))
  | _, _, _ => none
noncomputable def k43 : Cfg (X := els) := { k42 with lp := (43, 508, { keep := keep_yh, m := 3, mv := sp_yh.mv, ctx := 0, con := some ((P_yh).con g_yh) }) :: k42.lp }

def P_hm : Pat (X := els) := { tm := [(.is (.lit (AV.yld 7))), (.is (.lit (AV.ptr 5 0))), (.is (.lit (AV.ptr 4 0))), .any, (.is (.int .i64)), .any, .any, .any, .any, .any, .any, .any, .any, .any, .any, .any, .any, .any, .any], hp := [(.raw [(.int .i64)]), (.raw [(.int .i64), (.int .i64), (.int .i64)]), (.raw [(.int .i64)]), (.raw [(.int .i64), (.int .i64), (.int .i64)]), (.raw [(.int .i64)]), (.raw [(.int .i64)]), .dfr, (.rcd 0 [.any, (.is (.lit (AV.ptr 0 0))), .any, .any, .any, .any, .any, .any, .any, .any, (.is (.lit (AV.ptr 2 0))), .any, .any, .any, (.is (.lit (AV.ptr 3 0))), .any, .any, .any, .any, .any, .any, .any, .any, .any, .any, .any, .any, .any, .any, .any, .any, .any, .any, .any, .any, .any, .any, .any, .any, .any, .any, .any, .any, .any, .any, .any, .any, .any, .any, .any, .any, .any, .any, .any, .any, .any, .any, .any, .any, .any, .any, .any, .any, .any, .any, .any, (.is (.lit (AV.fn 70 [] [AV.ptr 5 0, AV.ptr 4 0]))), .any, .any, .any, .any, .any, .any, .any, .any, .any, .any, .any, .any, .any, .any, .any, .any, .any])] }
def keep_hm : List Nat := [0, 1, 2, 4]
def kx_hm : List Nat := []
noncomputable def sp_hm : LSpec (X := els) := { keep := keep_hm, m := 8, mv := [] }
def S_hm (v0_0 v1_0 v1_1 v1_2 v2_0 v3_0 v3_1 v3_2 v4_0 v5_0 v4 : Int) : St (X := els) := { tm := [.is (AV.yld 7), .is (.ptr 5 0), .is (.ptr 4 0), .any, .is (.int .i64 v4), .any, .any, .any, .any, .any, .any, .any, .any, .any, .any, .any, .any, .any, .any], hp := [.raw [.int .i64 v0_0], .raw [.int .i64 v1_0, .int .i64 v1_1, .int .i64 v1_2], .raw [.int .i64 v2_0], .raw [.int .i64 v3_0, .int .i64 v3_1, .int .i64 v3_2], .raw [.int .i64 v4_0], .raw [.int .i64 v5_0], Blk.dfr, Blk.rcd RS.ready 0 [.any, .is (.ptr 0 0), .any, .any, .any, .any, .any, .any, .any, .any, .is (.ptr 2 0), .any, .any, .any, .is (.ptr 3 0), .any, .any, .any, .any, .any, .any, .any, .any, .any, .any, .any, .any, .any, .any, .any, .any, .any, .any, .any, .any, .any, .any, .any, .any, .any, .any, .any, .any, .any, .any, .any, .any, .any, .any, .any, .any, .any, .any, .any, .any, .any, .any, .any, .any, .any, .any, .any, .any, .any, .any, .any, .is (AV.fn 70 [] [.ptr 5 0, .ptr 4 0]), .any, .any, .any, .any, .any, .any, .any, .any, .any, .any, .any, .any, .any, .any, .any, .any, .any]] }
def X_hm_0 (v0_0 v1_0 v1_1 v1_2 v2_0 v3_0 v3_1 v3_2 v4_0 v5_0 : Int) : St (X := els) := { tm := [.any, .any, .any, .any, .any, .any, .any, .any, .any, .any, .any, .any, .any, .any, .any, .any, .any, .any, .any], hp := [.raw [.int .i64 v0_0], .raw [.int .i64 v1_0, .int .i64 v1_1, .int .i64 v1_2], .raw [.int .i64 v2_0], .raw [.int .i64 v3_0, .int .i64 v3_1, .int .i64 v3_2], .raw [.int .i64 v4_0], .raw [.int .i64 v5_0], Blk.dfr, Blk.rcd (RS.done (Ex.exit 2)) 0 [.any, .is (.ptr 0 0), .any, .any, .any, .any, .any, .any, .any, .any, .is (.ptr 2 0), .any, .any, .any, .is (.ptr 3 0), .any, .any, .any, .any, .any, .any, .any, .any, .any, .any, .any, .any, .any, .any, .any, .any, .any, .any, .any, .any, .any, .any, .any, .any, .any, .any, .any, .any, .any, .any, .any, .any, .any, .any, .any, .any, .any, .any, .any, .any, .any, .any, .any, .any, .any, .any, .any, .any, .any, .any, .any, .is (AV.fn 70 [] [.ptr 5 0, .ptr 4 0]), .any, .any, .any, .any, .any, .any, .any, .any, .any, .any, .any, .any, .any, .any, .any, .any, .any]] }
def X_hm_1 (v0_0 v1_0 v1_1 v1_2 v2_0 v3_0 v3_1 v3_2 v4_0 v5_0 : Int) : St (X := els) := { tm := [.any, .any, .any, .any, .any, .any, .any, .any, .any, .any, .any, .any, .any, .any, .any, .any, .any, .any, .any], hp := [.raw [.int .i64 v0_0], .raw [.int .i64 v1_0, .int .i64 v1_1, .int .i64 v1_2], .raw [.int .i64 v2_0], .raw [.int .i64 v3_0, .int .i64 v3_1, .int .i64 v3_2], .raw [.int .i64 v4_0], .raw [.int .i64 v5_0], Blk.dfr, Blk.rcd RS.ready 0 [.any, .is (.ptr 0 0), .any, .any, .any, .any, .any, .any, .any, .any, .is (.ptr 2 0), .any, .any, .any, .is (.ptr 3 0), .any, .any, .any, .any, .any, .any, .any, .any, .any, .any, .any, .any, .any, .any, .any, .any, .any, .any, .any, .any, .any, .any, .any, .any, .any, .any, .any, .any, .any, .any, .any, .any, .any, .any, .any, .any, .any, .any, .any, .any, .any, .any, .any, .any, .any, .any, .any, .any, .any, .any, .any, .is (AV.fn 70 [] [.ptr 5 0, .ptr 4 0]), .any, .any, .any, .any, .any, .any, .any, .any, .any, .any, .any, .any, .any, .any, .any, .any, .any]] }
noncomputable def c_hm : Code := ((codeB [false, true] (Tryd.f70.body.getD .skip)).getD .skip |> fun c => match c with | .loop c => c | c => c)
noncomputable def I_hm (F d n : Nat) (s : St (X := els)) : Option (Ex × St (X := els)) := iter none (fun s' K' => exec k43 none (callD k43 none F d) F 70 12 c_hm s' (forgetK none sp_hm K')) n s (fun e s => some (e, dropS kx_hm s))
noncomputable def g_hm : List LV → List (Blk (X := els)) → List SV → Ends3
  | [], [], xs => takeI xs fun v0_0 xs => takeI xs fun v1_0 xs => takeI xs fun v1_1 xs => takeI xs fun v1_2 xs => takeI xs fun v2_0 xs => takeI xs fun v3_0 xs => takeI xs fun v3_1 xs => takeI xs fun v3_2 xs => takeI xs fun v4_0 xs => takeI xs fun v5_0 xs => takeI xs fun v4 xs => takeE xs (some (monOk v0_0 v2_0 v4_0 v4 v5_0, [((datH v0_0 v2_0 (14 - v4).toNat v4 v5_0 v3_1 v3_2).1, .ret, (X_hm_0 v0_0 v1_0 v1_1 v1_2 v2_0 v3_0 (datH v0_0 v2_0 (14 - v4).toNat v4 v5_0 v3_1 v3_2).2.1 (datH v0_0 v2_0 (14 - v4).toNat v4 v5_0 v3_1 v3_2).2.2.1 v4_0 (datH v0_0 v2_0 (14 - v4).toNat v4 v5_0 v3_1 v3_2).2.2.2))], .exit 0, (X_hm_1 v0_0 v1_0 v1_1 v1_2 v2_0 v3_0 (datH v0_0 v2_0 (14 - v4).toNat v4 v5_0 v3_1 v3_2).2.1 (datH v0_0 v2_0 (14 - v4).toNat v4 v5_0 v3_1 v3_2).2.2.1 v4_0 (datH v0_0 v2_0 (14 - v4).toNat v4 v5_0 v3_1 v3_2).2.2.2)))
  | _, _, _ => none
noncomputable def k44 : Cfg (X := els) := { k43 with lp := (70, 6, { keep := keep_hm, m := 8, mv := sp_hm.mv, ctx := 1, con := some ((P_hm).con g_hm) }) :: k43.lp }

noncomputable def s_hebrew_Of := (Sig.cons false (Dat.ofCel (Cel.int .i64)) Sig.nil)
noncomputable def r_hebrew_Of := (Res.tup2 (Res.agg cHDate) (Res.int .i64))
noncomputable def k45 : Cfg (X := els) := { k44 with E := (43, (s_hebrew_Of).con r_hebrew_Of (fun x => (hofG x.1)) (fun _ => true)) :: k44.E }

noncomputable def k46 : Cfg (X := els) := { k45 with E := (45, kindCon) :: k45.E }

noncomputable def s_feast_Rest := (Sig.cons false (Dat.ofCel (Cel.int .i64)) (Sig.cons false (Dat.ofCel Cel.bool) Sig.nil))
noncomputable def r_feast_Rest := Res.bool
noncomputable def k47 : Cfg (X := els) := { k46 with E := (27, (s_feast_Rest).con r_feast_Rest (fun x => (restG x.1 x.2.1)) (fun _ => true)) :: k46.E }

def P_runs : Pat (X := els) := { tm := [(.is (.int .i64)), .any, (.is (.lit (AV.ptr 1 0))), .any, .any, (.is (.int .i64)), .any, .any, .any, .any, .any, .any, .any, .any, .any, .any], hp := [(.raw [(.int .i64)]), (.raw [.bool])] }
def keep_runs : List Nat := [0, 2, 5]
def kx_runs : List Nat := [4, 5]
noncomputable def sp_runs : LSpec (X := els) := { keep := keep_runs, m := 2, mv := [] }
def S_runs (v0_0 : Int) (v1_0 : Bool) (v0 v5 : Int) : St (X := els) := { tm := [.is (.int .i64 v0), .any, .is (.ptr 1 0), .any, .any, .is (.int .i64 v5), .any, .any, .any, .any, .any, .any, .any, .any, .any, .any], hp := [.raw [.int .i64 v0_0], .raw [.bool v1_0]] }
def X_runs_0 (v0_0 : Int) (v1_0 : Bool) (v5 : Int) : St (X := els) := { tm := [.any, .any, .any, .any, .any, .is (.int .i64 v5), .any, .any, .any, .any, .any, .any, .any, .any, .any, .any], hp := [.raw [.int .i64 v0_0], .raw [.bool v1_0]] }
noncomputable def c_runs : Code := ((codeB [false, false, true, true] (Tryd.f28.body.getD .skip)).getD .skip |> fun c => match c with | .loop c => c | c => c)
noncomputable def I_runs (F d n : Nat) (s : St (X := els)) : Option (Ex × St (X := els)) := iter none (fun s' K' => exec k47 none (callD k47 none F d) F 28 56 c_runs s' (forgetK none sp_runs K')) n s (fun e s => some (e, dropS kx_runs s))
noncomputable def g_runs : List LV → List (Blk (X := els)) → List SV → Ends3
  | [], [], xs => takeI xs fun v0_0 xs => takeB xs fun v1_0 xs => takeI xs fun v0 xs => takeI xs fun v5 xs => takeE xs (some (runOk v0 v1_0 v5, [], .exit 0, (X_runs_0 v0_0 v1_0 (runEnd v0 v1_0 10 v5))))
  | _, _, _ => none
noncomputable def k48 : Cfg (X := els) := { k47 with lp := (28, 28, { keep := keep_runs, m := 2, mv := sp_runs.mv, ctx := 0, con := some ((P_runs).con g_runs) }) :: k47.lp }

noncomputable def s_feast_Run := (Sig.cons false (Dat.ofCel (Cel.int .i64)) (Sig.cons false (Dat.ofCel Cel.bool) Sig.nil))
noncomputable def r_feast_Run := (Res.tup3 (Res.int .i64) (Res.int .i64) (Res.int .i64))
noncomputable def k49 : Cfg (X := els) := { k48 with E := (16, (s_feast_Run).con r_feast_Run (fun x => (runG x.1 x.2.1)) (fun _ => true)) :: k48.E }

noncomputable def s_feast_Kind := (Sig.cons false (Dat.ofCel (Cel.int .i64)) (Sig.cons false (Dat.ofCel Cel.bool) Sig.nil))
noncomputable def r_feast_Kind := (Res.int .i64)
noncomputable def k50 : Cfg (X := els) := { k49 with E := (107, (s_feast_Kind).con r_feast_Kind (fun x => (kindDay x.1 x.2.1)) (fun _ => true)) :: k49.E }

noncomputable def s_sunset_At := (Sig.cons true (Dat.ofCel cSun) (Sig.cons false (Dat.ofCel (Cel.int .i64)) Sig.nil))
noncomputable def r_sunset_At := (Res.tup2 (Res.int .i64) (Res.int .i64))
noncomputable def k51 : Cfg (X := els) := { k50 with E := (110, (s_sunset_At).con r_sunset_At (fun x => (sunAt x.1 x.2.1)) (fun _ => true)) :: k50.E }

noncomputable def s_sunset_Moment := (Sig.cons true (Dat.ofCel cZone) (Sig.cons true (Dat.ofCel cSun) (Sig.cons false (Dat.ofCel (Cel.int .i64)) Sig.nil)))
noncomputable def r_sunset_Moment := (Res.tup2 (Res.int .i64) (Res.int .i64))
noncomputable def k52 : Cfg (X := els) := { k51 with E := (109, (s_sunset_Moment).con r_sunset_Moment (fun x => (sunMom x.1 x.2.1 x.2.2.1)) (fun _ => true)) :: k51.E }

noncomputable def s_window_weekly_open := (Sig.cons true Dat.void (Sig.cons true dConfig (Sig.cons true (Dat.ofCel cWindow) (Sig.cons false (Dat.ofCel (Cel.int .i64)) Sig.nil))))
noncomputable def r_window_weekly_open := (Res.tup3 (Res.int .i64) (Res.int .i64) Res.bool)
noncomputable def k53 : Cfg (X := els) := { k52 with E := (103, (s_window_weekly_open).con r_window_weekly_open (fun x => (weekOpen x.1 x.2.1 x.2.2.1 x.2.2.2.1)) (fun x => weekOk x.1 x.2.1 x.2.2.1 x.2.2.2.1)) :: k52.E }

noncomputable def s_window_dated_open := (Sig.cons true Dat.void (Sig.cons true dConfig (Sig.cons true (Dat.ofCel cWindow) (Sig.cons false (Dat.ofCel (Cel.int .i64)) Sig.nil))))
noncomputable def r_window_dated_open := (Res.tup3 (Res.int .i64) (Res.int .i64) Res.bool)
noncomputable def k54 : Cfg (X := els) := { k53 with E := (105, (s_window_dated_open).con r_window_dated_open (fun x => (datedOpen x.1 x.2.1 x.2.2.1 x.2.2.2.1)) (fun x => openOk x.1 x.2.1 x.2.2.1 x.2.2.2.1)) :: k53.E }

noncomputable def s_window_yearly_open := (Sig.cons true Dat.void (Sig.cons true dConfig (Sig.cons true (Dat.ofCel cWindow) (Sig.cons false (Dat.ofCel (Cel.int .i64)) Sig.nil))))
noncomputable def r_window_yearly_open := (Res.tup3 (Res.int .i64) (Res.int .i64) Res.bool)
noncomputable def k55 : Cfg (X := els) := { k54 with E := (106, (s_window_yearly_open).con r_window_yearly_open (fun x => (yearOpen x.1 x.2.1 x.2.2.1 x.2.2.2.1)) (fun x => openOk x.1 x.2.1 x.2.2.1 x.2.2.2.1)) :: k54.E }

noncomputable def s_window_resting_open := (Sig.cons true Dat.void (Sig.cons true dConfig (Sig.cons true (Dat.ofCel cWindow) (Sig.cons false (Dat.ofCel (Cel.int .i64)) Sig.nil))))
noncomputable def r_window_resting_open := (Res.tup3 (Res.int .i64) (Res.int .i64) Res.bool)
noncomputable def k56 : Cfg (X := els) := { k55 with E := (108, (s_window_resting_open).con r_window_resting_open (fun x => (restOpen x.1 x.2.1 x.2.2.1 x.2.2.2.1)) (fun x => openOk x.1 x.2.1 x.2.2.1 x.2.2.2.1)) :: k55.E }

noncomputable def s_of1 := (Sig.cons true (Dat.ofCel cWindow) Sig.nil)
noncomputable def r_of1 := (⟨fun _ => .ifc 81 (.agg []), fun _ => ⟨_, rfl⟩⟩ : Res Unit)
noncomputable def k57 : Cfg (X := els) := { k56 with E := (26, (s_of1).con r_of1 (fun x => (noneW x.1)) (fun x => kind1 x.1)) :: k56.E }

noncomputable def s_of2 := (Sig.cons true (Dat.ofCel cWindow) Sig.nil)
noncomputable def r_of2 := (⟨fun _ => .ifc 82 (.agg []), fun _ => ⟨_, rfl⟩⟩ : Res Unit)
noncomputable def k58 : Cfg (X := els) := { k57 with E := (26, (s_of2).con r_of2 (fun x => (noneW x.1)) (fun x => kind2 x.1)) :: k57.E }

noncomputable def s_of3 := (Sig.cons true (Dat.ofCel cWindow) Sig.nil)
noncomputable def r_of3 := (⟨fun _ => .ifc 83 (.agg []), fun _ => ⟨_, rfl⟩⟩ : Res Unit)
noncomputable def k59 : Cfg (X := els) := { k58 with E := (26, (s_of3).con r_of3 (fun x => (noneW x.1)) (fun x => kind3 x.1)) :: k58.E }

noncomputable def s_of4 := (Sig.cons true (Dat.ofCel cWindow) Sig.nil)
noncomputable def r_of4 := (⟨fun _ => .ifc 84 (.agg []), fun _ => ⟨_, rfl⟩⟩ : Res Unit)
noncomputable def k60 : Cfg (X := els) := { k59 with E := (26, (s_of4).con r_of4 (fun x => (noneW x.1)) (fun x => kind4 x.1)) :: k59.E }

noncomputable def k61 : Cfg (X := els) := { k60 with E := (26, (ofSel (eAt k57 26) (eAt k58 26) (eAt k59 26) (eAt k60 26))) :: k60.E }

noncomputable def s_window_Span := (Sig.cons true dConfig (Sig.cons true (Dat.ofCel cWindow) (Sig.cons false (Dat.ofCel (Cel.int .i64)) Sig.nil)))
noncomputable def r_window_Span := (Res.tup3 (Res.agg cSpan) Res.bool (Res.int .i64))
noncomputable def k62 : Cfg (X := els) := { k61 with E := (14, (s_window_Span).con r_window_Span (fun x => (spanG x.1 x.2.1 x.2.2.1)) (fun x => spanOk x.1 x.2.1 x.2.2.1)) :: k61.E }

noncomputable def s_newellaw14_awake := Sig.nil
noncomputable def r_newellaw14_awake := Res.bool
noncomputable def k63 : Cfg (X := els) := { k62 with E := (11, (s_newellaw14_awake).con r_newellaw14_awake (fun _ => true) (fun _ => true)) :: k62.E }

noncomputable def s_newellaw14_WindowLong := (Sig.cons true dConfig (Sig.cons true (Dat.ofCel cWindow) (Sig.cons false (Dat.ofCel (Cel.int .i64)) Sig.nil)))
noncomputable def r_newellaw14_WindowLong := Res.bool
noncomputable abbrev k64 : Cfg (X := els) := k63

def P_noon : Pat (X := els) := { tm := [.any, .any, .any, (.is (.lit (AV.ptr 2 0))), .any, .any, .any, (.is (.lit (AV.ptr 6 0))), .any, .any, .any, (.is (.int .i64)), .any, (.is (.int .i64)), (.is (.int .i64)), .any, .any, .any, .any, .any, .any, .any, .any, .any, .any, .any, .any, .any, .any, .any, .any, .any, .any, .any, .any, .any, .any, .any, .any, .any, .any, .any, .any, .any, .any, .any, .any, .any, .any, .any, .any, .any, .any, .any, .any, .any, .any, .any, .any, .any, .any, .any, .any, .any, .any, .any, .any, .any, .any, .any, .any, .any, .any, .any, .any, .any, .any, .any, .any, .any, .any, .any, .any, .any, .any, .any, .any, .any, .any, .any, .any, .any, .any, .any, .any, .any, .any, .any, .any, .any, .any, .any, .any, .any, .any, .any, .any, .any, .any, .any, .any, .any, .any, .any, .any, .any, .any, .any, .any, .any, .any, .any, .any, .any, .any], hp := [(.vec (.int : El) false), (.vec (.window : El) false), (.raw [(.int .i64), (.int .i64), (.int .i64), (.slW 0 1), (.int .i64), (.int .i64), (.int .i64), (.int .i64), (.int .i64), (.int .i64), (.int .i64), (.int .i64), (.int .i64), (.int .i64), (.int .i64), (.int .i64), (.int .i64), (.int .i64), (.int .i64), (.int .i64), (.int .i64), (.int .i64), (.int .i64), (.int .i64), (.int .i64), (.int .i64), (.int .i64), (.int .i64), (.int .i64), (.int .i64), (.int .i64), (.int .i64), (.int .i64), (.int .i64), (.int .i64), .bool, (.slW 1 7)]), (.raw [(.int .i64), (.int .i64), (.int .i64), (.int .i64), (.int .i64), (.int .i64), (.int .i64)]), (.vec (.int : El) true), (.vec (.window : El) true), (.raw [(.int .i64), (.int .i64), (.int .i64), (.int .i64)])] }
def keep_noon : List Nat := [3, 7, 11, 13, 14]
def kx_noon : List Nat := [3, 6, 7, 11, 13, 108, 109, 110, 111, 114, 115, 116, 117, 118, 119, 120, 121, 122, 123]
noncomputable def sp_noon : LSpec (X := els) := { keep := keep_noon, m := 7, mv := [] }
def S_noon (l0 : List (Int)) (l1 : List (Window)) (l4 : List (Int)) (l5 : List (Window)) (v2_0 v2_1 v2_2 v2_4 v2_5 v2_6 v2_7 v2_8 v2_9 v2_10 v2_11 v2_12 v2_13 v2_14 v2_15 v2_16 v2_17 v2_18 v2_19 v2_20 v2_21 v2_22 v2_23 v2_24 v2_25 v2_26 v2_27 v2_28 v2_29 v2_30 v2_31 v2_32 v2_33 v2_34 : Int) (v2_35 : Bool) (v3_0 v3_1 v3_2 v3_3 v3_4 v3_5 v3_6 v6_0 v6_1 v6_2 v6_3 v11 v13 v14 : Int) : St (X := els) := { tm := [.any, .any, .any, .is (.ptr 2 0), .any, .any, .any, .is (.ptr 6 0), .any, .any, .any, .is (.int .i64 v11), .any, .is (.int .i64 v13), .is (.int .i64 v14), .any, .any, .any, .any, .any, .any, .any, .any, .any, .any, .any, .any, .any, .any, .any, .any, .any, .any, .any, .any, .any, .any, .any, .any, .any, .any, .any, .any, .any, .any, .any, .any, .any, .any, .any, .any, .any, .any, .any, .any, .any, .any, .any, .any, .any, .any, .any, .any, .any, .any, .any, .any, .any, .any, .any, .any, .any, .any, .any, .any, .any, .any, .any, .any, .any, .any, .any, .any, .any, .any, .any, .any, .any, .any, .any, .any, .any, .any, .any, .any, .any, .any, .any, .any, .any, .any, .any, .any, .any, .any, .any, .any, .any, .any, .any, .any, .any, .any, .any, .any, .any, .any, .any, .any, .any, .any, .any, .any, .any, .any], hp := [Blk.vec El.int l0 false, Blk.vec El.window l1 false, .raw [.int .i64 v2_0, .int .i64 v2_1, .int .i64 v2_2, .sl 0 0 1 (List.length l0) none, .int .i64 v2_4, .int .i64 v2_5, .int .i64 v2_6, .int .i64 v2_7, .int .i64 v2_8, .int .i64 v2_9, .int .i64 v2_10, .int .i64 v2_11, .int .i64 v2_12, .int .i64 v2_13, .int .i64 v2_14, .int .i64 v2_15, .int .i64 v2_16, .int .i64 v2_17, .int .i64 v2_18, .int .i64 v2_19, .int .i64 v2_20, .int .i64 v2_21, .int .i64 v2_22, .int .i64 v2_23, .int .i64 v2_24, .int .i64 v2_25, .int .i64 v2_26, .int .i64 v2_27, .int .i64 v2_28, .int .i64 v2_29, .int .i64 v2_30, .int .i64 v2_31, .int .i64 v2_32, .int .i64 v2_33, .int .i64 v2_34, .bool v2_35, .sl 1 0 7 (List.length l1) none], .raw [.int .i64 v3_0, .int .i64 v3_1, .int .i64 v3_2, .int .i64 v3_3, .int .i64 v3_4, .int .i64 v3_5, .int .i64 v3_6], Blk.vec El.int l4 true, Blk.vec El.window l5 true, .raw [.int .i64 v6_0, .int .i64 v6_1, .int .i64 v6_2, .int .i64 v6_3]] }
def X_noon_0 (l0 : List (Int)) (l1 : List (Window)) (l4 : List (Int)) (l5 : List (Window)) (v2_0 v2_1 v2_2 v2_4 v2_5 v2_6 v2_7 v2_8 v2_9 v2_10 v2_11 v2_12 v2_13 v2_14 v2_15 v2_16 v2_17 v2_18 v2_19 v2_20 v2_21 v2_22 v2_23 v2_24 v2_25 v2_26 v2_27 v2_28 v2_29 v2_30 v2_31 v2_32 v2_33 v2_34 : Int) (v2_35 : Bool) (v3_0 v3_1 v3_2 v3_3 v3_4 v3_5 v3_6 v6_0 v6_1 v6_2 v6_3 v11 v13 : Int) : St (X := els) := { tm := [.any, .any, .any, .is (.ptr 2 0), .any, .any, .is (.bool false), .is (.ptr 6 0), .any, .any, .any, .is (.int .i64 v11), .any, .is (.int .i64 v13), .any, .any, .any, .any, .any, .any, .any, .any, .any, .any, .any, .any, .any, .any, .any, .any, .any, .any, .any, .any, .any, .any, .any, .any, .any, .any, .any, .any, .any, .any, .any, .any, .any, .any, .any, .any, .any, .any, .any, .any, .any, .any, .any, .any, .any, .any, .any, .any, .any, .any, .any, .any, .any, .any, .any, .any, .any, .any, .any, .any, .any, .any, .any, .any, .any, .any, .any, .any, .any, .any, .any, .any, .any, .any, .any, .any, .any, .any, .any, .any, .any, .any, .any, .any, .any, .any, .any, .any, .any, .any, .any, .any, .any, .any, .any, .any, .any, .any, .any, .any, .any, .any, .any, .any, .any, .any, .any, .any, .any, .any, .any], hp := [Blk.vec El.int l0 false, Blk.vec El.window l1 false, .raw [.int .i64 v2_0, .int .i64 v2_1, .int .i64 v2_2, .sl 0 0 1 (List.length l0) none, .int .i64 v2_4, .int .i64 v2_5, .int .i64 v2_6, .int .i64 v2_7, .int .i64 v2_8, .int .i64 v2_9, .int .i64 v2_10, .int .i64 v2_11, .int .i64 v2_12, .int .i64 v2_13, .int .i64 v2_14, .int .i64 v2_15, .int .i64 v2_16, .int .i64 v2_17, .int .i64 v2_18, .int .i64 v2_19, .int .i64 v2_20, .int .i64 v2_21, .int .i64 v2_22, .int .i64 v2_23, .int .i64 v2_24, .int .i64 v2_25, .int .i64 v2_26, .int .i64 v2_27, .int .i64 v2_28, .int .i64 v2_29, .int .i64 v2_30, .int .i64 v2_31, .int .i64 v2_32, .int .i64 v2_33, .int .i64 v2_34, .bool v2_35, .sl 1 0 7 (List.length l1) none], .raw [.int .i64 v3_0, .int .i64 v3_1, .int .i64 v3_2, .int .i64 v3_3, .int .i64 v3_4, .int .i64 v3_5, .int .i64 v3_6], Blk.vec El.int l4 true, Blk.vec El.window l5 true, .raw [.int .i64 v6_0, .int .i64 v6_1, .int .i64 v6_2, .int .i64 v6_3]] }
def X_noon_1 (l0 : List (Int)) (l1 : List (Window)) (l4 : List (Int)) (l5 : List (Window)) (v2_0 v2_1 v2_2 v2_4 v2_5 v2_6 v2_7 v2_8 v2_9 v2_10 v2_11 v2_12 v2_13 v2_14 v2_15 v2_16 v2_17 v2_18 v2_19 v2_20 v2_21 v2_22 v2_23 v2_24 v2_25 v2_26 v2_27 v2_28 v2_29 v2_30 v2_31 v2_32 v2_33 v2_34 : Int) (v2_35 : Bool) (v3_0 v3_1 v3_2 v3_3 v3_4 v3_5 v3_6 v6_0 v6_1 v6_2 v6_3 v11 v13 : Int) : St (X := els) := { tm := [.any, .any, .any, .is (.ptr 2 0), .any, .any, .any, .is (.ptr 6 0), .any, .any, .any, .is (.int .i64 v11), .any, .is (.int .i64 v13), .any, .any, .any, .any, .any, .any, .any, .any, .any, .any, .any, .any, .any, .any, .any, .any, .any, .any, .any, .any, .any, .any, .any, .any, .any, .any, .any, .any, .any, .any, .any, .any, .any, .any, .any, .any, .any, .any, .any, .any, .any, .any, .any, .any, .any, .any, .any, .any, .any, .any, .any, .any, .any, .any, .any, .any, .any, .any, .any, .any, .any, .any, .any, .any, .any, .any, .any, .any, .any, .any, .any, .any, .any, .any, .any, .any, .any, .any, .any, .any, .any, .any, .any, .any, .any, .any, .any, .any, .any, .any, .any, .any, .any, .any, .any, .any, .any, .any, .any, .any, .any, .any, .any, .any, .any, .any, .any, .any, .any, .any, .any], hp := [Blk.vec El.int l0 false, Blk.vec El.window l1 false, .raw [.int .i64 v2_0, .int .i64 v2_1, .int .i64 v2_2, .sl 0 0 1 (List.length l0) none, .int .i64 v2_4, .int .i64 v2_5, .int .i64 v2_6, .int .i64 v2_7, .int .i64 v2_8, .int .i64 v2_9, .int .i64 v2_10, .int .i64 v2_11, .int .i64 v2_12, .int .i64 v2_13, .int .i64 v2_14, .int .i64 v2_15, .int .i64 v2_16, .int .i64 v2_17, .int .i64 v2_18, .int .i64 v2_19, .int .i64 v2_20, .int .i64 v2_21, .int .i64 v2_22, .int .i64 v2_23, .int .i64 v2_24, .int .i64 v2_25, .int .i64 v2_26, .int .i64 v2_27, .int .i64 v2_28, .int .i64 v2_29, .int .i64 v2_30, .int .i64 v2_31, .int .i64 v2_32, .int .i64 v2_33, .int .i64 v2_34, .bool v2_35, .sl 1 0 7 (List.length l1) none], .raw [.int .i64 v3_0, .int .i64 v3_1, .int .i64 v3_2, .int .i64 v3_3, .int .i64 v3_4, .int .i64 v3_5, .int .i64 v3_6], Blk.vec El.int l4 true, Blk.vec El.window l5 true, .raw [.int .i64 v6_0, .int .i64 v6_1, .int .i64 v6_2, .int .i64 v6_3]] }
noncomputable def c_noon : Code := ((codeB [false, true, false, true, true, true, true, true, true, true, true, true] (Tryd.f5.body.getD .skip)).getD .skip |> fun c => match c with | .loop c => c | c => c)
noncomputable def I_noon (F d n : Nat) (s : St (X := els)) : Option (Ex × St (X := els)) := iter none (fun s' K' => exec k64 none (callD k64 none F d) F 5 16372 c_noon s' (forgetK none sp_noon K')) n s (fun e s => some (e, dropS kx_noon s))
noncomputable def g_noon : List LV → List (Blk (X := els)) → List SV → Ends3
  | [⟨El.int, l0⟩, ⟨El.window, l1⟩, ⟨El.int, l4⟩, ⟨El.window, l5⟩], [], xs => takeI xs fun v2_0 xs => takeI xs fun v2_1 xs => takeI xs fun v2_2 xs => takeI xs fun v2_4 xs => takeI xs fun v2_5 xs => takeI xs fun v2_6 xs => takeI xs fun v2_7 xs => takeI xs fun v2_8 xs => takeI xs fun v2_9 xs => takeI xs fun v2_10 xs => takeI xs fun v2_11 xs => takeI xs fun v2_12 xs => takeI xs fun v2_13 xs => takeI xs fun v2_14 xs => takeI xs fun v2_15 xs => takeI xs fun v2_16 xs => takeI xs fun v2_17 xs => takeI xs fun v2_18 xs => takeI xs fun v2_19 xs => takeI xs fun v2_20 xs => takeI xs fun v2_21 xs => takeI xs fun v2_22 xs => takeI xs fun v2_23 xs => takeI xs fun v2_24 xs => takeI xs fun v2_25 xs => takeI xs fun v2_26 xs => takeI xs fun v2_27 xs => takeI xs fun v2_28 xs => takeI xs fun v2_29 xs => takeI xs fun v2_30 xs => takeI xs fun v2_31 xs => takeI xs fun v2_32 xs => takeI xs fun v2_33 xs => takeI xs fun v2_34 xs => takeB xs fun v2_35 xs => takeI xs fun v3_0 xs => takeI xs fun v3_1 xs => takeI xs fun v3_2 xs => takeI xs fun v3_3 xs => takeI xs fun v3_4 xs => takeI xs fun v3_5 xs => takeI xs fun v3_6 xs => takeI xs fun v6_0 xs => takeI xs fun v6_1 xs => takeI xs fun v6_2 xs => takeI xs fun v6_3 xs => takeI xs fun v11 xs => takeI xs fun v13 xs => takeI xs fun v14 xs => takeE xs (some (noonB v2_13 v6_0 v6_1 v14 v11, [], .exit 0, (X_noon_1 l0 l1 l4 l5 v2_0 v2_1 v2_2 v2_4 v2_5 v2_6 v2_7 v2_8 v2_9 v2_10 v2_11 v2_12 v2_13 v2_14 v2_15 v2_16 v2_17 v2_18 v2_19 v2_20 v2_21 v2_22 v2_23 v2_24 v2_25 v2_26 v2_27 v2_28 v2_29 v2_30 v2_31 v2_32 v2_33 v2_34 v2_35 v3_0 v3_1 v3_2 v3_3 v3_4 v3_5 v3_6 v6_0 v6_1 v6_2 v6_3 v11 v13)))
  | _, _, _ => none
noncomputable def k65 : Cfg (X := els) := { k64 with lp := (5, 8186, { keep := keep_noon, m := 7, mv := sp_noon.mv, ctx := 0, con := some ((P_noon).con g_noon) }) :: k64.lp }

noncomputable def s_newellaw14_WindowRests := (Sig.cons true dConfig (Sig.cons true (Dat.ofCel cWindow) (Sig.cons false (Dat.ofCel (Cel.int .i64)) Sig.nil)))
noncomputable def r_newellaw14_WindowRests := Res.bool
noncomputable abbrev k66 : Cfg (X := els) := k65

noncomputable def s_newellaw14_WindowApart := (Sig.cons true dTwoWin Sig.nil)
noncomputable def r_newellaw14_WindowApart := Res.bool
noncomputable abbrev k67 : Cfg (X := els) := k66

end Go.Proofs.YtgfinnhojeghhaaDoor.Px.PxX
