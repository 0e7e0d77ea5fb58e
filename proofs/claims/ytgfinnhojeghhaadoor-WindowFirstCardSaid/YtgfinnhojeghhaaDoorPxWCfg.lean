/- The contracts of a seat's functions. -/
import Derived.Test.YtgfinnhojeghhaaDoorPxWTypes
import Derived.Test.YtgfinnhojeghhaaDoorPxSpecConfig
import Derived.Test.YtgfinnhojeghhaaDoorPxSpecGreg
set_option linter.unusedVariables false
set_option linter.unusedSimpArgs false
namespace Go.Proofs.YtgfinnhojeghhaaDoor.Px.PxW
open Go Go.Proofs

noncomputable def s_zone_within := (Sig.cons false (Dat.ofCel (Cel.int .i64)) (Sig.cons false (Dat.ofCel (Cel.int .i64)) (Sig.cons false (Dat.ofCel (Cel.int .i64)) Sig.nil)))
noncomputable def r_zone_within := Res.bool
noncomputable def k1 : Cfg (X := els) := { k0 with E := (31, (s_zone_within).con r_zone_within (fun x => (inB x.1 x.2.1 x.2.2.1)) (fun _ => true)) :: k0.E }

noncomputable def s_divs_Div := (Sig.cons false (Dat.ofCel (Cel.int .i64)) (Sig.cons false (Dat.ofCel (Cel.int .i64)) Sig.nil))
noncomputable def r_divs_Div := (Res.tup2 (Res.int .i64) (Res.int .i64))
noncomputable def k2 : Cfg (X := els) := { k1 with E := (46, (s_divs_Div).con r_divs_Div (fun x => (divsDiv x.1 x.2.1)) (fun x => divOk x.1 x.2.1)) :: k1.E }

noncomputable def s_divs_Mod := (Sig.cons false (Dat.ofCel (Cel.int .i64)) (Sig.cons false (Dat.ofCel (Cel.int .i64)) Sig.nil))
noncomputable def r_divs_Mod := (Res.tup2 (Res.int .i64) (Res.int .i64))
noncomputable def k3 : Cfg (X := els) := { k2 with E := (59, (s_divs_Mod).con r_divs_Mod (fun x => (divsMod x.1 x.2.1)) (fun x => divOk x.1 x.2.1)) :: k2.E }

noncomputable def s_divs_Next := (Sig.cons false (Dat.ofCel (Cel.int .i64)) (Sig.cons false (Dat.ofCel (Cel.int .i64)) (Sig.cons false (Dat.ofCel (Cel.int .i64)) Sig.nil)))
noncomputable def r_divs_Next := (Res.tup2 (Res.int .i64) (Res.int .i64))
noncomputable def k4 : Cfg (X := els) := { k3 with E := (74, (s_divs_Next).con r_divs_Next (fun x => (divsNext x.1 x.2.1 x.2.2.1)) (fun x => nextOk x.1 x.2.1 x.2.2.1)) :: k3.E }

noncomputable def s_greg_Leap := (Sig.cons false (Dat.ofCel (Cel.int .i64)) Sig.nil)
noncomputable def r_greg_Leap := Res.bool
noncomputable def k5 : Cfg (X := els) := { k4 with E := (80, (s_greg_Leap).con r_greg_Leap (fun x => (leapG x.1)) (fun _ => true)) :: k4.E }

noncomputable def s_greg_Days := (Sig.cons false (Dat.ofCel (Cel.int .i64)) (Sig.cons false (Dat.ofCel (Cel.int .i64)) Sig.nil))
noncomputable def r_greg_Days := (Res.int .i64)
noncomputable def k6 : Cfg (X := els) := { k5 with E := (72, (s_greg_Days).con r_greg_Days (fun x => (daysG x.1 x.2.1)) (fun _ => true)) :: k5.E }

noncomputable def s_greg_ahead := (Sig.cons false (Dat.ofCel (Cel.int .i64)) Sig.nil)
noncomputable def r_greg_ahead := (Res.agg cSums)
noncomputable def k7 : Cfg (X := els) := { k6 with E := (61, (s_greg_ahead).con r_greg_ahead (fun x => (aheadG x.1)) (fun _ => true)) :: k6.E }

noncomputable def s_greg_before := (Sig.cons false (Dat.ofCel (Cel.int .i64)) Sig.nil)
noncomputable def r_greg_before := (Res.int .i64)
noncomputable def k8 : Cfg (X := els) := { k7 with E := (81, (s_greg_before).con r_greg_before (fun x => (beforeG x.1)) (fun x => yearB x.1)) :: k7.E }

noncomputable def s_greg_Day := (Sig.cons true (Dat.ofCel cDate) Sig.nil)
noncomputable def r_greg_Day := (Res.tup2 (Res.int .i64) (Res.int .i64))
noncomputable def k9 : Cfg (X := els) := { k8 with E := (73, (s_greg_Day).con r_greg_Day (fun x => (dayG x.1)) (fun _ => true)) :: k8.E }

noncomputable def s_greg_Of := (Sig.cons false (Dat.ofCel (Cel.int .i64)) Sig.nil)
noncomputable def r_greg_Of := (Res.tup2 (Res.agg cDate) (Res.int .i64))
noncomputable def k10 : Cfg (X := els) := { k9 with E := (47, (s_greg_Of).con r_greg_Of (fun x => (ofG x.1)) (fun _ => true)) :: k9.E }

noncomputable def s_greg_Nth := (Sig.cons false (Dat.ofCel (Cel.int .i64)) (Sig.cons false (Dat.ofCel (Cel.int .i64)) (Sig.cons false (Dat.ofCel (Cel.int .i64)) (Sig.cons false (Dat.ofCel (Cel.int .i64)) Sig.nil))))
noncomputable def r_greg_Nth := (Res.tup2 (Res.int .i64) (Res.int .i64))
noncomputable def k11 : Cfg (X := els) := { k10 with E := (62, (s_greg_Nth).con r_greg_Nth (fun x => (nthG x.1 x.2.1 x.2.2.1 x.2.2.2.1)) (fun _ => true)) :: k10.E }

noncomputable def s_zone_Check := (Sig.cons true (Dat.ofCel cZone) Sig.nil)
noncomputable def r_zone_Check := (Res.int .i64)
noncomputable def k12 : Cfg (X := els) := { k11 with E := (19, (s_zone_Check).con r_zone_Check (fun x => (zone_Check x.1)) (fun _ => true)) :: k11.E }

noncomputable def s_zone_when := (Sig.cons true (Dat.ofCel cZone) (Sig.cons true (Dat.ofCel cTurn) (Sig.cons false (Dat.ofCel (Cel.int .i64)) Sig.nil)))
noncomputable def r_zone_when := (Res.int .i64)
noncomputable def k13 : Cfg (X := els) := { k12 with E := (48, (s_zone_when).con r_zone_when (fun x => (whenG x.1 x.2.1 x.2.2.1)) (fun x => whenOk x.1 x.2.1 x.2.2.1)) :: k12.E }

noncomputable def s_zone_shift := (Sig.cons true (Dat.ofCel cZone) (Sig.cons false (Dat.ofCel (Cel.int .i64)) Sig.nil))
noncomputable def r_zone_shift := (Res.int .i64)
noncomputable def k14 : Cfg (X := els) := { k13 with E := (30, (s_zone_shift).con r_zone_shift (fun x => (shiftG x.1 x.2.1)) (fun x => shiftOk x.1 x.2.1)) :: k13.E }

noncomputable def s_zone_Instants := (Sig.cons true (Dat.ofCel cZone) (Sig.cons false (Dat.ofCel (Cel.int .i64)) (Sig.cons false (Dat.ofCel (Cel.int .i64)) Sig.nil)))
noncomputable def r_zone_Instants := (Out.tup (Outs.cons (Out.one (Own.sl (.int : El))) (Outs.last (Out.one (Own.ofCel (Cel.int .i64))))))
noncomputable def k15 : Cfg (X := els) := { k14 with H := (18, (s_zone_Instants).hcon r_zone_Instants (fun x => (instG x.1 x.2.1 x.2.2.1)) (fun _ => true)) :: k14.H }

noncomputable def s_newelref01_Div := (Sig.cons false (Dat.ofCel (Cel.int .i64)) (Sig.cons false (Dat.ofCel (Cel.int .i64)) Sig.nil))
noncomputable def r_newelref01_Div := (Res.int .i64)
noncomputable def k16 : Cfg (X := els) := { k15 with E := (64, (s_newelref01_Div).con r_newelref01_Div (fun x => (rDiv x.1 x.2.1)) (fun x => divOk x.1 x.2.1)) :: k15.E }

noncomputable def s_newelref01_Mod := (Sig.cons false (Dat.ofCel (Cel.int .i64)) (Sig.cons false (Dat.ofCel (Cel.int .i64)) Sig.nil))
noncomputable def r_newelref01_Mod := (Res.int .i64)
noncomputable def k17 : Cfg (X := els) := { k16 with E := (86, (s_newelref01_Mod).con r_newelref01_Mod (fun x => (rMod x.1 x.2.1)) (fun x => divOk x.1 x.2.1)) :: k16.E }

noncomputable def s_newelref02_Leap := (Sig.cons false (Dat.ofCel (Cel.int .i64)) Sig.nil)
noncomputable def r_newelref02_Leap := Res.bool
noncomputable def k18 : Cfg (X := els) := { k17 with E := (82, (s_newelref02_Leap).con r_newelref02_Leap (fun x => (leapG x.1)) (fun _ => true)) :: k17.E }

noncomputable def s_newelref02_long := (Sig.cons false (Dat.ofCel (Cel.int .i64)) Sig.nil)
noncomputable def r_newelref02_long := (Res.int .i64)
noncomputable def k19 : Cfg (X := els) := { k18 with E := (75, (s_newelref02_long).con r_newelref02_long (fun x => (rLong x.1)) (fun _ => true)) :: k18.E }

noncomputable def s_newelref02_Days := (Sig.cons false (Dat.ofCel (Cel.int .i64)) (Sig.cons false (Dat.ofCel (Cel.int .i64)) Sig.nil))
noncomputable def r_newelref02_Days := (Res.int .i64)
noncomputable def k20 : Cfg (X := els) := { k19 with E := (76, (s_newelref02_Days).con r_newelref02_Days (fun x => (daysG x.1 x.2.1)) (fun _ => true)) :: k19.E }

def P_yrs : Pat (X := els) := { tm := [(.is (.int .i64)), .any, (.is (.lit (AV.ptr 0 0))), (.is (.int .i64)), .any, .any, .any, .any, .any, .any, .any, .any, .any, .any, .any, .any, .any, .any, .any, .any, .any, .any, .any, .any, .any, .any, .any, .any, .any, .any, .any], hp := [(.raw [(.int .i64), (.int .i64), (.int .i64)])] }
def keep_yrs : List Nat := [0, 2, 3]
def kx_yrs : List Nat := [0, 2, 3]
noncomputable def sp_yrs : LSpec (X := els) := { keep := keep_yrs, m := 1, mv := [] }
def S_yrs (v0_0 v0_1 v0_2 v0 v3 : Int) : St (X := els) := { tm := [.is (.int .i64 v0), .any, .is (.ptr 0 0), .is (.int .i64 v3), .any, .any, .any, .any, .any, .any, .any, .any, .any, .any, .any, .any, .any, .any, .any, .any, .any, .any, .any, .any, .any, .any, .any, .any, .any, .any, .any], hp := [.raw [.int .i64 v0_0, .int .i64 v0_1, .int .i64 v0_2]] }
def X_yrs_0 (v0_0 v0_1 v0_2 v0 v3 : Int) : St (X := els) := { tm := [.is (.int .i64 v0), .any, .is (.ptr 0 0), .is (.int .i64 v3), .any, .any, .any, .any, .any, .any, .any, .any, .any, .any, .any, .any, .any, .any, .any, .any, .any, .any, .any, .any, .any, .any, .any, .any, .any, .any, .any], hp := [.raw [.int .i64 v0_0, .int .i64 v0_1, .int .i64 v0_2]] }
noncomputable def c_yrs : Code := ((codeB [false, false, true, true] (Tryd.f63.body.getD .skip)).getD .skip |> fun c => match c with | .loop c => c | c => c)
noncomputable def I_yrs (F d n : Nat) (s : St (X := els)) : Option (Ex × St (X := els)) := iter none (fun s' K' => exec k20 none (callD k20 none F d) F 63 56 c_yrs s' (forgetK none sp_yrs K')) n s (fun e s => some (e, dropS kx_yrs s))
noncomputable def g_yrs : List LV → List (Blk (X := els)) → List SV → Ends3
  | [], [], xs => takeI xs fun v0_0 xs => takeI xs fun v0_1 xs => takeI xs fun v0_2 xs => takeI xs fun v0 xs => takeI xs fun v3 xs => takeE xs (some (v3 == 1 && dayOk v0, [], .exit 0, (X_yrs_0 v0_0 v0_1 v0_2 (v0 - beforeG (yrG v0)) (yrG v0))))
  | _, _, _ => none
noncomputable def k21 : Cfg (X := els) := { k20 with lp := (63, 28, { keep := keep_yrs, m := 1, mv := sp_yrs.mv, ctx := 0, con := some ((P_yrs).con g_yrs) }) :: k20.lp }

def P_mons : Pat (X := els) := { tm := [(.is (.int .i64)), .any, (.is (.lit (AV.ptr 0 0))), (.is (.int .i64)), (.is (.int .i64)), .any, .any, .any, .any, .any, .any, .any, .any, .any, .any, .any, .any, .any, .any, .any, .any, .any, .any, .any, .any, .any, .any, .any, .any, .any, .any], hp := [(.raw [(.int .i64), (.int .i64), (.int .i64)])] }
def keep_mons : List Nat := [0, 2, 3, 4]
def kx_mons : List Nat := [0, 2, 3, 4]
noncomputable def sp_mons : LSpec (X := els) := { keep := keep_mons, m := 1, mv := [] }
def S_mons (v0_0 v0_1 v0_2 v0 v3 v4 : Int) : St (X := els) := { tm := [.is (.int .i64 v0), .any, .is (.ptr 0 0), .is (.int .i64 v3), .is (.int .i64 v4), .any, .any, .any, .any, .any, .any, .any, .any, .any, .any, .any, .any, .any, .any, .any, .any, .any, .any, .any, .any, .any, .any, .any, .any, .any, .any], hp := [.raw [.int .i64 v0_0, .int .i64 v0_1, .int .i64 v0_2]] }
def X_mons_0 (v0_0 v0_1 v0_2 v0 v3 v4 : Int) : St (X := els) := { tm := [.is (.int .i64 v0), .any, .is (.ptr 0 0), .is (.int .i64 v3), .is (.int .i64 v4), .any, .any, .any, .any, .any, .any, .any, .any, .any, .any, .any, .any, .any, .any, .any, .any, .any, .any, .any, .any, .any, .any, .any, .any, .any, .any], hp := [.raw [.int .i64 v0_0, .int .i64 v0_1, .int .i64 v0_2]] }
noncomputable def c_mons : Code := ((codeB [false, false, true, true, true, true] (Tryd.f63.body.getD .skip)).getD .skip |> fun c => match c with | .loop c => c | c => c)
noncomputable def I_mons (F d n : Nat) (s : St (X := els)) : Option (Ex × St (X := els)) := iter none (fun s' K' => exec k21 none (callD k21 none F d) F 63 248 c_mons s' (forgetK none sp_mons K')) n s (fun e s => some (e, dropS kx_mons s))
noncomputable def g_mons : List LV → List (Blk (X := els)) → List SV → Ends3
  | [], [], xs => takeI xs fun v0_0 xs => takeI xs fun v0_1 xs => takeI xs fun v0_2 xs => takeI xs fun v0 xs => takeI xs fun v3 xs => takeI xs fun v4 xs => takeE xs (some (v4 == 1 && (decide (1 ≤ v3) && (decide (v3 ≤ 9999) && (decide (1 ≤ v0) && decide (v0 ≤ rLong v3)))), [], .exit 2, (X_mons_0 v0_0 v0_1 v0_2 (v0 - sumG v3 (monR v3 v0 - 1)) v3 ((monR v3 v0 : Nat) : Int))))
  | _, _, _ => none
noncomputable def k22 : Cfg (X := els) := { k21 with lp := (63, 124, { keep := keep_mons, m := 1, mv := sp_mons.mv, ctx := 0, con := some ((P_mons).con g_mons) }) :: k21.lp }

noncomputable def s_newelref02_Of := (Sig.cons false (Dat.ofCel (Cel.int .i64)) Sig.nil)
noncomputable def r_newelref02_Of := (Res.agg cDate)
noncomputable def k23 : Cfg (X := els) := { k22 with E := (63, (s_newelref02_Of).con r_newelref02_Of (fun x => (rOf x.1)) (fun x => dayOk x.1)) :: k22.E }

def P_dyrs : Pat (X := els) := { tm := [.any, (.is (.lit (AV.ptr 0 0))), .any, (.is (.int .i64)), (.is (.int .i64)), .any, .any, .any, .any, .any, .any, .any, .any, .any, .any, .any, .any, .any, .any, .any, .any, .any, .any, .any, .any, .any, .any, .any, .any, .any, .any], hp := [(.raw [(.int .i64), (.int .i64), (.int .i64)])] }
def keep_dyrs : List Nat := [1, 3, 4]
def kx_dyrs : List Nat := [1, 2, 3]
noncomputable def sp_dyrs : LSpec (X := els) := { keep := keep_dyrs, m := 1, mv := [] }
def S_dyrs (v0_0 v0_1 v0_2 v3 v4 : Int) : St (X := els) := { tm := [.any, .is (.ptr 0 0), .any, .is (.int .i64 v3), .is (.int .i64 v4), .any, .any, .any, .any, .any, .any, .any, .any, .any, .any, .any, .any, .any, .any, .any, .any, .any, .any, .any, .any, .any, .any, .any, .any, .any, .any], hp := [.raw [.int .i64 v0_0, .int .i64 v0_1, .int .i64 v0_2]] }
def X_dyrs_0 (v0_0 v0_1 v0_2 v3 : Int) : St (X := els) := { tm := [.any, .is (.ptr 0 0), .any, .is (.int .i64 v3), .any, .any, .any, .any, .any, .any, .any, .any, .any, .any, .any, .any, .any, .any, .any, .any, .any, .any, .any, .any, .any, .any, .any, .any, .any, .any, .any], hp := [.raw [.int .i64 v0_0, .int .i64 v0_1, .int .i64 v0_2]] }
noncomputable def c_dyrs : Code := ((codeB [false, true, false, true, true] (Tryd.f83.body.getD .skip)).getD .skip |> fun c => match c with | .loop c => c | c => c)
noncomputable def I_dyrs (F d n : Nat) (s : St (X := els)) : Option (Ex × St (X := els)) := iter none (fun s' K' => exec k23 none (callD k23 none F d) F 83 116 c_dyrs s' (forgetK none sp_dyrs K')) n s (fun e s => some (e, dropS kx_dyrs s))
noncomputable def g_dyrs : List LV → List (Blk (X := els)) → List SV → Ends3
  | [], [], xs => takeI xs fun v0_0 xs => takeI xs fun v0_1 xs => takeI xs fun v0_2 xs => takeI xs fun v3 xs => takeI xs fun v4 xs => takeE xs (some (v4 == 1 && (lit v3 && yearB v0_0), [], .exit 0, (X_dyrs_0 v0_0 v0_1 v0_2 (v3 + beforeG v0_0))))
  | _, _, _ => none
noncomputable def k24 : Cfg (X := els) := { k23 with lp := (83, 58, { keep := keep_dyrs, m := 1, mv := sp_dyrs.mv, ctx := 0, con := some ((P_dyrs).con g_dyrs) }) :: k23.lp }

def P_dmon : Pat (X := els) := { tm := [.any, (.is (.lit (AV.ptr 0 0))), .any, (.is (.int .i64)), .any, (.is (.int .i64)), .any, .any, .any, .any, .any, .any, .any, .any, .any, .any, .any, .any, .any, .any, .any, .any, .any, .any, .any, .any, .any, .any, .any, .any, .any], hp := [(.raw [(.int .i64), (.int .i64), (.int .i64)])] }
def keep_dmon : List Nat := [1, 3, 5]
def kx_dmon : List Nat := [2, 3]
noncomputable def sp_dmon : LSpec (X := els) := { keep := keep_dmon, m := 1, mv := [] }
def S_dmon (v0_0 v0_1 v0_2 v3 v5 : Int) : St (X := els) := { tm := [.any, .is (.ptr 0 0), .any, .is (.int .i64 v3), .any, .is (.int .i64 v5), .any, .any, .any, .any, .any, .any, .any, .any, .any, .any, .any, .any, .any, .any, .any, .any, .any, .any, .any, .any, .any, .any, .any, .any, .any], hp := [.raw [.int .i64 v0_0, .int .i64 v0_1, .int .i64 v0_2]] }
def X_dmon_0 (v0_0 v0_1 v0_2 v3 : Int) : St (X := els) := { tm := [.any, .any, .any, .is (.int .i64 v3), .any, .any, .any, .any, .any, .any, .any, .any, .any, .any, .any, .any, .any, .any, .any, .any, .any, .any, .any, .any, .any, .any, .any, .any, .any, .any, .any], hp := [.raw [.int .i64 v0_0, .int .i64 v0_1, .int .i64 v0_2]] }
noncomputable def c_dmon : Code := ((codeB [false, true, false, true, true, true] (Tryd.f83.body.getD .skip)).getD .skip |> fun c => match c with | .loop c => c | c => c)
noncomputable def I_dmon (F d n : Nat) (s : St (X := els)) : Option (Ex × St (X := els)) := iter none (fun s' K' => exec k24 none (callD k24 none F d) F 83 244 c_dmon s' (forgetK none sp_dmon K')) n s (fun e s => some (e, dropS kx_dmon s))
noncomputable def g_dmon : List LV → List (Blk (X := els)) → List SV → Ends3
  | [], [], xs => takeI xs fun v0_0 xs => takeI xs fun v0_1 xs => takeI xs fun v0_2 xs => takeI xs fun v3 xs => takeI xs fun v5 xs => takeE xs (some (v5 == 1 && (big v3 && (decide (1 ≤ v0_1) && decide (v0_1 ≤ 12))), [], .exit 2, (X_dmon_0 v0_0 v0_1 v0_2 (v3 + sumG v0_0 (v0_1 - 1).toNat))))
  | _, _, _ => none
noncomputable def k25 : Cfg (X := els) := { k24 with lp := (83, 122, { keep := keep_dmon, m := 1, mv := sp_dmon.mv, ctx := 0, con := some ((P_dmon).con g_dmon) }) :: k24.lp }

noncomputable def s_newelref02_Day := (Sig.cons true (Dat.ofCel cDate) Sig.nil)
noncomputable def r_newelref02_Day := (Res.int .i64)
noncomputable def k26 : Cfg (X := els) := { k25 with E := (83, (s_newelref02_Day).con r_newelref02_Day (fun x => (rDay x.1)) (fun x => dateOk x.1)) :: k25.E }

noncomputable def s_newelref02_Weekday := (Sig.cons false (Dat.ofCel (Cel.int .i64)) Sig.nil)
noncomputable def r_newelref02_Weekday := (Res.int .i64)
noncomputable def k27 : Cfg (X := els) := { k26 with E := (84, (s_newelref02_Weekday).con r_newelref02_Weekday (fun x => (rWeekday x.1)) (fun x => midW x.1)) :: k26.E }

def P_rnth : Pat (X := els) := { tm := [(.is (.int .i64)), (.is (.int .i64)), (.is (.int .i64)), (.is (.int .i64)), .any, .any, .any, .any, .any, .any, (.is (.int .i64)), (.is (.int .i64)), (.is (.int .i64)), (.is (.int .i64)), .any, .any, .any, .any, .any, .any, .any, .any, .any, .any, .any, .any, .any, .any, .any, .any, .any, .any, .any, .any, .any, .any, .any, .any, .any, .any, .any, .any, .any, .any, .any, .any, .any, .any, .any, .any, .any, .any, .any, .any, .any, .any, .any, .any, .any, .any, .any, .any, .any, .any, .any], hp := [] }
def keep_rnth : List Nat := [0, 1, 2, 3, 10, 11, 12, 13]
def kx_rnth : List Nat := [3, 8, 9, 12]
noncomputable def sp_rnth : LSpec (X := els) := { keep := keep_rnth, m := 0, mv := [] }
def S_rnth (v0 v1 v2 v3 v10 v11 v12 v13 : Int) : St (X := els) := { tm := [.is (.int .i64 v0), .is (.int .i64 v1), .is (.int .i64 v2), .is (.int .i64 v3), .any, .any, .any, .any, .any, .any, .is (.int .i64 v10), .is (.int .i64 v11), .is (.int .i64 v12), .is (.int .i64 v13), .any, .any, .any, .any, .any, .any, .any, .any, .any, .any, .any, .any, .any, .any, .any, .any, .any, .any, .any, .any, .any, .any, .any, .any, .any, .any, .any, .any, .any, .any, .any, .any, .any, .any, .any, .any, .any, .any, .any, .any, .any, .any, .any, .any, .any, .any, .any, .any, .any, .any, .any], hp := [] }
def X_rnth_0 (v3 v10 v13 : Int) : St (X := els) := { tm := [.any, .any, .any, .is (.int .i64 v3), .any, .any, .any, .any, .is (.int .i64 (IntKind.wrap IntKind.i64 (v10 + v13))), .is (.int .i64 0), .any, .any, .is (.int .i64 (IntKind.wrap IntKind.i64 (v10 + v13))), .any, .any, .any, .any, .any, .any, .any, .any, .any, .any, .any, .any, .any, .any, .any, .any, .any, .any, .any, .any, .any, .any, .any, .any, .any, .any, .any, .any, .any, .any, .any, .any, .any, .any, .any, .any, .any, .any, .any, .any, .any, .any, .any, .any, .any, .any, .any, .any, .any, .any, .any, .any], hp := [] }
def X_rnth_1 (v3 v12 : Int) : St (X := els) := { tm := [.any, .any, .any, .is (.int .i64 v3), .any, .any, .any, .any, .any, .any, .any, .any, .is (.int .i64 v12), .any, .any, .any, .any, .any, .any, .any, .any, .any, .any, .any, .any, .any, .any, .any, .any, .any, .any, .any, .any, .any, .any, .any, .any, .any, .any, .any, .any, .any, .any, .any, .any, .any, .any, .any, .any, .any, .any, .any, .any, .any, .any, .any, .any, .any, .any, .any, .any, .any, .any, .any, .any], hp := [] }
noncomputable def c_rnth : Code := ((codeB [false, true, false, true, true, true, true, true, true] (Tryd.f77.body.getD .skip)).getD .skip |> fun c => match c with | .loop c => c | c => c)
noncomputable def I_rnth (F d n : Nat) (s : St (X := els)) : Option (Ex × St (X := els)) := iter none (fun s' K' => exec k27 none (callD k27 none F d) F 77 2036 c_rnth s' (forgetK none sp_rnth K')) n s (fun e s => some (e, dropS kx_rnth s))
noncomputable def g_rnth : List LV → List (Blk (X := els)) → List SV → Ends3
  | [], [], xs => takeI xs fun v0 xs => takeI xs fun v1 xs => takeI xs fun v2 xs => takeI xs fun v3 xs => takeI xs fun v10 xs => takeI xs fun v11 xs => takeI xs fun v12 xs => takeI xs fun v13 xs => takeE xs (some (v10 == firstG v0 v1 && (monthB v0 v1 && (!nthBad v2 v3 && (v11 == 0 && (v12 == 0 && v13 == 0)))), [(endN v3 (cntN v0 v1 v2), .exit 0, (X_rnth_1 v3 (fromG v0 v1 v2 + 7 * (cntN v0 v1 v2 - 1))))], .ret, (X_rnth_0 v3 v10 (fromG v0 v1 v2 + 7 * (v3 - 1) - v10))))
  | _, _, _ => none
noncomputable def k28 : Cfg (X := els) := { k27 with lp := (77, 1018, { keep := keep_rnth, m := 0, mv := sp_rnth.mv, ctx := 0, con := some ((P_rnth).con g_rnth) }) :: k27.lp }

noncomputable def s_newelref02_Nth := (Sig.cons false (Dat.ofCel (Cel.int .i64)) (Sig.cons false (Dat.ofCel (Cel.int .i64)) (Sig.cons false (Dat.ofCel (Cel.int .i64)) (Sig.cons false (Dat.ofCel (Cel.int .i64)) Sig.nil))))
noncomputable def r_newelref02_Nth := (Res.tup2 (Res.int .i64) (Res.int .i64))
noncomputable def k29 : Cfg (X := els) := { k28 with E := (77, (s_newelref02_Nth).con r_newelref02_Nth (fun x => (nthG x.1 x.2.1 x.2.2.1 x.2.2.2.1)) (fun _ => true)) :: k28.E }

noncomputable def s_newelref06_turn := (Sig.cons true (Dat.ofCel cTurn) Sig.nil)
noncomputable def r_newelref06_turn := Res.bool
noncomputable def k30 : Cfg (X := els) := { k29 with E := (21, (s_newelref06_turn).con r_newelref06_turn (fun x => (turnB x.1)) (fun _ => true)) :: k29.E }

noncomputable def s_newelref06_Check := (Sig.cons true (Dat.ofCel cZone) Sig.nil)
noncomputable def r_newelref06_Check := (Res.int .i64)
noncomputable def k31 : Cfg (X := els) := { k30 with E := (9, (s_newelref06_Check).con r_newelref06_Check (fun x => (zone_Check x.1)) (fun _ => true)) :: k30.E }

noncomputable def s_newelref06_When := (Sig.cons true (Dat.ofCel cZone) (Sig.cons true (Dat.ofCel cTurn) (Sig.cons false (Dat.ofCel (Cel.int .i64)) Sig.nil)))
noncomputable def r_newelref06_When := (Res.int .i64)
noncomputable def k32 : Cfg (X := els) := { k31 with E := (65, (s_newelref06_When).con r_newelref06_When (fun x => (whenG x.1 x.2.1 x.2.2.1)) (fun x => whenOk x.1 x.2.1 x.2.2.1)) :: k31.E }

noncomputable def s_newelref06_Summer := (Sig.cons true (Dat.ofCel cZone) (Sig.cons false (Dat.ofCel (Cel.int .i64)) Sig.nil))
noncomputable def r_newelref06_Summer := Res.bool
noncomputable def k33 : Cfg (X := els) := { k32 with E := (50, (s_newelref06_Summer).con r_newelref06_Summer (fun x => (summerR x.1 x.2.1)) (fun x => summerOk x.1 x.2.1)) :: k32.E }

noncomputable def s_newelref06_Told := (Sig.cons true (Dat.ofCel cZone) (Sig.cons false (Dat.ofCel (Cel.int .i64)) Sig.nil))
noncomputable def r_newelref06_Told := (Res.int .i64)
noncomputable def k34 : Cfg (X := els) := { k33 with E := (34, (s_newelref06_Told).con r_newelref06_Told (fun x => (toldR x.1 x.2.1)) (fun x => summerOk x.1 x.2.1)) :: k33.E }

noncomputable def s_newelref06_Instants := (Sig.cons true (Dat.ofCel cZone) (Sig.cons false (Dat.ofCel (Cel.int .i64)) (Sig.cons false (Dat.ofCel (Cel.int .i64)) Sig.nil)))
noncomputable def r_newelref06_Instants := (Out.one (Own.sl (.int : El)))
noncomputable def k35 : Cfg (X := els) := { k34 with H := (23, (s_newelref06_Instants).hcon r_newelref06_Instants (fun x => (instR x.1 x.2.1 x.2.2.1)) (fun x => instRok x.1 x.2.1 x.2.2.1)) :: k34.H }

noncomputable def s_newelref14_Day := (Sig.cons false (Dat.ofCel (Cel.int .i64)) Sig.nil)
noncomputable def r_newelref14_Day := Res.bool
noncomputable def k36 : Cfg (X := els) := { k35 with E := (10, (s_newelref14_Day).con r_newelref14_Day (fun x => (day14 x.1)) (fun _ => true)) :: k35.E }

noncomputable def s_window_reckoned := (Sig.cons false (Dat.ofCel (Cel.int .i64)) Sig.nil)
noncomputable def r_window_reckoned := Res.bool
noncomputable def k37 : Cfg (X := els) := { k36 with E := (20, (s_window_reckoned).con r_window_reckoned (fun x => (recG x.1)) (fun _ => true)) :: k36.E }

def P_wmom : Pat (X := els) := { tm := [.any, .any, .any, (.is (.lit (AV.ptr 0 0))), .any, .any, .any, .any, .any, (.is (.int .i64)), .any, .any, .any, .any, .any, .any, .any, .any, .any, .any, .any, .any, .any, .any, .any, .any, .any, .any, .any, .any, .any, .any, .any, .any, .any, .any, .any, .any, .any, .any, .any, .any, .any, .any, .any, .any, .any, .any, .any], hp := [(.raw [(.int .i64), (.int .i64), (.int .i64), (.int .i64), (.int .i64), (.int .i64), (.int .i64), (.int .i64), (.int .i64), (.int .i64)])] }
def keep_wmom : List Nat := [3, 9]
def kx_wmom : List Nat := [6, 7]
noncomputable def sp_wmom : LSpec (X := els) := { keep := keep_wmom, m := 1, mv := [] }
def S_wmom (v0_0 v0_1 v0_2 v0_3 v0_4 v0_5 v0_6 v0_7 v0_8 v0_9 v9 : Int) : St (X := els) := { tm := [.any, .any, .any, .is (.ptr 0 0), .any, .any, .any, .any, .any, .is (.int .i64 v9), .any, .any, .any, .any, .any, .any, .any, .any, .any, .any, .any, .any, .any, .any, .any, .any, .any, .any, .any, .any, .any, .any, .any, .any, .any, .any, .any, .any, .any, .any, .any, .any, .any, .any, .any, .any, .any, .any, .any], hp := [.raw [.int .i64 v0_0, .int .i64 v0_1, .int .i64 v0_2, .int .i64 v0_3, .int .i64 v0_4, .int .i64 v0_5, .int .i64 v0_6, .int .i64 v0_7, .int .i64 v0_8, .int .i64 v0_9]] }
def X_wmom_0 (v0_0 v0_1 v0_2 v0_3 v0_4 v0_5 v0_6 v0_7 v0_8 v0_9 v9 : Int) : St (X := els) := { tm := [.any, .any, .any, .any, .any, .any, .is (.int .i64 (List.getD (Prod.fst (instG { base := v0_0, shift := v0_1, on := { month := v0_2, week := v0_3, weekday := v0_4, minute := v0_5 }, off := { month := v0_6, week := v0_7, weekday := v0_8, minute := v0_9 } } (IntKind.wrap IntKind.i64 (Int.tdiv v9 1440)) (Int.tmod v9 1440))) 0 0)), .is (.int .i64 0), .any, .any, .any, .any, .any, .any, .any, .any, .any, .any, .any, .any, .any, .any, .any, .any, .any, .any, .any, .any, .any, .any, .any, .any, .any, .any, .any, .any, .any, .any, .any, .any, .any, .any, .any, .any, .any, .any, .any, .any, .any], hp := [.raw [.int .i64 v0_0, .int .i64 v0_1, .int .i64 v0_2, .int .i64 v0_3, .int .i64 v0_4, .int .i64 v0_5, .int .i64 v0_6, .int .i64 v0_7, .int .i64 v0_8, .int .i64 v0_9], Blk.vec El.int (Prod.fst (instG { base := v0_0, shift := v0_1, on := { month := v0_2, week := v0_3, weekday := v0_4, minute := v0_5 }, off := { month := v0_6, week := v0_7, weekday := v0_8, minute := v0_9 } } (IntKind.wrap IntKind.i64 (Int.tdiv v9 1440)) (Int.tmod v9 1440))) true] }
noncomputable def c_wmom : Code := ((codeB [false, true, true, true, true] (Tryd.f8.body.getD .skip)).getD .skip |> fun c => match c with | .loop c => c | c => c)
noncomputable def I_wmom (F d n : Nat) (s : St (X := els)) : Option (Ex × St (X := els)) := iter none (fun s' K' => exec k37 none (callD k37 none F d) F 8 124 c_wmom s' (forgetK none sp_wmom K')) n s (fun e s => some (e, dropS kx_wmom s))
noncomputable def g_wmom : List LV → List (Blk (X := els)) → List SV → Ends3
  | [], [], xs => takeI xs fun v0_0 xs => takeI xs fun v0_1 xs => takeI xs fun v0_2 xs => takeI xs fun v0_3 xs => takeI xs fun v0_4 xs => takeI xs fun v0_5 xs => takeI xs fun v0_6 xs => takeI xs fun v0_7 xs => takeI xs fun v0_8 xs => takeI xs fun v0_9 xs => takeI xs fun v9 xs => takeE xs (some (zone_Check (⟨v0_0, v0_1, ⟨v0_2, v0_3, v0_4, v0_5⟩, ⟨v0_6, v0_7, v0_8, v0_9⟩⟩ : Zone) == 0 && (toldOk v9 && reachIn (rowG (⟨v0_0, v0_1, ⟨v0_2, v0_3, v0_4, v0_5⟩, ⟨v0_6, v0_7, v0_8, v0_9⟩⟩ : Zone)) 200 v9), [], .ret, (X_wmom_0 v0_0 v0_1 v0_2 v0_3 v0_4 v0_5 v0_6 v0_7 v0_8 v0_9 (whereIn (rowG (⟨v0_0, v0_1, ⟨v0_2, v0_3, v0_4, v0_5⟩, ⟨v0_6, v0_7, v0_8, v0_9⟩⟩ : Zone)) 200 v9))))
  | _, _, _ => none
noncomputable def k38 : Cfg (X := els) := { k37 with lp := (8, 62, { keep := keep_wmom, m := 1, mv := sp_wmom.mv, ctx := 0, con := some ((P_wmom).con g_wmom) }) :: k37.lp }

noncomputable def s_window_Moment := (Sig.cons true (Dat.ofCel cZone) (Sig.cons false (Dat.ofCel (Cel.int .i64)) (Sig.cons false (Dat.ofCel (Cel.int .i64)) Sig.nil)))
noncomputable def r_window_Moment := (Res.tup2 (Res.int .i64) (Res.int .i64))
noncomputable def k39 : Cfg (X := els) := { k38 with E := (8, (s_window_Moment).con r_window_Moment (fun x => (momG x.1 x.2.1 x.2.2.1)) (fun _ => true)) :: k38.E }

def P_rmom : Pat (X := els) := { tm := [.any, .any, .any, (.is (.lit (AV.ptr 0 0))), .any, .any, .any, (.is (.int .i64)), (.is (.slW 2 1)), .any, .any, .any, .any, .any, .any, .any, .any, .any, .any, .any, .any, .any, .any, .any, .any, .any, .any, .any, .any, .any, .any, .any, .any], hp := [(.raw [(.int .i64), (.int .i64), (.int .i64), (.int .i64), (.int .i64), (.int .i64), (.int .i64), (.int .i64), (.int .i64), (.int .i64)]), .dead, (.vec (.int : El) true)] }
def keep_rmom : List Nat := [3, 7, 8]
def kx_rmom : List Nat := [6, 8]
noncomputable def sp_rmom : LSpec (X := els) := { keep := keep_rmom, m := 2, mv := [(.slot 8, (.int : El))] }
def S_rmom (l2 : List (Int)) (v0_0 v0_1 v0_2 v0_3 v0_4 v0_5 v0_6 v0_7 v0_8 v0_9 v7 : Int) : St (X := els) := { tm := [.any, .any, .any, .is (.ptr 0 0), .any, .any, .any, .is (.int .i64 v7), .is (.sl 2 0 1 (List.length l2) none), .any, .any, .any, .any, .any, .any, .any, .any, .any, .any, .any, .any, .any, .any, .any, .any, .any, .any, .any, .any, .any, .any, .any, .any], hp := [.raw [.int .i64 v0_0, .int .i64 v0_1, .int .i64 v0_2, .int .i64 v0_3, .int .i64 v0_4, .int .i64 v0_5, .int .i64 v0_6, .int .i64 v0_7, .int .i64 v0_8, .int .i64 v0_9], .dead, Blk.vec El.int l2 true] }
def X_rmom_0 (l2 : List (Int)) (v0_0 v0_1 v0_2 v0_3 v0_4 v0_5 v0_6 v0_7 v0_8 v0_9 : Int) : St (X := els) := { tm := [.any, .any, .any, .any, .any, .any, .any, .any, .is (.sl 2 0 1 (List.length l2) none), .any, .any, .any, .any, .any, .any, .any, .any, .any, .any, .any, .any, .any, .any, .any, .any, .any, .any, .any, .any, .any, .any, .any, .any], hp := [.raw [.int .i64 v0_0, .int .i64 v0_1, .int .i64 v0_2, .int .i64 v0_3, .int .i64 v0_4, .int .i64 v0_5, .int .i64 v0_6, .int .i64 v0_7, .int .i64 v0_8, .int .i64 v0_9], .dead, Blk.vec El.int l2 true] }
noncomputable def c_rmom : Code := ((codeB [false, false, true, true, true] (Tryd.f12.body.getD .skip)).getD .skip |> fun c => match c with | .loop c => c | c => c)
noncomputable def I_rmom (F d n : Nat) (s : St (X := els)) : Option (Ex × St (X := els)) := iter none (fun s' K' => exec k39 none (callD k39 none F d) F 12 120 c_rmom s' (forgetK none sp_rmom K')) n s (fun e s => some (e, dropS kx_rmom s))
noncomputable def g_rmom : List LV → List (Blk (X := els)) → List SV → Ends3
  | [⟨El.int, l2⟩], [], xs => takeI xs fun v0_0 xs => takeI xs fun v0_1 xs => takeI xs fun v0_2 xs => takeI xs fun v0_3 xs => takeI xs fun v0_4 xs => takeI xs fun v0_5 xs => takeI xs fun v0_6 xs => takeI xs fun v0_7 xs => takeI xs fun v0_8 xs => takeI xs fun v0_9 xs => takeI xs fun v7 xs => takeE xs (some (zone_Check (⟨v0_0, v0_1, ⟨v0_2, v0_3, v0_4, v0_5⟩, ⟨v0_6, v0_7, v0_8, v0_9⟩⟩ : Zone) == 0 && (toldOk v7 && (sameI l2 (rowR (⟨v0_0, v0_1, ⟨v0_2, v0_3, v0_4, v0_5⟩, ⟨v0_6, v0_7, v0_8, v0_9⟩⟩ : Zone) v7) && reachIn (rowR (⟨v0_0, v0_1, ⟨v0_2, v0_3, v0_4, v0_5⟩, ⟨v0_6, v0_7, v0_8, v0_9⟩⟩ : Zone)) 200 v7)), [], .exit 0, (X_rmom_0 (rowR (⟨v0_0, v0_1, ⟨v0_2, v0_3, v0_4, v0_5⟩, ⟨v0_6, v0_7, v0_8, v0_9⟩⟩ : Zone) (whereIn (rowR (⟨v0_0, v0_1, ⟨v0_2, v0_3, v0_4, v0_5⟩, ⟨v0_6, v0_7, v0_8, v0_9⟩⟩ : Zone)) 200 v7)) v0_0 v0_1 v0_2 v0_3 v0_4 v0_5 v0_6 v0_7 v0_8 v0_9)))
  | _, _, _ => none
noncomputable def k40 : Cfg (X := els) := { k39 with lp := (12, 60, { keep := keep_rmom, m := 2, mv := sp_rmom.mv, ctx := 0, con := some ((P_rmom).con g_rmom) }) :: k39.lp }

noncomputable def s_newelref14_Moment := (Sig.cons true (Dat.ofCel cZone) (Sig.cons false (Dat.ofCel (Cel.int .i64)) (Sig.cons false (Dat.ofCel (Cel.int .i64)) Sig.nil)))
noncomputable def r_newelref14_Moment := (Res.int .i64)
noncomputable def k41 : Cfg (X := els) := { k40 with E := (12, (s_newelref14_Moment).con r_newelref14_Moment (fun x => (momR x.1 x.2.1 x.2.2.1)) (fun x => momRok x.1 x.2.1 x.2.2.1)) :: k40.E }

noncomputable def s_window_of := (Sig.cons true (Dat.ofCel cWindow) Sig.nil)
noncomputable def r_window_of := (⟨fun _ => .ifc 81 (.agg []), fun _ => ⟨_, rfl⟩⟩ : Res Unit)
noncomputable def k42 : Cfg (X := els) := { k41 with E := (26, (s_window_of).con r_window_of (fun x => (noneW x.1)) (fun x => kind1 x.1)) :: k41.E }

noncomputable def s_greg_Weekday := (Sig.cons false (Dat.ofCel (Cel.int .i64)) Sig.nil)
noncomputable def r_greg_Weekday := (Res.int .i64)
noncomputable def k43 : Cfg (X := els) := { k42 with E := (44, (s_greg_Weekday).con r_greg_Weekday (fun x => (rWeekday x.1)) (fun x => midW x.1)) :: k42.E }

noncomputable def s_window_timed := (Sig.cons true dConfig (Sig.cons true (Dat.ofCel cWindow) (Sig.cons false (Dat.ofCel (Cel.int .i64)) (Sig.cons false (Dat.ofCel Cel.bool) Sig.nil))))
noncomputable def r_window_timed := (Res.tup3 (Res.int .i64) (Res.int .i64) Res.bool)
noncomputable def k44 : Cfg (X := els) := { k43 with E := (104, (s_window_timed).con r_window_timed (fun x => (timedG x.1 x.2.1 x.2.2.1 x.2.2.2.1)) (fun _ => true)) :: k43.E }

noncomputable def s_window_weekly_open := (Sig.cons true Dat.void (Sig.cons true dConfig (Sig.cons true (Dat.ofCel cWindow) (Sig.cons false (Dat.ofCel (Cel.int .i64)) Sig.nil))))
noncomputable def r_window_weekly_open := (Res.tup3 (Res.int .i64) (Res.int .i64) Res.bool)
noncomputable def k45 : Cfg (X := els) := { k44 with E := (103, (s_window_weekly_open).con r_window_weekly_open (fun x => (weekOpen x.1 x.2.1 x.2.2.1 x.2.2.2.1)) (fun x => weekOk x.1 x.2.1 x.2.2.1 x.2.2.2.1)) :: k44.E }

noncomputable def s_window_Span := (Sig.cons true dConfig (Sig.cons true (Dat.ofCel cWindow) (Sig.cons false (Dat.ofCel (Cel.int .i64)) Sig.nil)))
noncomputable def r_window_Span := (Res.tup3 (Res.agg cSpan) Res.bool (Res.int .i64))
noncomputable def k46 : Cfg (X := els) := { k45 with E := (14, (s_window_Span).con r_window_Span (fun x => (plainSpan x.1 x.2.1 x.2.2.1)) (fun x => plainOk x.1 x.2.1 x.2.2.1)) :: k45.E }

noncomputable def s_newellaw14_awake := Sig.nil
noncomputable def r_newellaw14_awake := Res.bool
noncomputable def k47 : Cfg (X := els) := { k46 with E := (11, (s_newellaw14_awake).con r_newellaw14_awake (fun _ => true) (fun _ => true)) :: k46.E }

noncomputable def s_zone_check := (Sig.cons true (Dat.ofCel cZone) (Sig.cons false (Dat.ofCel (Cel.int .i64)) Sig.nil))
noncomputable def r_zone_check := (Res.int .i64)
noncomputable def k48 : Cfg (X := els) := { k47 with E := (29, (s_zone_check).con r_zone_check (fun x => (checkG x.1 x.2.1)) (fun _ => true)) :: k47.E }

noncomputable def s_zone_Local := (Sig.cons true (Dat.ofCel cZone) (Sig.cons false (Dat.ofCel (Cel.int .i64)) Sig.nil))
noncomputable def r_zone_Local := (Res.tup3 (Res.int .i64) (Res.int .i64) (Res.int .i64))
noncomputable def k49 : Cfg (X := els) := { k48 with E := (17, (s_zone_Local).con r_zone_Local (fun x => (localG x.1 x.2.1)) (fun _ => true)) :: k48.E }

noncomputable def s_newellaw14_WindowFirst := (Sig.cons true (Dat.ofCel cZone) (Sig.cons false (Dat.ofCel (Cel.int .i64)) (Sig.cons false (Dat.ofCel (Cel.int .i64)) Sig.nil)))
noncomputable def r_newellaw14_WindowFirst := Res.bool
noncomputable abbrev k50 : Cfg (X := els) := k49

end Go.Proofs.YtgfinnhojeghhaaDoor.Px.PxW
