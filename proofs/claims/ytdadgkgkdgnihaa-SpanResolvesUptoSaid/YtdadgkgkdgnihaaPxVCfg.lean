/- The contracts of a seat's functions. -/
import Derived.Test.YtdadgkgkdgnihaaPxVTypes
import Derived.Test.YtdadgkgkdgnihaaPxSpecSpan
set_option linter.unusedVariables false
set_option linter.unusedSimpArgs false
namespace Go.Proofs.Ytdadgkgkdgnihaa.Px.PxV
open Go Go.Proofs

noncomputable def s_span_within := (Sig.cons true (Dat.ofCel cSpan) (Sig.cons false (Dat.ofCel (Cel.int .i64)) Sig.nil))
noncomputable def r_span_within := Res.bool
noncomputable def k1 : Cfg (X := els) := { k0 with E := (29, (s_span_within).con r_span_within (fun x => (inS x.1 x.2.1)) (fun _ => true)) :: k0.E }

noncomputable def s_lessS := (Sig.cons true (Dat.ofCel cSpan) (Sig.cons true (Dat.ofCel cSpan) Sig.nil))
noncomputable def r_lessS := Res.bool
noncomputable def k2 : Cfg (X := els) := { k1 with E := (33, (s_lessS).con r_lessS (fun x => (lessS x.1 x.2.1)) (fun _ => true)) :: k1.E }

noncomputable def s_newellaw13_own := (Sig.cons false (Dat.sl elsOk (.span : El)) Sig.nil)
noncomputable def r_newellaw13_own := (Out.one (Own.sl (.span : El)))
noncomputable def k3 : Cfg (X := els) := { k2 with H := (11, (s_newellaw13_own).hcon r_newellaw13_own (fun x => (ownS x.1)) (fun x => smallS x.1)) :: k2.H }

def P_same : Pat (X := els) := { tm := [(.is (.slW 0 4)), (.is (.slW 1 4)), .any, .any, .any, (.is (.int .i64)), .any, .any, .any, .any, .any, .any, .any, .any, .any, .any, .any, .any, .any, .any, .any, .any, .any, .any, .any, .any], hp := [(.vec (.span : El) false), (.vec (.span : El) false)] }
def keep_same : List Nat := [0, 1, 5]
def kx_same : List Nat := [4]
noncomputable def sp_same : LSpec (X := els) := { keep := keep_same, m := 2, mv := [] }
def S_same (l0 l1 : List (Span)) (v5 : Int) : St (X := els) := { tm := [.is (.sl 0 0 4 (List.length l0) none), .is (.sl 1 0 4 (List.length l1) none), .any, .any, .any, .is (.int .i64 v5), .any, .any, .any, .any, .any, .any, .any, .any, .any, .any, .any, .any, .any, .any, .any, .any, .any, .any, .any, .any], hp := [Blk.vec El.span l0 false, Blk.vec El.span l1 false] }
def X_same_0 (l0 l1 : List (Span)) : St (X := els) := { tm := [.any, .any, .any, .any, .is (.bool false), .any, .any, .any, .any, .any, .any, .any, .any, .any, .any, .any, .any, .any, .any, .any, .any, .any, .any, .any, .any, .any], hp := [Blk.vec El.span l0 false, Blk.vec El.span l1 false] }
def X_same_1 (l0 l1 : List (Span)) : St (X := els) := { tm := [.any, .any, .any, .any, .any, .any, .any, .any, .any, .any, .any, .any, .any, .any, .any, .any, .any, .any, .any, .any, .any, .any, .any, .any, .any, .any], hp := [Blk.vec El.span l0 false, Blk.vec El.span l1 false] }
noncomputable def c_same : Code := ((codeB [false, true, false, true, true] (Try.f13.body.getD .skip)).getD .skip |> fun c => match c with | .loop c => c | c => c)
noncomputable def I_same (F d n : Nat) (s : St (X := els)) : Option (Ex × St (X := els)) := iter none (fun s' K' => exec k3 none (callD k3 none F d) F 13 116 c_same s' (forgetK none sp_same K')) n s (fun e s => some (e, dropS kx_same s))
noncomputable def g_same : List LV → List (Blk (X := els)) → List SV → Ends3
  | [⟨El.span, l0⟩, ⟨El.span, l1⟩], [], xs => takeI xs fun v5 xs => takeE xs (some (decide (l0.length ≤ 1048576) && (l0.length == l1.length && v5 == 0), [(eqSpans l0 l1, .exit 0, (X_same_1 l0 l1))], .ret, (X_same_0 l0 l1)))
  | _, _, _ => none
noncomputable def k4 : Cfg (X := els) := { k3 with lp := (13, 58, { keep := keep_same, m := 2, mv := sp_same.mv, ctx := 0, con := some ((P_same).con g_same) }) :: k3.lp }

noncomputable def s_newelref13_Same := (Sig.cons false (Dat.sl elsOk (.span : El)) (Sig.cons false (Dat.sl elsOk (.span : El)) Sig.nil))
noncomputable def r_newelref13_Same := Res.bool
noncomputable def k5 : Cfg (X := els) := { k4 with E := (13, (s_newelref13_Same).con r_newelref13_Same (fun x => (eqSpans x.1 x.2.1)) (fun x => smallSS x.1 x.2.1)) :: k4.E }

def P_weight : Pat (X := els) := { tm := [(.is (.slW 0 4)), (.is (.int .i64)), .any, .any, .any, (.is (.int .i64)), (.is (.lit (AV.fn 33 [] []))), .any, .any, (.is (.slW 0 4)), (.is (.int .i64)), (.is (.int .i64)), .any, .any, .any, .any, .any, .any, .any, .any, .any, .any, .any, .any, .any, .any, .any, .any, .any, .any, .any, .any, .any, .any, .any, .any], hp := [(.vec (.span : El) false)] }
def keep_weight : List Nat := [0, 1, 5, 6, 9, 10, 11]
def kx_weight : List Nat := [4, 5]
noncomputable def sp_weight : LSpec (X := els) := { keep := keep_weight, m := 1, mv := [] }
def S_weight (l0 : List (Span)) (v1 v5 v10 v11 : Int) : St (X := els) := { tm := [.is (.sl 0 0 4 (List.length l0) none), .is (.int .i64 v1), .any, .any, .any, .is (.int .i64 v5), .is (AV.fn 33 [] []), .any, .any, .is (.sl 0 0 4 (List.length l0) none), .is (.int .i64 v10), .is (.int .i64 v11), .any, .any, .any, .any, .any, .any, .any, .any, .any, .any, .any, .any, .any, .any, .any, .any, .any, .any, .any, .any, .any, .any, .any, .any], hp := [Blk.vec El.span l0 false] }
def X_weight_0 (l0 : List (Span)) (v5 : Int) : St (X := els) := { tm := [.any, .any, .any, .any, .any, .is (.int .i64 v5), .any, .any, .any, .any, .any, .any, .any, .any, .any, .any, .any, .any, .any, .any, .any, .any, .any, .any, .any, .any, .any, .any, .any, .any, .any, .any, .any, .any, .any, .any], hp := [Blk.vec El.span l0 false] }
noncomputable def c_weight : Code := ((codeB [false, true, false, true, true, true] (Try.f23.body.getD .skip)).getD .skip |> fun c => match c with | .loop c => c | c => c)
noncomputable def I_weight (F d n : Nat) (s : St (X := els)) : Option (Ex × St (X := els)) := iter none (fun s' K' => exec k5 none (callD k5 none F d) F 23 244 c_weight s' (forgetK none sp_weight K')) n s (fun e s => some (e, dropS kx_weight s))
noncomputable def g_weight : List LV → List (Blk (X := els)) → List SV → Ends3
  | [⟨El.span, l0⟩], [], xs => takeI xs fun v1 xs => takeI xs fun v5 xs => takeI xs fun v10 xs => takeI xs fun v11 xs => takeE xs (some (decide (l0.length ≤ 1048576) && (v10 == (l0.length : Int) && (v11 == 0 && v5 == -1)), [], .exit 0, (X_weight_0 l0 (weightI l0 v1))))
  | _, _, _ => none
noncomputable def k6 : Cfg (X := els) := { k5 with lp := (23, 122, { keep := keep_weight, m := 1, mv := sp_weight.mv, ctx := 0, con := some ((P_weight).con g_weight) }) :: k5.lp }

noncomputable def s_span_weightiest := (Sig.cons false (Dat.sl elsOk (.span : El)) (Sig.cons false (Dat.ofCel (Cel.int .i64)) Sig.nil))
noncomputable def r_span_weightiest := (Res.int .i64)
noncomputable def k7 : Cfg (X := els) := { k6 with E := (23, (s_span_weightiest).con r_span_weightiest (fun x => (weightI x.1 x.2.1)) (fun x => smallST x.1 x.2.1)) :: k6.E }

def P_atix : Pat (X := els) := { tm := [(.is (.slW 0 4)), (.is (.lit (AV.fn 28 [] [AV.ptr 1 0]))), .any, .any, .any, .any, .any, (.is (.int .i64)), (.is (.int .i64)), .any, .any, .any, .any, .any, .any, .any, .any, .any, .any], hp := [(.vec (.span : El) false), (.raw [(.int .i64)]), (.raw [(.int .i64), (.int .i64), (.int .i64), (.int .i64)])] }
def keep_atix : List Nat := [0, 1, 7, 8]
def kx_atix : List Nat := [4]
noncomputable def sp_atix : LSpec (X := els) := { keep := keep_atix, m := 3, mv := [] }
def S_atix (l0 : List (Span)) (v1_0 v2_0 v2_1 v2_2 v2_3 v7 v8 : Int) : St (X := els) := { tm := [.is (.sl 0 0 4 (List.length l0) none), .is (AV.fn 28 [] [.ptr 1 0]), .any, .any, .any, .any, .any, .is (.int .i64 v7), .is (.int .i64 v8), .any, .any, .any, .any, .any, .any, .any, .any, .any, .any], hp := [Blk.vec El.span l0 false, .raw [.int .i64 v1_0], .raw [.int .i64 v2_0, .int .i64 v2_1, .int .i64 v2_2, .int .i64 v2_3]] }
def X_atix_0 (l0 : List (Span)) (v1_0 v2_0 v2_1 v2_2 v2_3 v8 : Int) : St (X := els) := { tm := [.any, .any, .any, .any, .is (.int .i64 v8), .any, .any, .any, .any, .any, .any, .any, .any, .any, .any, .any, .any, .any, .any], hp := [Blk.vec El.span l0 false, .raw [.int .i64 v1_0], .raw [.int .i64 v2_0, .int .i64 v2_1, .int .i64 v2_2, .int .i64 v2_3], .raw [.int .i64 (Span.from_ (List.getD l0 (0 + Int.toNat v8) { from_ := 0, to_ := 0, mode := 0, prio := 0 })), .int .i64 (Span.to_ (List.getD l0 (0 + Int.toNat v8) { from_ := 0, to_ := 0, mode := 0, prio := 0 })), .int .i64 (Span.mode (List.getD l0 (0 + Int.toNat v8) { from_ := 0, to_ := 0, mode := 0, prio := 0 })), .int .i64 (Span.prio (List.getD l0 (0 + Int.toNat v8) { from_ := 0, to_ := 0, mode := 0, prio := 0 }))]] }
def X_atix_1 (l0 : List (Span)) (v1_0 v2_0 v2_1 v2_2 v2_3 : Int) : St (X := els) := { tm := [.any, .any, .any, .any, .any, .any, .any, .any, .any, .any, .any, .any, .any, .any, .any, .any, .any, .any, .any], hp := [Blk.vec El.span l0 false, .raw [.int .i64 v1_0], .raw [.int .i64 v2_0, .int .i64 v2_1, .int .i64 v2_2, .int .i64 v2_3]] }
noncomputable def c_atix : Code := ((codeB [false, true, false, true] (Try.f27.body.getD .skip)).getD .skip |> fun c => match c with | .loop c => c | c => c)
noncomputable def I_atix (F d n : Nat) (s : St (X := els)) : Option (Ex × St (X := els)) := iter none (fun s' K' => exec k7 none (callD k7 none F d) F 27 52 c_atix s' (forgetK none sp_atix K')) n s (fun e s => some (e, dropS kx_atix s))
noncomputable def g_atix : List LV → List (Blk (X := els)) → List SV → Ends3
  | [⟨El.span, l0⟩], [], xs => takeI xs fun v1_0 xs => takeI xs fun v2_0 xs => takeI xs fun v2_1 xs => takeI xs fun v2_2 xs => takeI xs fun v2_3 xs => takeI xs fun v7 xs => takeI xs fun v8 xs => takeE xs (some (decide (l0.length ≤ 1048576) && (v7 == (l0.length : Int) && v8 == 0), [(!anyIn l0 v1_0, .exit 0, (X_atix_1 l0 v1_0 v2_0 v2_1 v2_2 v2_3))], .ret, (X_atix_0 l0 v1_0 v2_0 v2_1 v2_2 v2_3 (atIdx l0 v1_0))))
  | _, _, _ => none
noncomputable def k8 : Cfg (X := els) := { k7 with lp := (27, 26, { keep := keep_atix, m := 3, mv := sp_atix.mv, ctx := 1003, con := some ((P_atix).con g_atix) }) :: k7.lp }

noncomputable def s_span_At := (Sig.cons false (Dat.sl elsOk (.span : El)) (Sig.cons false (Dat.ofCel (Cel.int .i64)) Sig.nil))
noncomputable def r_span_At := (Res.tup2 (Res.agg cSpan) Res.bool)
noncomputable def k9 : Cfg (X := els) := { k8 with E := (15, (s_span_At).con r_span_At (fun x => (findS x.1 x.2.1)) (fun x => smallST x.1 x.2.1)) :: k8.E }

def P_rat : Pat (X := els) := { tm := [(.is (.slW 0 4)), (.is (.int .i64)), .any, .any, (.is (.lit (AV.ptr 1 0))), .any, (.is (.int .i64)), .any, .any, .any, .any, .any, .any, .any, .any, .any, .any, .any, .any, .any, .any, .any, .any, .any, .any, .any, .any, .any, .any, .any, .any, .any, .any, .any], hp := [(.vec (.span : El) false), (.raw [(.int .i64), (.int .i64), (.int .i64), (.int .i64)])] }
def keep_rat : List Nat := [0, 1, 4, 6]
def kx_rat : List Nat := [4, 5]
noncomputable def sp_rat : LSpec (X := els) := { keep := keep_rat, m := 2, mv := [] }
def S_rat (l0 : List (Span)) (v1_0 v1_1 v1_2 v1_3 v1 v6 : Int) : St (X := els) := { tm := [.is (.sl 0 0 4 (List.length l0) none), .is (.int .i64 v1), .any, .any, .is (.ptr 1 0), .any, .is (.int .i64 v6), .any, .any, .any, .any, .any, .any, .any, .any, .any, .any, .any, .any, .any, .any, .any, .any, .any, .any, .any, .any, .any, .any, .any, .any, .any, .any, .any], hp := [Blk.vec El.span l0 false, .raw [.int .i64 v1_0, .int .i64 v1_1, .int .i64 v1_2, .int .i64 v1_3]] }
def X_rat_0 (l0 : List (Span)) (v6 : Int) : St (X := els) := { tm := [.any, .any, .any, .any, .is (.ptr 1 0), .is (.bool true), .any, .any, .any, .any, .any, .any, .any, .any, .any, .any, .any, .any, .any, .any, .any, .any, .any, .any, .any, .any, .any, .any, .any, .any, .any, .any, .any, .any], hp := [Blk.vec El.span l0 false, .raw [.int .i64 (Span.from_ (List.getD l0 (0 + Int.toNat v6) { from_ := 0, to_ := 0, mode := 0, prio := 0 })), .int .i64 (Span.to_ (List.getD l0 (0 + Int.toNat v6) { from_ := 0, to_ := 0, mode := 0, prio := 0 })), .int .i64 (Span.mode (List.getD l0 (0 + Int.toNat v6) { from_ := 0, to_ := 0, mode := 0, prio := 0 })), .int .i64 (Span.prio (List.getD l0 (0 + Int.toNat v6) { from_ := 0, to_ := 0, mode := 0, prio := 0 }))]] }
def X_rat_1 (l0 : List (Span)) (v1_0 v1_1 v1_2 v1_3 : Int) : St (X := els) := { tm := [.any, .any, .any, .any, .is (.ptr 1 0), .any, .any, .any, .any, .any, .any, .any, .any, .any, .any, .any, .any, .any, .any, .any, .any, .any, .any, .any, .any, .any, .any, .any, .any, .any, .any, .any, .any, .any], hp := [Blk.vec El.span l0 false, .raw [.int .i64 v1_0, .int .i64 v1_1, .int .i64 v1_2, .int .i64 v1_3]] }
noncomputable def c_rat : Code := ((codeB [false, true, false, true] (Try.f16.body.getD .skip)).getD .skip |> fun c => match c with | .loop c => c | c => c)
noncomputable def I_rat (F d n : Nat) (s : St (X := els)) : Option (Ex × St (X := els)) := iter none (fun s' K' => exec k9 none (callD k9 none F d) F 16 52 c_rat s' (forgetK none sp_rat K')) n s (fun e s => some (e, dropS kx_rat s))
noncomputable def g_rat : List LV → List (Blk (X := els)) → List SV → Ends3
  | [⟨El.span, l0⟩], [], xs => takeI xs fun v1_0 xs => takeI xs fun v1_1 xs => takeI xs fun v1_2 xs => takeI xs fun v1_3 xs => takeI xs fun v1 xs => takeI xs fun v6 xs => takeE xs (some (decide (l0.length ≤ 1048576) && v6 == 0, [(!anyIn l0 v1, .exit 0, (X_rat_1 l0 v1_0 v1_1 v1_2 v1_3))], .ret, (X_rat_0 l0 (atIdx l0 v1))))
  | _, _, _ => none
noncomputable def k10 : Cfg (X := els) := { k9 with lp := (16, 26, { keep := keep_rat, m := 2, mv := sp_rat.mv, ctx := 0, con := some ((P_rat).con g_rat) }) :: k9.lp }

noncomputable def s_newelref13_At := (Sig.cons false (Dat.sl elsOk (.span : El)) (Sig.cons false (Dat.ofCel (Cel.int .i64)) Sig.nil))
noncomputable def r_newelref13_At := (Res.tup2 (Res.agg cSpan) Res.bool)
noncomputable def k11 : Cfg (X := els) := { k10 with E := (16, (s_newelref13_At).con r_newelref13_At (fun x => (findS x.1 x.2.1)) (fun x => smallST x.1 x.2.1)) :: k10.E }

def P_cut : Pat (X := els) := { tm := [.any, (.is (.int .i64)), (.is (.int .i64)), .any, .any, .any, .any, (.is (.slW 1 4)), .any, .any, (.is (.slW 0 4)), (.is (.int .i64)), (.is (.int .i64)), .any, .any, .any, .any, .any, .any, .any, .any, .any, .any, .any, .any, .any, .any, .any, .any, .any, .any, .any, .any, .any, .any, .any, .any], hp := [(.vec (.span : El) false), (.vec (.span : El) true)] }
def keep_cut : List Nat := [1, 2, 7, 10, 11, 12]
def kx_cut : List Nat := [6, 7]
noncomputable def sp_cut : LSpec (X := els) := { keep := keep_cut, m := 1, mv := [(.slot 7, (.span : El))] }
def S_cut (l0 l1 : List (Span)) (v1 v2 v11 v12 : Int) : St (X := els) := { tm := [.any, .is (.int .i64 v1), .is (.int .i64 v2), .any, .any, .any, .any, .is (.sl 1 0 4 (List.length l1) none), .any, .any, .is (.sl 0 0 4 (List.length l0) none), .is (.int .i64 v11), .is (.int .i64 v12), .any, .any, .any, .any, .any, .any, .any, .any, .any, .any, .any, .any, .any, .any, .any, .any, .any, .any, .any, .any, .any, .any, .any, .any], hp := [Blk.vec El.span l0 false, Blk.vec El.span l1 true] }
def X_cut_0 (l0 l1 : List (Span)) : St (X := els) := { tm := [.any, .any, .any, .any, .any, .any, .any, .is (.sl 1 0 4 (List.length l1) none), .any, .any, .any, .any, .any, .any, .any, .any, .any, .any, .any, .any, .any, .any, .any, .any, .any, .any, .any, .any, .any, .any, .any, .any, .any, .any, .any, .any, .any], hp := [Blk.vec El.span l0 false, Blk.vec El.span l1 true] }
noncomputable def c_cut : Code := ((codeB [false, true, false, true, true] (Try.f17.body.getD .skip)).getD .skip |> fun c => match c with | .loop c => c | c => c)
noncomputable def I_cut (F d n : Nat) (s : St (X := els)) : Option (Ex × St (X := els)) := iter none (fun s' K' => exec k11 none (callD k11 none F d) F 17 116 c_cut s' (forgetK none sp_cut K')) n s (fun e s => some (e, dropS kx_cut s))
noncomputable def g_cut : List LV → List (Blk (X := els)) → List SV → Ends3
  | [⟨El.span, l0⟩, ⟨El.span, l1⟩], [], xs => takeI xs fun v1 xs => takeI xs fun v2 xs => takeI xs fun v11 xs => takeI xs fun v12 xs => takeE xs (some (decide (l0.length ≤ 1048576) && (v11 == (l0.length : Int) && (v12 == 0 && l1.length == 0)), [], .exit 0, (X_cut_0 l0 (cutL l0 v1 v2))))
  | _, _, _ => none
noncomputable def k12 : Cfg (X := els) := { k11 with lp := (17, 58, { keep := keep_cut, m := 1, mv := sp_cut.mv, ctx := 0, con := some ((P_cut).con g_cut) }) :: k11.lp }

noncomputable def s_span_Cut := (Sig.cons false (Dat.sl elsOk (.span : El)) (Sig.cons false (Dat.ofCel (Cel.int .i64)) (Sig.cons false (Dat.ofCel (Cel.int .i64)) Sig.nil)))
noncomputable def r_span_Cut := (Out.one (Own.sl (.span : El)))
noncomputable def k13 : Cfg (X := els) := { k12 with H := (17, (s_span_Cut).hcon r_span_Cut (fun x => (cutL x.1 x.2.1 x.2.2.1)) (fun x => smallSTT x.1 x.2.1 x.2.2.1)) :: k12.H }

def P_rcut : Pat (X := els) := { tm := [(.is (.slW 0 4)), (.is (.int .i64)), (.is (.int .i64)), .any, .any, .any, .any, (.is (.slW 1 4)), (.is (.int .i64)), .any, .any, .any, .any, .any, .any, .any, .any, .any, .any, .any, .any, .any, .any, .any, .any, .any, .any, .any, .any, .any, .any, .any, .any, .any, .any, .any, .any, .any, .any, .any, .any, .any], hp := [(.vec (.span : El) false), (.vec (.span : El) true)] }
def keep_rcut : List Nat := [0, 1, 2, 7, 8]
def kx_rcut : List Nat := [6, 7]
noncomputable def sp_rcut : LSpec (X := els) := { keep := keep_rcut, m := 1, mv := [(.slot 7, (.span : El))] }
def S_rcut (l0 l1 : List (Span)) (v1 v2 v8 : Int) : St (X := els) := { tm := [.is (.sl 0 0 4 (List.length l0) none), .is (.int .i64 v1), .is (.int .i64 v2), .any, .any, .any, .any, .is (.sl 1 0 4 (List.length l1) none), .is (.int .i64 v8), .any, .any, .any, .any, .any, .any, .any, .any, .any, .any, .any, .any, .any, .any, .any, .any, .any, .any, .any, .any, .any, .any, .any, .any, .any, .any, .any, .any, .any, .any, .any, .any, .any], hp := [Blk.vec El.span l0 false, Blk.vec El.span l1 true] }
def X_rcut_0 (l0 l1 : List (Span)) : St (X := els) := { tm := [.any, .any, .any, .any, .any, .any, .any, .is (.sl 1 0 4 (List.length l1) none), .any, .any, .any, .any, .any, .any, .any, .any, .any, .any, .any, .any, .any, .any, .any, .any, .any, .any, .any, .any, .any, .any, .any, .any, .any, .any, .any, .any, .any, .any, .any, .any, .any, .any], hp := [Blk.vec El.span l0 false, Blk.vec El.span l1 true] }
noncomputable def c_rcut : Code := ((codeB [false, true, false, true, true] (Try.f18.body.getD .skip)).getD .skip |> fun c => match c with | .loop c => c | c => c)
noncomputable def I_rcut (F d n : Nat) (s : St (X := els)) : Option (Ex × St (X := els)) := iter none (fun s' K' => exec k13 none (callD k13 none F d) F 18 116 c_rcut s' (forgetK none sp_rcut K')) n s (fun e s => some (e, dropS kx_rcut s))
noncomputable def g_rcut : List LV → List (Blk (X := els)) → List SV → Ends3
  | [⟨El.span, l0⟩, ⟨El.span, l1⟩], [], xs => takeI xs fun v1 xs => takeI xs fun v2 xs => takeI xs fun v8 xs => takeE xs (some (decide (l0.length ≤ 1048576) && (v8 == 0 && l1.length == 0), [], .exit 0, (X_rcut_0 l0 (cutL l0 v1 v2))))
  | _, _, _ => none
noncomputable def k14 : Cfg (X := els) := { k13 with lp := (18, 58, { keep := keep_rcut, m := 1, mv := sp_rcut.mv, ctx := 0, con := some ((P_rcut).con g_rcut) }) :: k13.lp }

noncomputable def s_newelref13_Cut := (Sig.cons false (Dat.sl elsOk (.span : El)) (Sig.cons false (Dat.ofCel (Cel.int .i64)) (Sig.cons false (Dat.ofCel (Cel.int .i64)) Sig.nil)))
noncomputable def r_newelref13_Cut := (Out.one (Own.sl (.span : El)))
noncomputable def k15 : Cfg (X := els) := { k14 with H := (18, (s_newelref13_Cut).hcon r_newelref13_Cut (fun x => (cutL x.1 x.2.1 x.2.2.1)) (fun x => smallSTT x.1 x.2.1 x.2.2.1)) :: k14.H }

def P_oddix : Pat (X := els) := { tm := [(.is (.slW 0 4)), (.is (.lit (AV.fn 20 [] []))), .any, .any, .any, .any, .any, (.is (.int .i64)), (.is (.int .i64)), .any, .any, .any, .any, .any, .any, .any, .any, .any, .any], hp := [(.vec (.span : El) false), (.raw [(.slW 0 4)])] }
def keep_oddix : List Nat := [0, 1, 7, 8]
def kx_oddix : List Nat := [4]
noncomputable def sp_oddix : LSpec (X := els) := { keep := keep_oddix, m := 2, mv := [] }
def S_oddix (l0 : List (Span)) (v7 v8 : Int) : St (X := els) := { tm := [.is (.sl 0 0 4 (List.length l0) none), .is (AV.fn 20 [] []), .any, .any, .any, .any, .any, .is (.int .i64 v7), .is (.int .i64 v8), .any, .any, .any, .any, .any, .any, .any, .any, .any, .any], hp := [Blk.vec El.span l0 false, .raw [.sl 0 0 4 (List.length l0) none]] }
def X_oddix_0 (l0 : List (Span)) (v8 : Int) : St (X := els) := { tm := [.any, .any, .any, .any, .is (.int .i64 v8), .any, .any, .any, .any, .any, .any, .any, .any, .any, .any, .any, .any, .any, .any], hp := [Blk.vec El.span l0 false, .raw [.sl 0 0 4 (List.length l0) none], .raw [.int .i64 (Span.from_ (List.getD l0 (0 + Int.toNat v8) { from_ := 0, to_ := 0, mode := 0, prio := 0 })), .int .i64 (Span.to_ (List.getD l0 (0 + Int.toNat v8) { from_ := 0, to_ := 0, mode := 0, prio := 0 })), .int .i64 (Span.mode (List.getD l0 (0 + Int.toNat v8) { from_ := 0, to_ := 0, mode := 0, prio := 0 })), .int .i64 (Span.prio (List.getD l0 (0 + Int.toNat v8) { from_ := 0, to_ := 0, mode := 0, prio := 0 }))]] }
def X_oddix_1 (l0 : List (Span)) : St (X := els) := { tm := [.any, .any, .any, .any, .any, .any, .any, .any, .any, .any, .any, .any, .any, .any, .any, .any, .any, .any, .any], hp := [Blk.vec El.span l0 false, .raw [.sl 0 0 4 (List.length l0) none]] }
noncomputable def c_oddix : Code := ((codeB [false, true, false, true] (Try.f27.body.getD .skip)).getD .skip |> fun c => match c with | .loop c => c | c => c)
noncomputable def I_oddix (F d n : Nat) (s : St (X := els)) : Option (Ex × St (X := els)) := iter none (fun s' K' => exec k15 none (callD k15 none F d) F 27 52 c_oddix s' (forgetK none sp_oddix K')) n s (fun e s => some (e, dropS kx_oddix s))
noncomputable def g_oddix : List LV → List (Blk (X := els)) → List SV → Ends3
  | [⟨El.span, l0⟩], [], xs => takeI xs fun v7 xs => takeI xs fun v8 xs => takeE xs (some (decide (l0.length ≤ 1048576) && (v7 == (l0.length : Int) && v8 == 0), [(l0.all fun s => !oddS s, .exit 0, (X_oddix_1 l0))], .ret, (X_oddix_0 l0 (oddIdx l0))))
  | _, _, _ => none
noncomputable def k16 : Cfg (X := els) := { k15 with lp := (27, 26, { keep := keep_oddix, m := 2, mv := sp_oddix.mv, ctx := 1002, con := some ((P_oddix).con g_oddix) }) :: k15.lp }

def P_ends : Pat (X := els) := { tm := [.any, .any, .any, (.is (.lit (AV.ptr 3 0))), .any, .any, (.is (.slW 0 4)), (.is (.int .i64)), (.is (.int .i64)), .any, .any, .any, .any, .any, .any, .any, .any, .any, .any, .any, .any, .any, .any, .any, .any], hp := [(.vec (.span : El) false), (.raw [(.slW 0 4)]), (.raw [(.lit (AV.val (Value.slice none 0 0)))]), (.raw [(.slW 4 1)]), (.vec (.int : El) true)] }
def keep_ends : List Nat := [3, 6, 7, 8]
def kx_ends : List Nat := [2, 3]
noncomputable def sp_ends : LSpec (X := els) := { keep := keep_ends, m := 4, mv := [(.cell 3 0, (.int : El))] }
def S_ends (l0 : List (Span)) (l4 : List (Int)) (v7 v8 : Int) : St (X := els) := { tm := [.any, .any, .any, .is (.ptr 3 0), .any, .any, .is (.sl 0 0 4 (List.length l0) none), .is (.int .i64 v7), .is (.int .i64 v8), .any, .any, .any, .any, .any, .any, .any, .any, .any, .any, .any, .any, .any, .any, .any, .any], hp := [Blk.vec El.span l0 false, .raw [.sl 0 0 4 (List.length l0) none], .raw [.val (.slice none 0 0)], .raw [.sl 4 0 1 (List.length l4) none], Blk.vec El.int l4 true] }
def X_ends_0 (l0 : List (Span)) (l4 : List (Int)) : St (X := els) := { tm := [.any, .any, .any, .is (.ptr 3 0), .any, .any, .any, .any, .any, .any, .any, .any, .any, .any, .any, .any, .any, .any, .any, .any, .any, .any, .any, .any, .any], hp := [Blk.vec El.span l0 false, .raw [.sl 0 0 4 (List.length l0) none], .raw [.val (.slice none 0 0)], .raw [.sl 4 0 1 (List.length l4) none], Blk.vec El.int l4 true] }
noncomputable def c_ends : Code := ((codeB [false, true, false, true, true] (Try.f22.body.getD .skip)).getD .skip |> fun c => match c with | .loop c => c | c => c)
noncomputable def I_ends (F d n : Nat) (s : St (X := els)) : Option (Ex × St (X := els)) := iter none (fun s' K' => exec k16 none (callD k16 none F d) F 22 116 c_ends s' (forgetK none sp_ends K')) n s (fun e s => some (e, dropS kx_ends s))
noncomputable def g_ends : List LV → List (Blk (X := els)) → List SV → Ends3
  | [⟨El.span, l0⟩, ⟨El.int, l4⟩], [], xs => takeI xs fun v7 xs => takeI xs fun v8 xs => takeE xs (some (decide (l0.length ≤ 1000) && (v7 == (l0.length : Int) && (v8 == 0 && l4.length == 0)), [], .exit 0, (X_ends_0 l0 (endsS l0))))
  | _, _, _ => none
noncomputable def k17 : Cfg (X := els) := { k16 with lp := (22, 58, { keep := keep_ends, m := 4, mv := sp_ends.mv, ctx := 0, con := some ((P_ends).con g_ends) }) :: k16.lp }

def P_pcs : Pat (X := els) := { tm := [(.is (.lit (AV.yld 6))), (.is (.lit (AV.ptr 3 0))), .any, (.is (.int .i64)), .any, .any, .any, .any, .any, .any, .any, .any, .any, .any, .any, .any, .any, .any, .any, .any, .any, .any], hp := [(.vec (.span : El) false), (.raw [(.slW 0 4)]), (.raw [(.slW 7 4)]), (.raw [(.slW 4 1)]), (.vec (.int : El) true), .dfr, (.rcd 0 [.any, (.is (.lit (AV.ptr 1 0))), .any, .any, .any, (.is (.lit (AV.ptr 2 0))), .any, .any, .any, .any, .any, .any, .any, .any, .any, .any, .any, .any, .any, (.is (.lit (AV.fn 32 [] [AV.ptr 3 0]))), .any, .any, .any, .any, .any, .any, .any, .any, .any, .any, .any, .any, .any, .any, .any, .any, .any, .any, .any, .any, .any, .any, .any, .any, .any, .any, .any, .any, .any, .any, .any, .any, .any, .any, .any, .any, .any, .any, .any, .any, .any, .any, .any, .any, .any, .any, .any, .any, .any, .any, .any]), (.vec (.span : El) true)] }
def keep_pcs : List Nat := [0, 1, 3]
def kx_pcs : List Nat := []
noncomputable def sp_pcs : LSpec (X := els) := { keep := keep_pcs, m := 7, mv := [(.cell 2 0, (.span : El))] }
def S_pcs (l0 : List (Span)) (l4 : List (Int)) (l7 : List (Span)) (v3 : Int) : St (X := els) := { tm := [.is (AV.yld 6), .is (.ptr 3 0), .any, .is (.int .i64 v3), .any, .any, .any, .any, .any, .any, .any, .any, .any, .any, .any, .any, .any, .any, .any, .any, .any, .any], hp := [Blk.vec El.span l0 false, .raw [.sl 0 0 4 (List.length l0) none], .raw [.sl 7 0 4 (List.length l7) none], .raw [.sl 4 0 1 (List.length l4) none], Blk.vec El.int l4 true, Blk.dfr, Blk.rcd RS.ready 0 [.any, .is (.ptr 1 0), .any, .any, .any, .is (.ptr 2 0), .any, .any, .any, .any, .any, .any, .any, .any, .any, .any, .any, .any, .any, .is (AV.fn 32 [] [.ptr 3 0]), .any, .any, .any, .any, .any, .any, .any, .any, .any, .any, .any, .any, .any, .any, .any, .any, .any, .any, .any, .any, .any, .any, .any, .any, .any, .any, .any, .any, .any, .any, .any, .any, .any, .any, .any, .any, .any, .any, .any, .any, .any, .any, .any, .any, .any, .any, .any, .any, .any, .any, .any], Blk.vec El.span l7 true] }
def X_pcs_0 (l0 : List (Span)) (l4 : List (Int)) (l7 : List (Span)) : St (X := els) := { tm := [.any, .any, .any, .any, .any, .any, .any, .any, .any, .any, .any, .any, .any, .any, .any, .any, .any, .any, .any, .any, .any, .any], hp := [Blk.vec El.span l0 false, .raw [.sl 0 0 4 (List.length l0) none], .raw [.sl 7 0 4 (List.length l7) none], .raw [.sl 4 0 1 (List.length l4) none], Blk.vec El.int l4 true, Blk.dfr, Blk.rcd RS.ready 0 [.any, .is (.ptr 1 0), .any, .any, .any, .is (.ptr 2 0), .any, .any, .any, .any, .any, .any, .any, .any, .any, .any, .any, .any, .any, .is (AV.fn 32 [] [.ptr 3 0]), .any, .any, .any, .any, .any, .any, .any, .any, .any, .any, .any, .any, .any, .any, .any, .any, .any, .any, .any, .any, .any, .any, .any, .any, .any, .any, .any, .any, .any, .any, .any, .any, .any, .any, .any, .any, .any, .any, .any, .any, .any, .any, .any, .any, .any, .any, .any, .any, .any, .any, .any], Blk.vec El.span l7 true] }
noncomputable def c_pcs : Code := ((codeB [false, true] (Try.f32.body.getD .skip)).getD .skip |> fun c => match c with | .loop c => c | c => c)
noncomputable def I_pcs (F d n : Nat) (s : St (X := els)) : Option (Ex × St (X := els)) := iter none (fun s' K' => exec k17 none (callD k17 none F d) F 32 12 c_pcs s' (forgetK none sp_pcs K')) n s (fun e s => some (e, dropS kx_pcs s))
noncomputable def g_pcs : List LV → List (Blk (X := els)) → List SV → Ends3
  | [⟨El.span, l0⟩, ⟨El.int, l4⟩, ⟨El.span, l7⟩], [], xs => takeI xs fun v3 xs => takeE xs (some (decide (l0.length ≤ 1048576) && (decide (l4.length ≤ 1000) && (v3 == 1 && l7.length == 0)), [], .exit 0, (X_pcs_0 l0 l4 (resGo l0 l4 []))))
  | _, _, _ => none
noncomputable def k18 : Cfg (X := els) := { k17 with lp := (32, 6, { keep := keep_pcs, m := 7, mv := sp_pcs.mv, ctx := 1, con := some ((P_pcs).con g_pcs) }) :: k17.lp }

noncomputable def s_span_Resolve := (Sig.cons false (Dat.sl elsOk (.span : El)) Sig.nil)
noncomputable def r_span_Resolve := (Out.tup (Outs.cons (Out.one (Own.sl (.span : El))) (Outs.last (Out.one (Own.ofCel (Cel.int .i64))))))
noncomputable def k19 : Cfg (X := els) := { k18 with H := (10, (s_span_Resolve).hcon r_span_Resolve (fun x => (span_Resolve x.1)) (fun x => smallS x.1)) :: k18.H }

def P_may : Pat (X := els) := { tm := [(.is (.slW 0 4)), .any, .any, (.is (.int .i64)), .any, .any, .any, .any, .any, .any, .any, .any, .any, .any, .any, .any, .any, .any, .any, .any, .any, .any, .any, .any], hp := [(.vec (.span : El) false)] }
def keep_may : List Nat := [0, 3]
def kx_may : List Nat := [0, 2]
noncomputable def sp_may : LSpec (X := els) := { keep := keep_may, m := 1, mv := [] }
def S_may (l0 : List (Span)) (v3 : Int) : St (X := els) := { tm := [.is (.sl 0 0 4 (List.length l0) none), .any, .any, .is (.int .i64 v3), .any, .any, .any, .any, .any, .any, .any, .any, .any, .any, .any, .any, .any, .any, .any, .any, .any, .any, .any, .any], hp := [Blk.vec El.span l0 false] }
def X_may_0 (l0 : List (Span)) : St (X := els) := { tm := [.is (.sl 0 0 4 (List.length l0) none), .any, .is (.bool false), .any, .any, .any, .any, .any, .any, .any, .any, .any, .any, .any, .any, .any, .any, .any, .any, .any, .any, .any, .any, .any], hp := [Blk.vec El.span l0 false] }
def X_may_1 (l0 : List (Span)) : St (X := els) := { tm := [.is (.sl 0 0 4 (List.length l0) none), .any, .any, .any, .any, .any, .any, .any, .any, .any, .any, .any, .any, .any, .any, .any, .any, .any, .any, .any, .any, .any, .any, .any], hp := [Blk.vec El.span l0 false] }
noncomputable def c_may : Code := ((codeB [false, true, false, true] (Try.f12.body.getD .skip)).getD .skip |> fun c => match c with | .loop c => c | c => c)
noncomputable def I_may (F d n : Nat) (s : St (X := els)) : Option (Ex × St (X := els)) := iter none (fun s' K' => exec k19 none (callD k19 none F d) F 12 52 c_may s' (forgetK none sp_may K')) n s (fun e s => some (e, dropS kx_may s))
noncomputable def g_may : List LV → List (Blk (X := els)) → List SV → Ends3
  | [⟨El.span, l0⟩], [], xs => takeI xs fun v3 xs => takeE xs (some (decide (l0.length ≤ 1048576) && v3 == 0, [(l0.all fun s => !oddS s, .exit 0, (X_may_1 l0))], .ret, (X_may_0 l0)))
  | _, _, _ => none
noncomputable def k20 : Cfg (X := els) := { k19 with lp := (12, 26, { keep := keep_may, m := 1, mv := sp_may.mv, ctx := 0, con := some ((P_may).con g_may) }) :: k19.lp }

noncomputable def s_newelref13_May := (Sig.cons false (Dat.sl elsOk (.span : El)) Sig.nil)
noncomputable def r_newelref13_May := Res.bool
noncomputable def k21 : Cfg (X := els) := { k20 with E := (12, (s_newelref13_May).con r_newelref13_May (fun x => (mayS x.1)) (fun x => smallS x.1)) :: k20.E }

noncomputable def s_newelref13_over := (Sig.cons true (Dat.ofCel cSpan) (Sig.cons true (Dat.ofCel cSpan) Sig.nil))
noncomputable def r_newelref13_over := Res.bool
noncomputable def k22 : Cfg (X := els) := { k21 with E := (34, (s_newelref13_over).con r_newelref13_over (fun x => (overS x.1 x.2.1)) (fun _ => true)) :: k21.E }

def P_rw : Pat (X := els) := { tm := [(.is (.slW 0 4)), (.is (.int .i64)), .any, .any, .any, (.is (.int .i64)), (.is (.int .i64)), .any, .any, .any, .any, .any, .any, .any, .any, .any, .any, .any, .any, .any, .any, .any, .any, .any, .any, .any, .any, .any, .any, .any, .any, .any, .any, .any, .any, .any, .any, .any, .any, .any, .any, .any, .any, .any, .any], hp := [(.vec (.span : El) false)] }
def keep_rw : List Nat := [0, 1, 5, 6]
def kx_rw : List Nat := [4, 5]
noncomputable def sp_rw : LSpec (X := els) := { keep := keep_rw, m := 1, mv := [] }
def S_rw (l0 : List (Span)) (v1 v5 v6 : Int) : St (X := els) := { tm := [.is (.sl 0 0 4 (List.length l0) none), .is (.int .i64 v1), .any, .any, .any, .is (.int .i64 v5), .is (.int .i64 v6), .any, .any, .any, .any, .any, .any, .any, .any, .any, .any, .any, .any, .any, .any, .any, .any, .any, .any, .any, .any, .any, .any, .any, .any, .any, .any, .any, .any, .any, .any, .any, .any, .any, .any, .any, .any, .any, .any], hp := [Blk.vec El.span l0 false] }
def X_rw_0 (l0 : List (Span)) (v5 : Int) : St (X := els) := { tm := [.any, .any, .any, .any, .any, .is (.int .i64 v5), .any, .any, .any, .any, .any, .any, .any, .any, .any, .any, .any, .any, .any, .any, .any, .any, .any, .any, .any, .any, .any, .any, .any, .any, .any, .any, .any, .any, .any, .any, .any, .any, .any, .any, .any, .any, .any, .any, .any], hp := [Blk.vec El.span l0 false] }
noncomputable def c_rw : Code := ((codeB [false, true, false, true, true] (Try.f26.body.getD .skip)).getD .skip |> fun c => match c with | .loop c => c | c => c)
noncomputable def I_rw (F d n : Nat) (s : St (X := els)) : Option (Ex × St (X := els)) := iter none (fun s' K' => exec k22 none (callD k22 none F d) F 26 116 c_rw s' (forgetK none sp_rw K')) n s (fun e s => some (e, dropS kx_rw s))
noncomputable def g_rw : List LV → List (Blk (X := els)) → List SV → Ends3
  | [⟨El.span, l0⟩], [], xs => takeI xs fun v1 xs => takeI xs fun v5 xs => takeI xs fun v6 xs => takeE xs (some (decide (l0.length ≤ 1048576) && (v5 == -1 && v6 == 0), [], .exit 0, (X_rw_0 l0 (weightI l0 v1))))
  | _, _, _ => none
noncomputable def k23 : Cfg (X := els) := { k22 with lp := (26, 58, { keep := keep_rw, m := 1, mv := sp_rw.mv, ctx := 0, con := some ((P_rw).con g_rw) }) :: k22.lp }

noncomputable def s_newelref13_Weightiest := (Sig.cons false (Dat.sl elsOk (.span : El)) (Sig.cons false (Dat.ofCel (Cel.int .i64)) Sig.nil))
noncomputable def r_newelref13_Weightiest := (Res.int .i64)
noncomputable def k24 : Cfg (X := els) := { k23 with E := (26, (s_newelref13_Weightiest).con r_newelref13_Weightiest (fun x => (weightI x.1 x.2.1)) (fun x => smallST x.1 x.2.1)) :: k23.E }

def P_nxt : Pat (X := els) := { tm := [(.is (.slW 0 4)), (.is (.int .i64)), .any, .any, .any, .any, (.is (.int .i64)), (.is .bool), (.is (.int .i64)), .any, .any, .any, .any, .any, .any, .any, .any, .any, .any, .any, .any, .any, .any, .any, .any, .any, .any, .any, .any, .any, .any, .any, .any, .any, .any, .any, .any, .any, .any, .any, .any, .any, .any, .any, .any, .any, .any, .any, .any, .any, .any, .any, .any, .any, .any, .any, .any, .any, .any, .any, .any, .any, .any, .any, .any, .any, .any], hp := [(.vec (.span : El) false)] }
def keep_nxt : List Nat := [0, 1, 6, 7, 8]
def kx_nxt : List Nat := [4, 5, 6, 7]
noncomputable def sp_nxt : LSpec (X := els) := { keep := keep_nxt, m := 1, mv := [] }
def S_nxt (l0 : List (Span)) (v1 v6 : Int) (v7 : Bool) (v8 : Int) : St (X := els) := { tm := [.is (.sl 0 0 4 (List.length l0) none), .is (.int .i64 v1), .any, .any, .any, .any, .is (.int .i64 v6), .is (.bool v7), .is (.int .i64 v8), .any, .any, .any, .any, .any, .any, .any, .any, .any, .any, .any, .any, .any, .any, .any, .any, .any, .any, .any, .any, .any, .any, .any, .any, .any, .any, .any, .any, .any, .any, .any, .any, .any, .any, .any, .any, .any, .any, .any, .any, .any, .any, .any, .any, .any, .any, .any, .any, .any, .any, .any, .any, .any, .any, .any, .any, .any, .any], hp := [Blk.vec El.span l0 false] }
def X_nxt_0 (l0 : List (Span)) (v6 : Int) (v7 : Bool) : St (X := els) := { tm := [.any, .any, .any, .any, .any, .any, .is (.int .i64 v6), .is (.bool v7), .any, .any, .any, .any, .any, .any, .any, .any, .any, .any, .any, .any, .any, .any, .any, .any, .any, .any, .any, .any, .any, .any, .any, .any, .any, .any, .any, .any, .any, .any, .any, .any, .any, .any, .any, .any, .any, .any, .any, .any, .any, .any, .any, .any, .any, .any, .any, .any, .any, .any, .any, .any, .any, .any, .any, .any, .any, .any, .any], hp := [Blk.vec El.span l0 false] }
noncomputable def c_nxt : Code := ((codeB [false, true, false, true, true, true] (Try.f25.body.getD .skip)).getD .skip |> fun c => match c with | .loop c => c | c => c)
noncomputable def I_nxt (F d n : Nat) (s : St (X := els)) : Option (Ex × St (X := els)) := iter none (fun s' K' => exec k24 none (callD k24 none F d) F 25 244 c_nxt s' (forgetK none sp_nxt K')) n s (fun e s => some (e, dropS kx_nxt s))
noncomputable def g_nxt : List LV → List (Blk (X := els)) → List SV → Ends3
  | [⟨El.span, l0⟩], [], xs => takeI xs fun v1 xs => takeI xs fun v6 xs => takeB xs fun v7 xs => takeI xs fun v8 xs => takeE xs (some (decide (l0.length ≤ 1048576) && (v6 == 0 && (v7 == false && v8 == 0)), [], .exit 0, (X_nxt_0 l0 (nextS l0 v1).1 (nextS l0 v1).2)))
  | _, _, _ => none
noncomputable def k25 : Cfg (X := els) := { k24 with lp := (25, 122, { keep := keep_nxt, m := 1, mv := sp_nxt.mv, ctx := 0, con := some ((P_nxt).con g_nxt) }) :: k24.lp }

noncomputable def s_newelref13_next := (Sig.cons false (Dat.sl elsOk (.span : El)) (Sig.cons false (Dat.ofCel (Cel.int .i64)) Sig.nil))
noncomputable def r_newelref13_next := (Res.tup2 (Res.int .i64) Res.bool)
noncomputable def k26 : Cfg (X := els) := { k25 with E := (25, (s_newelref13_next).con r_newelref13_next (fun x => (nextS x.1 x.2.1)) (fun x => smallST x.1 x.2.1)) :: k25.E }

def P_lea : Pat (X := els) := { tm := [(.is (.slW 0 4)), .any, .any, (.is (.int .i64)), (.is (.int .i64)), .any, .any, .any, .any, .any, .any, .any, .any, .any, .any, .any, .any, .any, .any, .any, .any, .any, .any, .any, .any, .any, .any, .any], hp := [(.vec (.span : El) false)] }
def keep_lea : List Nat := [0, 3, 4]
def kx_lea : List Nat := [2, 3]
noncomputable def sp_lea : LSpec (X := els) := { keep := keep_lea, m := 1, mv := [] }
def S_lea (l0 : List (Span)) (v3 v4 : Int) : St (X := els) := { tm := [.is (.sl 0 0 4 (List.length l0) none), .any, .any, .is (.int .i64 v3), .is (.int .i64 v4), .any, .any, .any, .any, .any, .any, .any, .any, .any, .any, .any, .any, .any, .any, .any, .any, .any, .any, .any, .any, .any, .any, .any], hp := [Blk.vec El.span l0 false] }
def X_lea_0 (l0 : List (Span)) (v3 : Int) : St (X := els) := { tm := [.any, .any, .any, .is (.int .i64 v3), .any, .any, .any, .any, .any, .any, .any, .any, .any, .any, .any, .any, .any, .any, .any, .any, .any, .any, .any, .any, .any, .any, .any, .any], hp := [Blk.vec El.span l0 false] }
noncomputable def c_lea : Code := ((codeB [false, true, false, true, true] (Try.f24.body.getD .skip)).getD .skip |> fun c => match c with | .loop c => c | c => c)
noncomputable def I_lea (F d n : Nat) (s : St (X := els)) : Option (Ex × St (X := els)) := iter none (fun s' K' => exec k26 none (callD k26 none F d) F 24 116 c_lea s' (forgetK none sp_lea K')) n s (fun e s => some (e, dropS kx_lea s))
noncomputable def g_lea : List LV → List (Blk (X := els)) → List SV → Ends3
  | [⟨El.span, l0⟩], [], xs => takeI xs fun v3 xs => takeI xs fun v4 xs => takeE xs (some (decide (l0.length ≤ 1048576) && v4 == 0, [], .exit 0, (X_lea_0 l0 (lGo l0 v3))))
  | _, _, _ => none
noncomputable def k27 : Cfg (X := els) := { k26 with lp := (24, 58, { keep := keep_lea, m := 1, mv := sp_lea.mv, ctx := 0, con := some ((P_lea).con g_lea) }) :: k26.lp }

noncomputable def s_newelref13_least := (Sig.cons false (Dat.sl elsOk (.span : El)) Sig.nil)
noncomputable def r_newelref13_least := (Res.int .i64)
noncomputable def k28 : Cfg (X := els) := { k27 with E := (24, (s_newelref13_least).con r_newelref13_least (fun x => (leastS x.1)) (fun x => someS x.1)) :: k27.E }

def P_rres : Pat (X := els) := { tm := [(.is (.slW 0 4)), .any, .any, (.is (.slW 1 4)), (.is (.int .i64)), (.is (.int .i64)), (.is .bool), .any, .any, .any, .any, .any, .any, .any, .any, .any, .any, .any, .any, .any, .any, .any, .any, .any, .any, .any, .any, .any, .any, .any, .any, .any, .any, .any, .any, .any, .any, .any, .any, .any, .any, .any, .any, .any, .any, .any, .any, .any, .any, .any, .any, .any, .any, .any, .any, .any, .any, .any, .any, .any, .any, .any, .any, .any, .any, .any, .any, .any, .any, .any, .any, .any, .any, .any, .any, .any, .any, .any, .any, .any, .any, .any], hp := [(.vec (.span : El) false), (.vec (.span : El) true)] }
def keep_rres : List Nat := [0, 3, 4, 5, 6]
def kx_rres : List Nat := [2, 3]
noncomputable def sp_rres : LSpec (X := els) := { keep := keep_rres, m := 1, mv := [(.slot 3, (.span : El))] }
def S_rres (l0 l1 : List (Span)) (v4 v5 : Int) (v6 : Bool) : St (X := els) := { tm := [.is (.sl 0 0 4 (List.length l0) none), .any, .any, .is (.sl 1 0 4 (List.length l1) none), .is (.int .i64 v4), .is (.int .i64 v5), .is (.bool v6), .any, .any, .any, .any, .any, .any, .any, .any, .any, .any, .any, .any, .any, .any, .any, .any, .any, .any, .any, .any, .any, .any, .any, .any, .any, .any, .any, .any, .any, .any, .any, .any, .any, .any, .any, .any, .any, .any, .any, .any, .any, .any, .any, .any, .any, .any, .any, .any, .any, .any, .any, .any, .any, .any, .any, .any, .any, .any, .any, .any, .any, .any, .any, .any, .any, .any, .any, .any, .any, .any, .any, .any, .any, .any, .any], hp := [Blk.vec El.span l0 false, Blk.vec El.span l1 true] }
def X_rres_0 (l0 l1 : List (Span)) : St (X := els) := { tm := [.any, .any, .any, .is (.sl 1 0 4 (List.length l1) none), .any, .any, .any, .any, .any, .any, .any, .any, .any, .any, .any, .any, .any, .any, .any, .any, .any, .any, .any, .any, .any, .any, .any, .any, .any, .any, .any, .any, .any, .any, .any, .any, .any, .any, .any, .any, .any, .any, .any, .any, .any, .any, .any, .any, .any, .any, .any, .any, .any, .any, .any, .any, .any, .any, .any, .any, .any, .any, .any, .any, .any, .any, .any, .any, .any, .any, .any, .any, .any, .any, .any, .any, .any, .any, .any, .any, .any, .any], hp := [Blk.vec El.span l0 false, Blk.vec El.span l1 true] }
noncomputable def c_rres : Code := ((codeB [false, false, true, true, true, true, true] (Try.f14.body.getD .skip)).getD .skip |> fun c => match c with | .loop c => c | c => c)
noncomputable def I_rres (F d n : Nat) (s : St (X := els)) : Option (Ex × St (X := els)) := iter none (fun s' K' => exec k28 none (callD k28 none F d) F 14 504 c_rres s' (forgetK none sp_rres K')) n s (fun e s => some (e, dropS kx_rres s))
noncomputable def g_rres : List LV → List (Blk (X := els)) → List SV → Ends3
  | [⟨El.span, l0⟩, ⟨El.span, l1⟩], [], xs => takeI xs fun v4 xs => takeI xs fun v5 xs => takeB xs fun v6 xs => takeE xs (some (decide (l0.length ≤ 500) && (l1.length == 0 && (v5 == (nextS l0 v4).1 && v6 == (nextS l0 v4).2)), [], .exit 0, (X_rres_0 l0 (refGo l0 (endsS l0) v4 v5 v6 []))))
  | _, _, _ => none
noncomputable def k29 : Cfg (X := els) := { k28 with lp := (14, 252, { keep := keep_rres, m := 1, mv := sp_rres.mv, ctx := 0, con := some ((P_rres).con g_rres) }) :: k28.lp }

noncomputable def s_newelref13_Resolve := (Sig.cons false (Dat.sl elsOk (.span : El)) Sig.nil)
noncomputable def r_newelref13_Resolve := (Out.one (Own.sl (.span : El)))
noncomputable def k30 : Cfg (X := els) := { k29 with H := (14, (s_newelref13_Resolve).hcon r_newelref13_Resolve (fun x => (refS x.1)) (fun x => smallR x.1)) :: k29.H }

noncomputable def s_newellaw13_awake := Sig.nil
noncomputable def r_newellaw13_awake := Res.bool
noncomputable def k31 : Cfg (X := els) := { k30 with E := (9, (s_newellaw13_awake).con r_newellaw13_awake (fun _ => true) (fun _ => true)) :: k30.E }

noncomputable def s_newellaw13_SpanResolves := (Sig.cons false (Dat.sl elsOk (.span : El)) Sig.nil)
noncomputable def r_newellaw13_SpanResolves := Res.bool
noncomputable abbrev k32 : Cfg (X := els) := k31

end Go.Proofs.Ytdadgkgkdgnihaa.Px.PxV
