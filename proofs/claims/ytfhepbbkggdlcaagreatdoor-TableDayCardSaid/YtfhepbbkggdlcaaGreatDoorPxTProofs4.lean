/- Days of rest, sunsets and windows: the functions are what is said of them. -/
import Derived.Test.YtfhepbbkggdlcaaGreatDoorPxTProofs
import Derived.Test.YtfhepbbkggdlcaaGreatDoorPxSpecFeast
set_option linter.unusedVariables false
set_option linter.unusedSimpArgs false
namespace Go.Proofs.YtfhepbbkggdlcaaGreatDoor.Px.PxT
open Go Go.Proofs
set_option maxRecDepth 10000
theorem inH_iff (n : Int) : inH n = true ↔ 249 ≤ n ∧ n < 2278651 := by
 simp only [inH, Bool.and_eq_true, decide_eq_true_eq]
theorem run_feast_Rest (a0 : Int) (a1 : Bool) : ∃ F d, run k46 F d 192 Tryz.f192 s_feast_Rest (a0, a1, ()) = some (r_feast_Rest.enc (restG a0 a1)) := by
 refine ⟨200, 6, ?_⟩
 rw [tree_feast_Rest]
 unfold restG hofG feastOf
 cases hi : inH a0 with
 | false =>
  simp only [cond_false]
  rw [show (!((41 : Int) == 0)) = true from rfl, Bool.or_true]
  rfl
 | true =>
  have hb := (inH_iff a0).1 hi
  rw [show midW a0 = true from (midW_iff _).2 (by omega)]
  simp only [cond_true, Bool.true_and, Bool.true_or]
  have e : (bif ((0 : Int) == 0) then bif rWeekday a0 == 6 then true else kindF (hdateOf a0).month (hdateOf a0).day a1 != 0 else false) = (a0 % 7 == 6 || kindF (hdateOf a0).month (hdateOf a0).day a1 != 0) := by
   show (bif rWeekday a0 == 6 then true else kindF (hdateOf a0).month (hdateOf a0).day a1 != 0) = _
   unfold rWeekday
   cases a0 % 7 == 6 <;> rfl
  rw [e]
  rfl
theorem go_runs (O0 : Int) (P0 : Bool) (v0 v5 : Int) (F d : Nat) (hb : v0 = 1 ∨ v0 = -1) : ∀ (k : Nat) (x : Int) (n : Nat), inH x = true → runReach v0 P0 k x = true → k ≤ n →
  I_runs F (d + 3) n (S_runs O0 P0 v0 x) = some (.exit 0, (X_runs_0 O0 P0 (runEnd v0 P0 k x))) := by
 intro k
 induction k with
 | zero => intro x n hi hr hn; cases hr
 | succ k ih =>
  intro x n hi hr hn
  obtain ⟨n, rfl⟩ : ∃ k, n = k + 1 := ⟨n - 1, by omega⟩
  have hx := (inH_iff x).1 hi
  rw [step_runs, wrI (n := x + v0) (by omega)]
  simp only [runReach, Bool.or_eq_true, Bool.not_eq_true'] at hr
  unfold runEnd
  cases hc : restG (x + v0) P0 with
  | false => rfl
  | true =>
   rw [hc] at hr
   rw [cond_true, cond_true]
   exact ih (x + v0) n ((rest_iff _ _).1 hc).1 (hr.resolve_left (by simp)) (by omega)
theorem main_runs (O0 : Int) (P0 : Bool) (v0 v5 : Int) (hg : (runOk v0 P0 v5) = true) : ∃ N d, I_runs N d N (S_runs O0 P0 v0 v5) = some (altK Prod.mk [] (.exit 0) (X_runs_0 O0 P0 (runEnd v0 P0 10 v5))) := by
 simp only [runOk, Bool.and_eq_true, Bool.or_eq_true, beq_iff_eq] at hg
 exact ⟨20, 3, go_runs O0 P0 v0 v5 20 0 hg.1 10 v5 20 hg.2.1 hg.2.2 (by omega)⟩
theorem run_feast_Run (a0 : Int) (a1 : Bool) : ∃ F d, run k48 F d 191 Tryz.f191 s_feast_Run (a0, a1, ()) = some (r_feast_Run.enc (runG a0 a1)) := by
 refine ⟨200, 6, ?_⟩
 rw [tree_feast_Run]
 unfold runG
 cases hr : restG a0 a1 with
 | false => rfl
 | true =>
  have ho := run_ok hr
  rw [ho.1, ho.2]
  rfl
theorem run_feast_Kind (a0 : Int) (a1 : Bool) : ∃ F d, run k49 F d 174 Tryz.f174 s_feast_Kind (a0, a1, ()) = some (r_feast_Kind.enc (kindDay a0 a1)) := by
 refine ⟨200, 6, ?_⟩
 rw [tree_feast_Kind]
 unfold kindDay hofG feastOf
 cases inH a0 <;> rfl
theorem run_sunset_At (a0 : Sun) (a1 : Int) : ∃ F d, run k50 F d 195 Tryz.f195 s_sunset_At (a0, a1, ()) = some (r_sunset_At.enc (sunAt a0 a1)) := by
 refine ⟨200, 6, ?_⟩
 rw [tree_sunset_At]
 unfold sunAt
 cases hs : sunset_Check a0 != 0 with
 | true => rfl
 | false =>
  have hs0 : sunset_Check a0 = 0 := by simpa using hs
  cases hd : dayOk a1 with
  | false =>
   have he : Prod.snd (ofG a1) = 21 := by
    unfold ofG
    rw [show (decide (a1 < 1) || decide (a1 > 3652059)) = true by
     have h : ¬ (1 ≤ a1 ∧ a1 ≤ 3652059) := fun h => by rw [dayOk_iff.2 h] at hd; cases hd
     rw [Bool.or_eq_true, decide_eq_true_eq, decide_eq_true_eq]
     omega]
    rfl
   rw [he]
   rfl
  | true =>
   obtain ⟨⟨m1, m2⟩, ⟨d1, d2⟩, he, hL⟩ := of_date hd
   have hr := sun_range hs0 hd
   have e1 : IntKind.wrap IntKind.i64 ((ofG a1).1.month - 1) = (ofG a1).1.month - 1 := wrI (by omega)
   have e2 : Int.tmod ((ofG a1).1.month - 1) 12 = (ofG a1).1.month - 1 := by rw [Int.tmod_eq_emod_of_nonneg (by omega)]; omega
   have e3 : Int.tmod (ofG a1).1.month 12 = (ofG a1).1.month % 12 := Int.tmod_eq_emod_of_nonneg (by omega)
   have e4 : IntKind.wrap IntKind.i64 ((ofG a1).1.day - 1) = (ofG a1).1.day - 1 := wrI (by omega)
   have ha := sun_minutes hs0 (k := ((ofG a1).1.month - 1).toNat) (by omega)
   have hb := sun_minutes hs0 (k := ((ofG a1).1.month % 12).toNat) (by omega)
   have hv := div_between (a := selI (sunL a0) ((ofG a1).1.month - 1).toNat) (b := selI (sunL a0) ((ofG a1).1.month % 12).toNat) (x := (ofG a1).1.day - 1) (d := daysG (ofG a1).1.year (ofG a1).1.month) (by omega) (by omega) (by omega)
   rw [e1, e2, e3, e4, he]
   have hl : [a0.m0, a0.m1, a0.m2, a0.m3, a0.m4, a0.m5, a0.m6, a0.m7, a0.m8, a0.m9, a0.m10, a0.m11] = sunL a0 := rfl
   rw [hl]
   simp only [Nat.zero_add, Nat.mul_one, List.nil_append, List.cons_append, List.getD_cons_zero, List.getD_cons_succ]
   have r : (r_sunset_At.enc (cond false (0, sunset_Check a0) (cond true (sunDay (ofG a1).1 a0, 0) (0, 72)))) = AV.tup [AV.int .i64 (selI (sunL a0) ((ofG a1).1.month - 1).toNat + (selI (sunL a0) ((ofG a1).1.month % 12).toNat - selI (sunL a0) ((ofG a1).1.month - 1).toNat) * ((ofG a1).1.day - 1) / daysG (ofG a1).1.year (ofG a1).1.month), AV.int .i64 0] := rfl
   rw [r]
   have hu : (decide (0 ≤ (ofG a1).1.month - 1) && decide ((ofG a1).1.month - 1 < ((12 : Nat) : Int))) = true := by simp; omega
   have hu2 : (decide (0 ≤ (ofG a1).1.month % 12) && decide ((ofG a1).1.month % 12 < ((12 : Nat) : Int))) = true := by simp; omega
   have hu3 : Nat.ble (((ofG a1).1.month - 1).toNat + 1) 12 = true := Nat.ble_eq_true_of_le (by omega)
   have hu4 : Nat.ble (((ofG a1).1.month % 12).toNat + 1) 12 = true := Nat.ble_eq_true_of_le (by omega)
   rw [hu, hu2, hu3, hu4]
   clear hr r hu hu2 hu3 hu4 hl e1 e2 e3 e4 he
   generalize hm1 : selI (sunL a0) ((ofG a1).1.month - 1).toNat = p at *
   generalize hm2 : selI (sunL a0) ((ofG a1).1.month % 12).toNat = q at *
   generalize hx : (ofG a1).1.day - 1 = x at *
   generalize hy : daysG (ofG a1).1.year (ofG a1).1.month = y at *
   have hx' : 0 ≤ x ∧ x ≤ 31 := by omega
   have hpq : -100000 ≤ (q - p) * x ∧ (q - p) * x ≤ 100000 := by
    have h1 : q - p ≤ 420 := by omega
    have h2 : -420 ≤ q - p := by omega
    constructor
    ·have := Int.mul_le_mul_of_nonneg_right h2 hx'.1
     omega
    ·have := Int.mul_le_mul_of_nonneg_right h1 hx'.1
     omega
   rw [wrI (n := q - p) (by omega), wrI (n := (q - p) * x) (by omega)]
   rw [show divOk ((q - p) * x) y = true by simp only [divOk, big, byB, Bool.and_eq_true, decide_eq_true_eq]; omega]
   generalize (q - p) * x / y = v at *
   rw [wrI (n := p + v) (by omega)]
   rfl
theorem run_sunset_Moment (a0 : Zone) (a1 : Sun) (a2 : Int) : ∃ F d, run k51 F d 193 Tryz.f193 s_sunset_Moment (a0, a1, a2, ()) = some (r_sunset_Moment.enc (sunMom a0 a1 a2)) := by
 refine ⟨200, 6, ?_⟩
 rw [tree_sunset_Moment]
 unfold sunMom
 cases hz : zone_Check a0 != 0 with
 | true => rfl
 | false =>
  have hz0 : zone_Check a0 = 0 := by simpa using hz
  obtain ⟨z1, _⟩ := zone_facts hz0
  unfold sunAt
  cases hs : sunset_Check a1 != 0 with
  | true =>
   have h1 : (sunset_Check a1 == 0) = false := by simpa using hs
   simp only [cond_true, cond_false, h1, hs]
   rfl
  | false =>
   have hs0 : sunset_Check a1 = 0 := by simpa using hs
   rw [cond_false, cond_false]
   cases hd : dayOk a2 with
   | false =>
    have hb : inB a2 401 3651998 = false := by
     cases hb : inB a2 401 3651998 with
     | false => rfl
     | true =>
      have := inB_iff.1 hb
      rw [dayOk_iff.2 (by omega)] at hd
      cases hd
    rw [hb]
    rfl
   | true =>
    rw [cond_true]
    have e : (bif decide (a2 < 401) then true else decide (a2 > 3651998)) = !inB a2 401 3651998 := by
     unfold inB
     rw [Bool.eq_iff_iff]
     cases h1 : decide (a2 < 401) <;> simp at h1 ⊢ <;> omega
    dsimp only
    rw [e]
    cases hb : inB a2 401 3651998 with
    | false => rfl
    | true =>
     have h1 := inB_iff.1 hb
     have hr := sun_range hs0 hd
     rw [wrI (n := a2 * 1440) (by omega), wrI (n := a2 * 1440 + sunDay (ofG a2).1 a1) (by omega), wrI (n := a2 * 1440 + sunDay (ofG a2).1 a1 - a0.base) (by omega)]
     rfl
theorem lens_ok (c : Config) : Nat.beq c.stops.length c.stops.length = true ∧ Nat.ble (0 + c.stops.length) c.stops.length = true ∧ Nat.beq c.windows.length c.windows.length = true ∧ Nat.ble (0 + c.windows.length) c.windows.length = true := ⟨by simp, by simp, by simp, by simp⟩
theorem run_window_dated_open (a0 : Unit) (a1 : Config) (a2 : Window) (a3 : Int) (hg : openOk a0 a1 a2 a3 = true) : ∃ F d, run k53 F d 172 Tryz.f172 s_window_dated_open (a0, a1, a2, a3, ()) = some (r_window_dated_open.enc (datedOpen a0 a1 a2 a3)) := by
 refine ⟨200, 6, ?_⟩
 rw [tree_window_dated_open]
 obtain ⟨b1, b2, b3, b4⟩ := lens_ok a1
 rw [b1, b2, b3, b4]
 rfl
theorem open_ok {u : Unit} {c : Config} {w : Window} {d : Int} (h : openOk u c w d = true) : config_Check c = 0 ∧ config_Window w = 0 ∧ recG d = true := by
 simpa only [openOk, Bool.and_eq_true, beq_iff_eq] using h
theorem run_window_yearly_open (a0 : Unit) (a1 : Config) (a2 : Window) (a3 : Int) (hg : openOk a0 a1 a2 a3 = true) : ∃ F d, run k54 F d 173 Tryz.f173 s_window_yearly_open (a0, a1, a2, a3, ()) = some (r_window_yearly_open.enc (yearOpen a0 a1 a2 a3)) := by
 refine ⟨200, 6, ?_⟩
 rw [tree_window_yearly_open]
 obtain ⟨b1, b2, b3, b4⟩ := lens_ok a1
 obtain ⟨h1, h2, h3⟩ := open_ok hg
 have hd := (rec_iff _).1 h3
 obtain ⟨_, _, _, hs⟩ := window_facts h2
 rw [b1, b2, b3, b4, wrI (n := a3 - a2.shift) (by omega)]
 rfl
theorem run_window_resting_open (a0 : Unit) (a1 : Config) (a2 : Window) (a3 : Int) (hg : openOk a0 a1 a2 a3 = true) : ∃ F d, run k55 F d 190 Tryz.f190 s_window_resting_open (a0, a1, a2, a3, ()) = some (r_window_resting_open.enc (restOpen a0 a1 a2 a3)) := by
 refine ⟨200, 6, ?_⟩
 rw [tree_window_resting_open]
 obtain ⟨h1, h2, h3⟩ := open_ok hg
 have hd := (rec_iff _).1 h3
 obtain ⟨hz, hs⟩ := check_parts h1
 obtain ⟨z1, _⟩ := zone_facts hz
 rw [wrI (n := a3 + 1) (by omega)]
 unfold restOpen runG
 cases hr : restG (a3 + 1) a1.abroad with
 | false => rfl
 | true =>
  cases hn : restG a3 a1.abroad with
  | true => rfl
  | false =>
   obtain ⟨l1, l2, _, _⟩ := run_last hr
   obtain ⟨m, m1, m2⟩ := sun_mom (n := a3) hz hs (by omega) (by omega)
   obtain ⟨n, n1, n2⟩ := sun_mom (n := runEnd 1 a1.abroad 10 (a3 + 1)) hz hs (by omega) (by omega)
   obtain ⟨hk, hf4, hf, _⟩ := window_facts h2
   have hwl : 0 ≤ a2.minute ∧ a2.minute ≤ 1439 ∧ 0 ≤ a2.len ∧ a2.len ≤ 10080 := by
    by_cases h4 : a2.kind = 4
    ·have := hf4 h4; omega
    ·have := hf h4; omega
   simp only [cond_true, Bool.not_false, Bool.and_self, m1, n1]
   rw [wrI (n := a3 * 1440 + m - a1.zone.base - a2.minute) (by omega), wrI (n := runEnd 1 a1.abroad 10 (a3 + 1) * 1440 + n - a1.zone.base + a2.len) (by omega)]
   rfl
theorem run_of1 (a0 : Window) (hg : kind1 a0 = true) : ∃ F d, run k56 F d 98 Tryz.f98 s_of1 (a0, ()) = some (r_of1.enc (noneW a0)) := by
 refine ⟨200, 6, ?_⟩
 rw [tree_of1, show (a0.kind == 1) = true from hg]
 rfl
theorem run_of2 (a0 : Window) (hg : kind2 a0 = true) : ∃ F d, run k57 F d 98 Tryz.f98 s_of2 (a0, ()) = some (r_of2.enc (noneW a0)) := by
 refine ⟨200, 6, ?_⟩
 have hk : a0.kind = 2 := by simpa only [kind2, beq_iff_eq] using hg
 rw [tree_of2, hk]
 rfl
theorem run_of3 (a0 : Window) (hg : kind3 a0 = true) : ∃ F d, run k58 F d 98 Tryz.f98 s_of3 (a0, ()) = some (r_of3.enc (noneW a0)) := by
 refine ⟨200, 6, ?_⟩
 have hk : a0.kind = 3 := by simpa only [kind3, beq_iff_eq] using hg
 rw [tree_of3, hk]
 rfl
theorem run_of4 (a0 : Window) (hg : kind4 a0 = true) : ∃ F d, run k59 F d 98 Tryz.f98 s_of4 (a0, ()) = some (r_of4.enc (noneW a0)) := by
 refine ⟨200, 6, ?_⟩
 have hk : (a0.kind == 1) = false ∧ (a0.kind == 2) = false ∧ (a0.kind == 3) = false := by simpa only [kind4, Bool.not_eq_true', Bool.or_eq_false_iff] using hg
 rw [tree_of4, hk.1, hk.2.1, hk.2.2]
 rfl
end Go.Proofs.YtfhepbbkggdlcaaGreatDoor.Px.PxT


namespace Go.Proofs.YtfhepbbkggdlcaaGreatDoor.Px.PxT
open Go Go.Proofs
set_option maxRecDepth 10000
theorem span_tree (c : Config) (w : Window) (d : Int) (ok : Bool) (o : Int × Int × Bool) (hok : config_Check c = 0 → config_Window w = 0 → recG d = true → ok = true ∧ o = opens c w d) :
  (bif config_Check c == 0 then bif bif config_Window w == 0 then !recG d else false then some (AV.tup [AV.agg [AV.int .i64 0, AV.int .i64 0, AV.int .i64 0, AV.int .i64 0], AV.bool false, AV.int .i64 140]) else bif config_Window w != 0 then some (AV.tup [AV.agg [AV.int .i64 0, AV.int .i64 0, AV.int .i64 0, AV.int .i64 0], AV.bool false, AV.int .i64 (config_Window w)]) else bif ok then bif !o.2.2 then some (AV.tup [AV.agg [AV.int .i64 0, AV.int .i64 0, AV.int .i64 0, AV.int .i64 0], AV.bool false, AV.int .i64 0]) else some (AV.tup [AV.agg [AV.int .i64 o.1, AV.int .i64 o.2.1, AV.int .i64 w.mode, AV.int .i64 w.prio], AV.bool true, AV.int .i64 0]) else none
   else bif bif config_Check c == 0 then !recG d else false then some (AV.tup [AV.agg [AV.int .i64 0, AV.int .i64 0, AV.int .i64 0, AV.int .i64 0], AV.bool false, AV.int .i64 140]) else bif config_Check c != 0 then some (AV.tup [AV.agg [AV.int .i64 0, AV.int .i64 0, AV.int .i64 0, AV.int .i64 0], AV.bool false, AV.int .i64 (config_Check c)]) else bif ok then bif !o.2.2 then some (AV.tup [AV.agg [AV.int .i64 0, AV.int .i64 0, AV.int .i64 0, AV.int .i64 0], AV.bool false, AV.int .i64 0]) else some (AV.tup [AV.agg [AV.int .i64 o.1, AV.int .i64 o.2.1, AV.int .i64 w.mode, AV.int .i64 w.prio], AV.bool true, AV.int .i64 0]) else none)
  = some (r_window_Span.enc (spanG c w d)) := by
 unfold spanG spanErr orE errIf
 cases h1 : config_Check c == 0 with
 | false =>
  have h1' : (config_Check c != 0) = true := by simpa using h1
  simp only [cond_false, h1', cond_true, h1]
  rfl
 | true =>
  have e1 := beq_iff_eq.1 h1
  cases h2 : config_Window w == 0 with
  | false =>
   have h2' : (config_Window w != 0) = true := by simpa using h2
   simp only [cond_false, h2', cond_true, h2]
   rfl
  | true =>
   have e2 := beq_iff_eq.1 h2
   have h2' : (config_Window w != 0) = false := by simpa using e2
   cases h3 : recG d with
   | false => simp only [cond_true, Bool.not_false]; rfl
   | true =>
    obtain ⟨rfl, rfl⟩ := hok e1 e2 h3
    simp only [cond_true, Bool.not_true, cond_false, h2']
    cases (opens c w d).2.2 <;> rfl
theorem few_small {c : Config} (h : few10 c = true) : smallC c = true := by
 simp only [few10, smallC, Bool.and_eq_true, decide_eq_true_eq] at h ⊢
 omega
theorem open_in {c : Config} {w : Window} {d : Int} (h1 : config_Check c = 0) (h2 : config_Window w = 0) (h3 : recG d = true) : openOk () c w d = true := by
 simp only [openOk, h1, h2, h3, beq_self_eq_true, Bool.and_self]
theorem run_window_Span (a0 : Config) (a1 : Window) (a2 : Int) (hg : spanOk a0 a1 a2 = true) : ∃ F d, run k61 F d 66 Tryz.f66 s_window_Span (a0, a1, a2, ()) = some (r_window_Span.enc (spanG a0 a1 a2)) := by
 refine ⟨200, 6, ?_⟩
 obtain ⟨b1, b2, b3, b4⟩ := lens_ok a0
 have hs : smallC a0 = true := hg
 obtain ⟨p, wm, wp, wa, ws, wt, wl⟩ := a1
 have rest : ∀ q : Int, q ≠ 1 → q ≠ 2 → q ≠ 3 → opens a0 ⟨q, wm, wp, wa, ws, wt, wl⟩ a2 = restOpen () a0 ⟨q, wm, wp, wa, ws, wt, wl⟩ a2 := by
  intro q q1 q2 q3
  unfold opens
  simp only [beq_eq_false_iff_ne.2 q1, beq_eq_false_iff_ne.2 q2, beq_eq_false_iff_ne.2 q3, cond_false]
 rcases p with n | n
 ·rcases n with _ | _ | _ | _ | _ | n
  ·refine (tree_window_Span_0 ..).trans ?_
   rw [b1, b2, b3, b4, hs]
   exact span_tree a0 ⟨0, wm, wp, wa, ws, wt, wl⟩ a2 _ _ (fun h1 h2 h3 => ⟨open_in h1 h2 h3, (rest 0 (by omega) (by omega) (by omega)).symm⟩)
  ·refine (tree_window_Span_1 ..).trans ?_
   rw [b1, b2, b3, b4, hs]
   exact span_tree a0 ⟨1, wm, wp, wa, ws, wt, wl⟩ a2 _ _ (fun h1 h2 h3 => ⟨(midW_iff a2).2 (by have := (rec_iff a2).1 h3; omega), rfl⟩)
  ·refine (tree_window_Span_2 ..).trans ?_
   rw [b1, b2, b3, b4, hs]
   exact span_tree a0 ⟨2, wm, wp, wa, ws, wt, wl⟩ a2 _ _ (fun h1 h2 h3 => ⟨open_in h1 h2 h3, rfl⟩)
  ·refine (tree_window_Span_3 ..).trans ?_
   rw [b1, b2, b3, b4, hs]
   exact span_tree a0 ⟨3, wm, wp, wa, ws, wt, wl⟩ a2 _ _ (fun h1 h2 h3 => ⟨open_in h1 h2 h3, rfl⟩)
  ·refine (tree_window_Span_4 ..).trans ?_
   rw [b1, b2, b3, b4, hs]
   exact span_tree a0 ⟨4, wm, wp, wa, ws, wt, wl⟩ a2 _ _ (fun h1 h2 h3 => ⟨open_in h1 h2 h3, rfl⟩)
  ·refine (tree_window_Span_m ..).trans ?_
   rw [b1, b2, b3, b4, hs]
   exact span_tree a0 ⟨Int.ofNat (n + 5), wm, wp, wa, ws, wt, wl⟩ a2 _ _ (fun h1 h2 h3 => ⟨open_in h1 h2 h3, (rest (Int.ofNat (n + 5)) (by simp only [Int.ofNat_eq_natCast]; omega) (by simp only [Int.ofNat_eq_natCast]; omega) (by simp only [Int.ofNat_eq_natCast]; omega)).symm⟩)
 ·refine (tree_window_Span_n ..).trans ?_
  rw [b1, b2, b3, b4, hs]
  exact span_tree a0 ⟨Int.negSucc n, wm, wp, wa, ws, wt, wl⟩ a2 _ _ (fun h1 h2 h3 => ⟨open_in h1 h2 h3, (rest (Int.negSucc n) (by omega) (by omega) (by omega)).symm⟩)
end Go.Proofs.YtfhepbbkggdlcaaGreatDoor.Px.PxT
