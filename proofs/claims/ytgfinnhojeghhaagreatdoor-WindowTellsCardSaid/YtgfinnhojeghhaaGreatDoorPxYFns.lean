/- A seat's functions are what their contracts say. -/
import Derived.Test.YtgfinnhojeghhaaGreatDoorPxYSteps
import Derived.Test.YtgfinnhojeghhaaGreatDoorPxYProofs
import Derived.Test.YtgfinnhojeghhaaGreatDoorPxYProofs6
import Derived.Test.YtgfinnhojeghhaaGreatDoorPxYProofs7
import Derived.Test.YtgfinnhojeghhaaGreatDoorPxYHol
set_option linter.unusedVariables false
set_option linter.unusedSimpArgs false
namespace Go.Proofs.YtgfinnhojeghhaaGreatDoor.Px.PxY
open Go Go.Proofs

theorem run_zone_within (a0 : Int) (a1 : Int) (a2 : Int) : ∃ F d, run k0 F d 45 Tryz.f45 s_zone_within (a0, a1, a2, ()) = some (r_zone_within.enc (inB a0 a1 a2)) := ⟨200, 6, by kernel_rfl⟩
theorem p1 : Prog Tryz.prog (Globs gl) k1 := p0.addLoop (.of Tryz.func45 (by kernel_rfl) (by kernel_rfl)) (fun x h => run_zone_within x.1 x.2.1 x.2.2.1)

theorem run_config_within (a0 : Int) (a1 : Int) (a2 : Int) : ∃ F d, run k1 F d 33 Tryz.f33 s_config_within (a0, a1, a2, ()) = some (r_config_within.enc (inB a0 a1 a2)) := ⟨200, 6, by kernel_rfl⟩
theorem p2 : Prog Tryz.prog (Globs gl) k2 := p1.addLoop (.of Tryz.func33 (by kernel_rfl) (by kernel_rfl)) (fun x h => run_config_within x.1 x.2.1 x.2.2.1)

theorem p3 : Prog Tryz.prog (Globs gl) k3 := p2.addLoop (.of Tryz.func64 (by kernel_rfl) (by kernel_rfl)) (fun x h => run_divs_Div x.1 x.2.1 h)

theorem p4 : Prog Tryz.prog (Globs gl) k4 := p3.addLoop (.of Tryz.func91 (by kernel_rfl) (by kernel_rfl)) (fun x h => run_divs_Mod x.1 x.2.1 h)

theorem p5 : Prog Tryz.prog (Globs gl) k5 := p4.addLoop (.of Tryz.func85 (by kernel_rfl) (by kernel_rfl)) (fun x h => run_divs_Next x.1 x.2.1 x.2.2.1 h)

theorem p6 : Prog Tryz.prog (Globs gl) k6 := p5.addLoop (.of Tryz.func89 (by kernel_rfl) (by kernel_rfl)) (fun x h => run_greg_Leap x.1)

theorem p7 : Prog Tryz.prog (Globs gl) k7 := p6.addLoop (.of Tryz.func83 (by kernel_rfl) (by kernel_rfl)) (fun x h => run_greg_Days x.1 x.2.1)

theorem p8 : Prog Tryz.prog (Globs gl) k8 := p7.addLoop (.of Tryz.func76 (by kernel_rfl) (by kernel_rfl)) (fun x h => run_greg_ahead x.1)

theorem p9 : Prog Tryz.prog (Globs gl) k9 := p8.addLoop (.of Tryz.func90 (by kernel_rfl) (by kernel_rfl)) (fun x h => run_greg_before x.1 h)

theorem p10 : Prog Tryz.prog (Globs gl) k10 := p9.addLoop (.of Tryz.func84 (by kernel_rfl) (by kernel_rfl)) (fun x h => run_greg_Day x.1)

theorem p11 : Prog Tryz.prog (Globs gl) k11 := p10.addLoop (.of Tryz.func65 (by kernel_rfl) (by kernel_rfl)) (fun x h => run_greg_Of x.1)

theorem p12 : Prog Tryz.prog (Globs gl) k12 := p11.addLoop (.of Tryz.func77 (by kernel_rfl) (by kernel_rfl)) (fun x h => run_greg_Nth x.1 x.2.1 x.2.2.1 x.2.2.2.1)

theorem p13 : Prog Tryz.prog (Globs gl) k13 := p12.addLoop (.of Tryz.func24 (by kernel_rfl) (by kernel_rfl)) (fun x h => run_zone_Check x.1)

theorem p14 : Prog Tryz.prog (Globs gl) k14 := p13.addLoop (.of Tryz.func66 (by kernel_rfl) (by kernel_rfl)) (fun x h => run_zone_when x.1 x.2.1 x.2.2.1 h)

theorem p15 : Prog Tryz.prog (Globs gl) k15 := p14.addLoop (.of Tryz.func47 (by kernel_rfl) (by kernel_rfl)) (fun x h => run_zone_shift x.1 x.2.1 h)

theorem p16 : Prog Tryz.prog (Globs gl) k16 := p15.addH (.of Tryz.func25 (by kernel_rfl) (by kernel_rfl)) (fun x h => run_zone_Instants x.1 x.2.1 x.2.2.1)

theorem run_window_reckoned (a0 : Int) : ∃ F d, run k16 F d 14 Tryz.f14 s_window_reckoned (a0, ()) = some (r_window_reckoned.enc (recG a0)) := ⟨200, 6, by kernel_rfl⟩
theorem p17 : Prog Tryz.prog (Globs gl) k17 := p16.addLoop (.of Tryz.func14 (by kernel_rfl) (by kernel_rfl)) (fun x h => run_window_reckoned x.1)

set_option maxHeartbeats 0 in
theorem loop_wmom : ∀ ls os xs l e s' s, bSt P_wmom ls os xs = some s → g_wmom ls os xs = some (true, l, e, s') → ∃ fuel d, runL k17 fuel d 11 62 { keep := keep_wmom, m := 1, mv := sp_wmom.mv } kx_wmom c_wmom s = some (altK Prod.mk l e s') := by
  intro ls os xs l e s' s hb hg
  unfold g_wmom at hg
  split at hg
  · replace hg := takeI_some hg
    obtain ⟨v0_0, xs, rfl, hg⟩ := hg
    replace hg := takeI_some hg
    obtain ⟨v0_1, xs, rfl, hg⟩ := hg
    replace hg := takeI_some hg
    obtain ⟨v0_2, xs, rfl, hg⟩ := hg
    replace hg := takeI_some hg
    obtain ⟨v0_3, xs, rfl, hg⟩ := hg
    replace hg := takeI_some hg
    obtain ⟨v0_4, xs, rfl, hg⟩ := hg
    replace hg := takeI_some hg
    obtain ⟨v0_5, xs, rfl, hg⟩ := hg
    replace hg := takeI_some hg
    obtain ⟨v0_6, xs, rfl, hg⟩ := hg
    replace hg := takeI_some hg
    obtain ⟨v0_7, xs, rfl, hg⟩ := hg
    replace hg := takeI_some hg
    obtain ⟨v0_8, xs, rfl, hg⟩ := hg
    replace hg := takeI_some hg
    obtain ⟨v0_9, xs, rfl, hg⟩ := hg
    replace hg := takeI_some hg
    obtain ⟨v9, xs, rfl, hg⟩ := hg
    replace hg := takeE_some hg
    obtain ⟨rfl, hg⟩ := hg
    simp only [Option.some.injEq, Prod.mk.injEq] at hg
    obtain ⟨h1, rfl, rfl, rfl⟩ := hg
    rw [pat_wmom] at hb
    simp only [Option.some.injEq] at hb
    subst hb
    exact main_wmom _ _ _ _ _ _ _ _ _ _ _ h1
  · cases hg
set_option maxHeartbeats 0 in
theorem p18 : Prog Tryz.prog (Globs gl) k18 := Prog.addL (cfg := k17) (f := 11) (p := 62) (keep := keep_wmom) (kx := kx_wmom) (m := 1) (mv := sp_wmom.mv) (Q := P_wmom) (g := g_wmom) p17 Tryz.func11 (by kernel_rfl) code_wmom (by kernel_rfl) rfl (by decide) loop_wmom

theorem p19 : Prog Tryz.prog (Globs gl) k19 := p18.addLoop (.of Tryz.func11 (by kernel_rfl) (by kernel_rfl)) (fun x h => run_window_Moment x.1 x.2.1 x.2.2.1)

theorem p20 : Prog Tryz.prog (Globs gl) k20 := p19.addLoop (.of Tryz.func111 (by kernel_rfl) (by kernel_rfl)) (fun x h => run_greg_Weekday x.1 h)

theorem run_window_timed (a0 : Config) (a1 : Window) (a2 : Int) (a3 : Bool) : ∃ F d, run k20 F d 110 Tryz.f110 s_window_timed (a0, a1, a2, a3, ()) = some (r_window_timed.enc (timedG a0 a1 a2 a3)) := ⟨200, 6, by kernel_rfl⟩
theorem p21 : Prog Tryz.prog (Globs gl) k21 := p20.addLoop (.of Tryz.func110 (by kernel_rfl) (by kernel_rfl)) (fun x h => run_window_timed x.1 x.2.1 x.2.2.1 x.2.2.2.1)

theorem p22 : Prog Tryz.prog (Globs gl) k22 := p21.addLoop (.of Tryz.func48 (by kernel_rfl) (by kernel_rfl)) (fun x h => run_config_must x.1 x.2.1)

theorem p23 : Prog Tryz.prog (Globs gl) k23 := p22.addLoop (.of Tryz.func13 (by kernel_rfl) (by kernel_rfl)) (fun x h => run_config_Window x.1)

theorem p24 : Prog Tryz.prog (Globs gl) k24 := p23.addLoop (.of Tryz.func26 (by kernel_rfl) (by kernel_rfl)) (fun x h => run_config_size x.1)

set_option maxHeartbeats 0 in
theorem loop_stops : ∀ ls os xs l e s' s, bSt P_stops ls os xs = some s → g_stops ls os xs = some (true, l, e, s') → ∃ fuel d, runL k24 fuel d 27 58 { keep := keep_stops, m := 3, mv := sp_stops.mv } kx_stops c_stops s = some (altK Prod.mk l e s') := by
  intro ls os xs l e s' s hb hg
  unfold g_stops at hg
  split at hg
  · replace hg := takeI_some hg
    obtain ⟨v2_0, xs, rfl, hg⟩ := hg
    replace hg := takeI_some hg
    obtain ⟨v2_1, xs, rfl, hg⟩ := hg
    replace hg := takeI_some hg
    obtain ⟨v2_2, xs, rfl, hg⟩ := hg
    replace hg := takeI_some hg
    obtain ⟨v2_4, xs, rfl, hg⟩ := hg
    replace hg := takeI_some hg
    obtain ⟨v2_5, xs, rfl, hg⟩ := hg
    replace hg := takeI_some hg
    obtain ⟨v2_6, xs, rfl, hg⟩ := hg
    replace hg := takeI_some hg
    obtain ⟨v2_7, xs, rfl, hg⟩ := hg
    replace hg := takeI_some hg
    obtain ⟨v2_8, xs, rfl, hg⟩ := hg
    replace hg := takeI_some hg
    obtain ⟨v2_9, xs, rfl, hg⟩ := hg
    replace hg := takeI_some hg
    obtain ⟨v2_10, xs, rfl, hg⟩ := hg
    replace hg := takeI_some hg
    obtain ⟨v2_11, xs, rfl, hg⟩ := hg
    replace hg := takeI_some hg
    obtain ⟨v2_12, xs, rfl, hg⟩ := hg
    replace hg := takeI_some hg
    obtain ⟨v2_13, xs, rfl, hg⟩ := hg
    replace hg := takeI_some hg
    obtain ⟨v2_14, xs, rfl, hg⟩ := hg
    replace hg := takeI_some hg
    obtain ⟨v2_15, xs, rfl, hg⟩ := hg
    replace hg := takeI_some hg
    obtain ⟨v2_16, xs, rfl, hg⟩ := hg
    replace hg := takeI_some hg
    obtain ⟨v2_17, xs, rfl, hg⟩ := hg
    replace hg := takeI_some hg
    obtain ⟨v2_18, xs, rfl, hg⟩ := hg
    replace hg := takeI_some hg
    obtain ⟨v2_19, xs, rfl, hg⟩ := hg
    replace hg := takeI_some hg
    obtain ⟨v2_20, xs, rfl, hg⟩ := hg
    replace hg := takeI_some hg
    obtain ⟨v2_21, xs, rfl, hg⟩ := hg
    replace hg := takeI_some hg
    obtain ⟨v2_22, xs, rfl, hg⟩ := hg
    replace hg := takeI_some hg
    obtain ⟨v2_23, xs, rfl, hg⟩ := hg
    replace hg := takeI_some hg
    obtain ⟨v2_24, xs, rfl, hg⟩ := hg
    replace hg := takeI_some hg
    obtain ⟨v2_25, xs, rfl, hg⟩ := hg
    replace hg := takeI_some hg
    obtain ⟨v2_26, xs, rfl, hg⟩ := hg
    replace hg := takeI_some hg
    obtain ⟨v2_27, xs, rfl, hg⟩ := hg
    replace hg := takeI_some hg
    obtain ⟨v2_28, xs, rfl, hg⟩ := hg
    replace hg := takeI_some hg
    obtain ⟨v2_29, xs, rfl, hg⟩ := hg
    replace hg := takeI_some hg
    obtain ⟨v2_30, xs, rfl, hg⟩ := hg
    replace hg := takeI_some hg
    obtain ⟨v2_31, xs, rfl, hg⟩ := hg
    replace hg := takeI_some hg
    obtain ⟨v2_32, xs, rfl, hg⟩ := hg
    replace hg := takeI_some hg
    obtain ⟨v2_33, xs, rfl, hg⟩ := hg
    replace hg := takeI_some hg
    obtain ⟨v2_34, xs, rfl, hg⟩ := hg
    replace hg := takeB_some hg
    obtain ⟨v2_35, xs, rfl, hg⟩ := hg
    replace hg := takeB_some hg
    obtain ⟨v3, xs, rfl, hg⟩ := hg
    replace hg := takeI_some hg
    obtain ⟨v12, xs, rfl, hg⟩ := hg
    replace hg := takeI_some hg
    obtain ⟨v13, xs, rfl, hg⟩ := hg
    replace hg := takeE_some hg
    obtain ⟨rfl, hg⟩ := hg
    simp only [Option.some.injEq, Prod.mk.injEq] at hg
    obtain ⟨h1, rfl, rfl, rfl⟩ := hg
    rw [pat_stops] at hb
    simp only [Option.some.injEq] at hb
    subst hb
    exact main_stops _ _ _ _ _ _ _ _ _ _ _ _ _ _ _ _ _ _ _ _ _ _ _ _ _ _ _ _ _ _ _ _ _ _ _ _ _ _ _ _ h1
  · cases hg
set_option maxHeartbeats 0 in
theorem p25 : Prog Tryz.prog (Globs gl) k25 := Prog.addL (cfg := k24) (f := 27) (p := 58) (keep := keep_stops) (kx := kx_stops) (m := 3) (mv := sp_stops.mv) (Q := P_stops) (g := g_stops) p24 Tryz.func27 (by kernel_rfl) code_stops (by kernel_rfl) rfl (by decide) loop_stops

theorem p26 : Prog Tryz.prog (Globs gl) k26 := p25.addLoop (.of Tryz.func27 (by kernel_rfl) (by kernel_rfl)) (fun x h => run_config_stops x.1 h)

theorem p27 : Prog Tryz.prog (Globs gl) k27 := p26.addLoop (.of Tryz.func28 (by kernel_rfl) (by kernel_rfl)) (fun x h => run_config_times x.1)

theorem p28 : Prog Tryz.prog (Globs gl) k28 := p27.addLoop (.of Tryz.func31 (by kernel_rfl) (by kernel_rfl)) (fun x h => run_sunset_Check x.1)

set_option maxHeartbeats 0 in
theorem loop_wins : ∀ ls os xs l e s' s, bSt P_wins ls os xs = some s → g_wins ls os xs = some (true, l, e, s') → ∃ fuel d, runL k28 fuel d 67 26 { keep := keep_wins, m := 3, mv := sp_wins.mv } kx_wins c_wins s = some (altK Prod.mk l e s') := by
  intro ls os xs l e s' s hb hg
  unfold g_wins at hg
  split at hg
  · replace hg := takeI_some hg
    obtain ⟨v2_0, xs, rfl, hg⟩ := hg
    replace hg := takeI_some hg
    obtain ⟨v2_1, xs, rfl, hg⟩ := hg
    replace hg := takeI_some hg
    obtain ⟨v2_2, xs, rfl, hg⟩ := hg
    replace hg := takeI_some hg
    obtain ⟨v2_4, xs, rfl, hg⟩ := hg
    replace hg := takeI_some hg
    obtain ⟨v2_5, xs, rfl, hg⟩ := hg
    replace hg := takeI_some hg
    obtain ⟨v2_6, xs, rfl, hg⟩ := hg
    replace hg := takeI_some hg
    obtain ⟨v2_7, xs, rfl, hg⟩ := hg
    replace hg := takeI_some hg
    obtain ⟨v2_8, xs, rfl, hg⟩ := hg
    replace hg := takeI_some hg
    obtain ⟨v2_9, xs, rfl, hg⟩ := hg
    replace hg := takeI_some hg
    obtain ⟨v2_10, xs, rfl, hg⟩ := hg
    replace hg := takeI_some hg
    obtain ⟨v2_11, xs, rfl, hg⟩ := hg
    replace hg := takeI_some hg
    obtain ⟨v2_12, xs, rfl, hg⟩ := hg
    replace hg := takeI_some hg
    obtain ⟨v2_13, xs, rfl, hg⟩ := hg
    replace hg := takeI_some hg
    obtain ⟨v2_14, xs, rfl, hg⟩ := hg
    replace hg := takeI_some hg
    obtain ⟨v2_15, xs, rfl, hg⟩ := hg
    replace hg := takeI_some hg
    obtain ⟨v2_16, xs, rfl, hg⟩ := hg
    replace hg := takeI_some hg
    obtain ⟨v2_17, xs, rfl, hg⟩ := hg
    replace hg := takeI_some hg
    obtain ⟨v2_18, xs, rfl, hg⟩ := hg
    replace hg := takeI_some hg
    obtain ⟨v2_19, xs, rfl, hg⟩ := hg
    replace hg := takeI_some hg
    obtain ⟨v2_20, xs, rfl, hg⟩ := hg
    replace hg := takeI_some hg
    obtain ⟨v2_21, xs, rfl, hg⟩ := hg
    replace hg := takeI_some hg
    obtain ⟨v2_22, xs, rfl, hg⟩ := hg
    replace hg := takeI_some hg
    obtain ⟨v2_23, xs, rfl, hg⟩ := hg
    replace hg := takeI_some hg
    obtain ⟨v2_24, xs, rfl, hg⟩ := hg
    replace hg := takeI_some hg
    obtain ⟨v2_25, xs, rfl, hg⟩ := hg
    replace hg := takeI_some hg
    obtain ⟨v2_26, xs, rfl, hg⟩ := hg
    replace hg := takeI_some hg
    obtain ⟨v2_27, xs, rfl, hg⟩ := hg
    replace hg := takeI_some hg
    obtain ⟨v2_28, xs, rfl, hg⟩ := hg
    replace hg := takeI_some hg
    obtain ⟨v2_29, xs, rfl, hg⟩ := hg
    replace hg := takeI_some hg
    obtain ⟨v2_30, xs, rfl, hg⟩ := hg
    replace hg := takeI_some hg
    obtain ⟨v2_31, xs, rfl, hg⟩ := hg
    replace hg := takeI_some hg
    obtain ⟨v2_32, xs, rfl, hg⟩ := hg
    replace hg := takeI_some hg
    obtain ⟨v2_33, xs, rfl, hg⟩ := hg
    replace hg := takeI_some hg
    obtain ⟨v2_34, xs, rfl, hg⟩ := hg
    replace hg := takeB_some hg
    obtain ⟨v2_35, xs, rfl, hg⟩ := hg
    replace hg := takeI_some hg
    obtain ⟨v7, xs, rfl, hg⟩ := hg
    replace hg := takeI_some hg
    obtain ⟨v8, xs, rfl, hg⟩ := hg
    replace hg := takeE_some hg
    obtain ⟨rfl, hg⟩ := hg
    simp only [Option.some.injEq, Prod.mk.injEq] at hg
    obtain ⟨h1, rfl, rfl, rfl⟩ := hg
    rw [pat_wins] at hb
    simp only [Option.some.injEq] at hb
    subst hb
    exact main_wins _ _ _ _ _ _ _ _ _ _ _ _ _ _ _ _ _ _ _ _ _ _ _ _ _ _ _ _ _ _ _ _ _ _ _ _ _ _ _ h1
  · cases hg
set_option maxHeartbeats 0 in
theorem p29 : Prog Tryz.prog (Globs gl) k29 := Prog.addL (cfg := k28) (f := 67) (p := 26) (keep := keep_wins) (kx := kx_wins) (m := 3) (mv := sp_wins.mv) (Q := P_wins) (g := g_wins) p28 Tryz.func67 (by kernel_rfl) code_wins (by kernel_rfl) rfl (by decide) loop_wins

theorem p30 : Prog Tryz.prog (Globs gl) k30 := p29.addLoop (.of Tryz.func32 (by kernel_rfl) (by kernel_rfl)) (fun x h => run_config_windows x.1 h)

theorem p31 : Prog Tryz.prog (Globs gl) k31 := p30.addLoop (.of Tryz.func12 (by kernel_rfl) (by kernel_rfl)) (fun x h => run_config_Check x.1 h)

theorem p32 : Prog Tryz.prog (Globs gl) k32 := p31.addLoop (.of Tryz.func4 (by kernel_rfl) (by kernel_rfl)) (fun x h => run_newelref10_Few x.1)

theorem p33 : Prog Tryz.prog (Globs gl) k33 := p32.addH (.of Tryz.func7 (by kernel_rfl) (by kernel_rfl)) (fun x h => run_newellaw10_Own x.1 h)

theorem p34 : Prog Tryz.prog (Globs gl) k34 := p33.addLoop (.of Tryz.func126 (by kernel_rfl) (by kernel_rfl)) (fun x h => run_molad_Leap x.1 h)

theorem p35 : Prog Tryz.prog (Globs gl) k35 := p34.addLoop (.of Tryz.func129 (by kernel_rfl) (by kernel_rfl)) (fun x h => run_molad_year_months x.1 h)

theorem p36 : Prog Tryz.prog (Globs gl) k36 := p35.addLoop (.of Tryz.func127 (by kernel_rfl) (by kernel_rfl)) (fun x h => run_molad_year_moon x.1 h)

theorem p37 : Prog Tryz.prog (Globs gl) k37 := p36.addLoop (.of Tryz.func128 (by kernel_rfl) (by kernel_rfl)) (fun x h => run_molad_year_delay x.1 h)

theorem p38 : Prog Tryz.prog (Globs gl) k38 := p37.addLoop (.of Tryz.func123 (by kernel_rfl) (by kernel_rfl)) (fun x h => run_molad_year_first x.1 h)

theorem p39 : Prog Tryz.prog (Globs gl) k39 := p38.addLoop (.of Tryz.func124 (by kernel_rfl) (by kernel_rfl)) (fun x h => run_molad_year_length x.1 h)

theorem p40 : Prog Tryz.prog (Globs gl) k40 := p39.addLoop (.of Tryz.func117 (by kernel_rfl) (by kernel_rfl)) (fun x h => run_molad_NewYear x.1)

theorem p41 : Prog Tryz.prog (Globs gl) k41 := p40.addLoop (.of Tryz.func118 (by kernel_rfl) (by kernel_rfl)) (fun x h => run_molad_Len x.1)

theorem p42 : Prog Tryz.prog (Globs gl) k42 := p41.addLoop (.of Tryz.func120 (by kernel_rfl) (by kernel_rfl)) (fun x h => run_hebrew_Days x.1 x.2.1)

set_option maxHeartbeats 0 in
theorem loop_yh : ∀ ls os xs l e s' s, bSt P_yh ls os xs = some s → g_yh ls os xs = some (true, l, e, s') → ∃ fuel d, runL k42 fuel d 115 508 { keep := keep_yh, m := 3, mv := sp_yh.mv } kx_yh c_yh s = some (altK Prod.mk l e s') := by
  intro ls os xs l e s' s hb hg
  unfold g_yh at hg
  split at hg
  · replace hg := takeI_some hg
    obtain ⟨v0_0, xs, rfl, hg⟩ := hg
    replace hg := takeI_some hg
    obtain ⟨v1_0, xs, rfl, hg⟩ := hg
    replace hg := takeI_some hg
    obtain ⟨v1_1, xs, rfl, hg⟩ := hg
    replace hg := takeI_some hg
    obtain ⟨v1_2, xs, rfl, hg⟩ := hg
    replace hg := takeI_some hg
    obtain ⟨v2_0, xs, rfl, hg⟩ := hg
    replace hg := takeI_some hg
    obtain ⟨v3, xs, rfl, hg⟩ := hg
    replace hg := takeE_some hg
    obtain ⟨rfl, hg⟩ := hg
    simp only [Option.some.injEq, Prod.mk.injEq] at hg
    obtain ⟨h1, rfl, rfl, rfl⟩ := hg
    rw [pat_yh] at hb
    simp only [Option.some.injEq] at hb
    subst hb
    exact main_yh _ _ _ _ _ _ h1
  · cases hg
set_option maxHeartbeats 0 in
theorem p43 : Prog Tryz.prog (Globs gl) k43 := Prog.addL (cfg := k42) (f := 115) (p := 508) (keep := keep_yh) (kx := kx_yh) (m := 3) (mv := sp_yh.mv) (Q := P_yh) (g := g_yh) p42 Tryz.func115 (by kernel_rfl) code_yh (by kernel_rfl) rfl (by decide) loop_yh

set_option maxHeartbeats 0 in
theorem loop_hm : ∀ ls os xs l e s' s, bSt P_hm ls os xs = some s → g_hm ls os xs = some (true, l, e, s') → ∃ fuel d, runL k43 fuel d 125 6 { keep := keep_hm, m := 8, mv := sp_hm.mv } kx_hm c_hm s = some (altK Prod.mk l e s') := by
  intro ls os xs l e s' s hb hg
  unfold g_hm at hg
  split at hg
  · replace hg := takeI_some hg
    obtain ⟨v0_0, xs, rfl, hg⟩ := hg
    replace hg := takeI_some hg
    obtain ⟨v1_0, xs, rfl, hg⟩ := hg
    replace hg := takeI_some hg
    obtain ⟨v1_1, xs, rfl, hg⟩ := hg
    replace hg := takeI_some hg
    obtain ⟨v1_2, xs, rfl, hg⟩ := hg
    replace hg := takeI_some hg
    obtain ⟨v2_0, xs, rfl, hg⟩ := hg
    replace hg := takeI_some hg
    obtain ⟨v3_0, xs, rfl, hg⟩ := hg
    replace hg := takeI_some hg
    obtain ⟨v3_1, xs, rfl, hg⟩ := hg
    replace hg := takeI_some hg
    obtain ⟨v3_2, xs, rfl, hg⟩ := hg
    replace hg := takeI_some hg
    obtain ⟨v4_0, xs, rfl, hg⟩ := hg
    replace hg := takeI_some hg
    obtain ⟨v5_0, xs, rfl, hg⟩ := hg
    replace hg := takeI_some hg
    obtain ⟨v4, xs, rfl, hg⟩ := hg
    replace hg := takeE_some hg
    obtain ⟨rfl, hg⟩ := hg
    simp only [Option.some.injEq, Prod.mk.injEq] at hg
    obtain ⟨h1, rfl, rfl, rfl⟩ := hg
    rw [pat_hm] at hb
    simp only [Option.some.injEq] at hb
    subst hb
    exact main_hm _ _ _ _ _ _ _ _ _ _ _ h1
  · cases hg
set_option maxHeartbeats 0 in
theorem p44 : Prog Tryz.prog (Globs gl) k44 := Prog.addL (cfg := k43) (f := 125) (p := 6) (cx := 1) (keep := keep_hm) (kx := kx_hm) (m := 8) (mv := sp_hm.mv) (Q := P_hm) (g := g_hm) p43 Tryz.func125 (by kernel_rfl) code_hm (by kernel_rfl) rfl (by decide) loop_hm

theorem p45 : Prog Tryz.prog (Globs gl) k45 := p44.addLoop (.of Tryz.func115 (by kernel_rfl) (by kernel_rfl)) (fun x h => run_hebrew_Of x.1)

theorem p46 : Prog Tryz.prog (Globs gl) k46 := p45.add kind_con

theorem p47 : Prog Tryz.prog (Globs gl) k47 := p46.addLoop (.of Tryz.func132 (by kernel_rfl) (by kernel_rfl)) (fun x h => run_feast_Rest x.1 x.2.1)

set_option maxHeartbeats 0 in
theorem loop_runs : ∀ ls os xs l e s' s, bSt P_runs ls os xs = some s → g_runs ls os xs = some (true, l, e, s') → ∃ fuel d, runL k47 fuel d 134 28 { keep := keep_runs, m := 2, mv := sp_runs.mv } kx_runs c_runs s = some (altK Prod.mk l e s') := by
  intro ls os xs l e s' s hb hg
  unfold g_runs at hg
  split at hg
  · replace hg := takeI_some hg
    obtain ⟨v0_0, xs, rfl, hg⟩ := hg
    replace hg := takeB_some hg
    obtain ⟨v1_0, xs, rfl, hg⟩ := hg
    replace hg := takeI_some hg
    obtain ⟨v0, xs, rfl, hg⟩ := hg
    replace hg := takeI_some hg
    obtain ⟨v5, xs, rfl, hg⟩ := hg
    replace hg := takeE_some hg
    obtain ⟨rfl, hg⟩ := hg
    simp only [Option.some.injEq, Prod.mk.injEq] at hg
    obtain ⟨h1, rfl, rfl, rfl⟩ := hg
    rw [pat_runs] at hb
    simp only [Option.some.injEq] at hb
    subst hb
    exact main_runs _ _ _ _ h1
  · cases hg
set_option maxHeartbeats 0 in
theorem p48 : Prog Tryz.prog (Globs gl) k48 := Prog.addL (cfg := k47) (f := 134) (p := 28) (keep := keep_runs) (kx := kx_runs) (m := 2) (mv := sp_runs.mv) (Q := P_runs) (g := g_runs) p47 Tryz.func134 (by kernel_rfl) code_runs (by kernel_rfl) rfl (by decide) loop_runs

theorem p49 : Prog Tryz.prog (Globs gl) k49 := p48.addLoop (.of Tryz.func131 (by kernel_rfl) (by kernel_rfl)) (fun x h => run_feast_Run x.1 x.2.1)

theorem p50 : Prog Tryz.prog (Globs gl) k50 := p49.addLoop (.of Tryz.func114 (by kernel_rfl) (by kernel_rfl)) (fun x h => run_feast_Kind x.1 x.2.1)

theorem p51 : Prog Tryz.prog (Globs gl) k51 := p50.addLoop (.of Tryz.func135 (by kernel_rfl) (by kernel_rfl)) (fun x h => run_sunset_At x.1 x.2.1)

theorem p52 : Prog Tryz.prog (Globs gl) k52 := p51.addLoop (.of Tryz.func133 (by kernel_rfl) (by kernel_rfl)) (fun x h => run_sunset_Moment x.1 x.2.1 x.2.2.1)

theorem p53 : Prog Tryz.prog (Globs gl) k53 := p52.addLoop (.of Tryz.func109 (by kernel_rfl) (by kernel_rfl)) (fun x h => run_window_weekly_open x.1 x.2.1 x.2.2.1 x.2.2.2.1 h)

theorem p54 : Prog Tryz.prog (Globs gl) k54 := p53.addLoop (.of Tryz.func112 (by kernel_rfl) (by kernel_rfl)) (fun x h => run_window_dated_open x.1 x.2.1 x.2.2.1 x.2.2.2.1 h)

theorem p55 : Prog Tryz.prog (Globs gl) k55 := p54.addLoop (.of Tryz.func113 (by kernel_rfl) (by kernel_rfl)) (fun x h => run_window_yearly_open x.1 x.2.1 x.2.2.1 x.2.2.2.1 h)

theorem p56 : Prog Tryz.prog (Globs gl) k56 := p55.addLoop (.of Tryz.func130 (by kernel_rfl) (by kernel_rfl)) (fun x h => run_window_resting_open x.1 x.2.1 x.2.2.1 x.2.2.2.1 h)

theorem p57 : Prog Tryz.prog (Globs gl) k57 := p56.addLoop (.of Tryz.func15 (by kernel_rfl) (by kernel_rfl)) (fun x h => run_of1 x.1 h)

theorem p58 : Prog Tryz.prog (Globs gl) k58 := p57.addLoop (.of Tryz.func15 (by kernel_rfl) (by kernel_rfl)) (fun x h => run_of2 x.1 h)

theorem p59 : Prog Tryz.prog (Globs gl) k59 := p58.addLoop (.of Tryz.func15 (by kernel_rfl) (by kernel_rfl)) (fun x h => run_of3 x.1 h)

theorem p60 : Prog Tryz.prog (Globs gl) k60 := p59.addLoop (.of Tryz.func15 (by kernel_rfl) (by kernel_rfl)) (fun x h => run_of4 x.1 h)

theorem p61 : Prog Tryz.prog (Globs gl) k61 := p60.add (of_sel (eAt_ok p57 ⟨_, rfl⟩) (eAt_ok p58 ⟨_, rfl⟩) (eAt_ok p59 ⟨_, rfl⟩) (eAt_ok p60 ⟨_, rfl⟩))

theorem p62 : Prog Tryz.prog (Globs gl) k62 := p61.addLoop (.of Tryz.func6 (by kernel_rfl) (by kernel_rfl)) (fun x h => run_window_Span x.1 x.2.1 x.2.2.1 h)

theorem p63 : Prog Tryz.prog (Globs gl) k63 := p62.addLoop (.of Tryz.func61 (by kernel_rfl) (by kernel_rfl)) (fun x h => run_newelref01_Div x.1 x.2.1 h)

theorem p64 : Prog Tryz.prog (Globs gl) k64 := p63.addLoop (.of Tryz.func54 (by kernel_rfl) (by kernel_rfl)) (fun x h => run_newelref01_Mod x.1 x.2.1 h)

theorem p65 : Prog Tryz.prog (Globs gl) k65 := p64.addLoop (.of Tryz.func75 (by kernel_rfl) (by kernel_rfl)) (fun x h => run_newelref02_Leap x.1)

theorem p66 : Prog Tryz.prog (Globs gl) k66 := p65.addLoop (.of Tryz.func74 (by kernel_rfl) (by kernel_rfl)) (fun x h => run_newelref02_long x.1)

theorem p67 : Prog Tryz.prog (Globs gl) k67 := p66.addLoop (.of Tryz.func62 (by kernel_rfl) (by kernel_rfl)) (fun x h => run_newelref02_Days x.1 x.2.1)

set_option maxHeartbeats 0 in
theorem loop_yrs : ∀ ls os xs l e s' s, bSt P_yrs ls os xs = some s → g_yrs ls os xs = some (true, l, e, s') → ∃ fuel d, runL k67 fuel d 60 28 { keep := keep_yrs, m := 1, mv := sp_yrs.mv } kx_yrs c_yrs s = some (altK Prod.mk l e s') := by
  intro ls os xs l e s' s hb hg
  unfold g_yrs at hg
  split at hg
  · replace hg := takeI_some hg
    obtain ⟨v0_0, xs, rfl, hg⟩ := hg
    replace hg := takeI_some hg
    obtain ⟨v0_1, xs, rfl, hg⟩ := hg
    replace hg := takeI_some hg
    obtain ⟨v0_2, xs, rfl, hg⟩ := hg
    replace hg := takeI_some hg
    obtain ⟨v0, xs, rfl, hg⟩ := hg
    replace hg := takeI_some hg
    obtain ⟨v3, xs, rfl, hg⟩ := hg
    replace hg := takeE_some hg
    obtain ⟨rfl, hg⟩ := hg
    simp only [Option.some.injEq, Prod.mk.injEq] at hg
    obtain ⟨h1, rfl, rfl, rfl⟩ := hg
    rw [pat_yrs] at hb
    simp only [Option.some.injEq] at hb
    subst hb
    exact main_yrs _ _ _ _ _ h1
  · cases hg
set_option maxHeartbeats 0 in
theorem p68 : Prog Tryz.prog (Globs gl) k68 := Prog.addL (cfg := k67) (f := 60) (p := 28) (keep := keep_yrs) (kx := kx_yrs) (m := 1) (mv := sp_yrs.mv) (Q := P_yrs) (g := g_yrs) p67 Tryz.func60 (by kernel_rfl) code_yrs (by kernel_rfl) rfl (by decide) loop_yrs

set_option maxHeartbeats 0 in
theorem loop_mons : ∀ ls os xs l e s' s, bSt P_mons ls os xs = some s → g_mons ls os xs = some (true, l, e, s') → ∃ fuel d, runL k68 fuel d 60 124 { keep := keep_mons, m := 1, mv := sp_mons.mv } kx_mons c_mons s = some (altK Prod.mk l e s') := by
  intro ls os xs l e s' s hb hg
  unfold g_mons at hg
  split at hg
  · replace hg := takeI_some hg
    obtain ⟨v0_0, xs, rfl, hg⟩ := hg
    replace hg := takeI_some hg
    obtain ⟨v0_1, xs, rfl, hg⟩ := hg
    replace hg := takeI_some hg
    obtain ⟨v0_2, xs, rfl, hg⟩ := hg
    replace hg := takeI_some hg
    obtain ⟨v0, xs, rfl, hg⟩ := hg
    replace hg := takeI_some hg
    obtain ⟨v3, xs, rfl, hg⟩ := hg
    replace hg := takeI_some hg
    obtain ⟨v4, xs, rfl, hg⟩ := hg
    replace hg := takeE_some hg
    obtain ⟨rfl, hg⟩ := hg
    simp only [Option.some.injEq, Prod.mk.injEq] at hg
    obtain ⟨h1, rfl, rfl, rfl⟩ := hg
    rw [pat_mons] at hb
    simp only [Option.some.injEq] at hb
    subst hb
    exact main_mons _ _ _ _ _ _ h1
  · cases hg
set_option maxHeartbeats 0 in
theorem p69 : Prog Tryz.prog (Globs gl) k69 := Prog.addL (cfg := k68) (f := 60) (p := 124) (keep := keep_mons) (kx := kx_mons) (m := 1) (mv := sp_mons.mv) (Q := P_mons) (g := g_mons) p68 Tryz.func60 (by kernel_rfl) code_mons (by kernel_rfl) rfl (by decide) loop_mons

theorem p70 : Prog Tryz.prog (Globs gl) k70 := p69.addLoop (.of Tryz.func60 (by kernel_rfl) (by kernel_rfl)) (fun x h => run_newelref02_Of x.1 h)

set_option maxHeartbeats 0 in
theorem loop_dyrs : ∀ ls os xs l e s' s, bSt P_dyrs ls os xs = some s → g_dyrs ls os xs = some (true, l, e, s') → ∃ fuel d, runL k70 fuel d 92 58 { keep := keep_dyrs, m := 1, mv := sp_dyrs.mv } kx_dyrs c_dyrs s = some (altK Prod.mk l e s') := by
  intro ls os xs l e s' s hb hg
  unfold g_dyrs at hg
  split at hg
  · replace hg := takeI_some hg
    obtain ⟨v0_0, xs, rfl, hg⟩ := hg
    replace hg := takeI_some hg
    obtain ⟨v0_1, xs, rfl, hg⟩ := hg
    replace hg := takeI_some hg
    obtain ⟨v0_2, xs, rfl, hg⟩ := hg
    replace hg := takeI_some hg
    obtain ⟨v3, xs, rfl, hg⟩ := hg
    replace hg := takeI_some hg
    obtain ⟨v4, xs, rfl, hg⟩ := hg
    replace hg := takeE_some hg
    obtain ⟨rfl, hg⟩ := hg
    simp only [Option.some.injEq, Prod.mk.injEq] at hg
    obtain ⟨h1, rfl, rfl, rfl⟩ := hg
    rw [pat_dyrs] at hb
    simp only [Option.some.injEq] at hb
    subst hb
    exact main_dyrs _ _ _ _ _ h1
  · cases hg
set_option maxHeartbeats 0 in
theorem p71 : Prog Tryz.prog (Globs gl) k71 := Prog.addL (cfg := k70) (f := 92) (p := 58) (keep := keep_dyrs) (kx := kx_dyrs) (m := 1) (mv := sp_dyrs.mv) (Q := P_dyrs) (g := g_dyrs) p70 Tryz.func92 (by kernel_rfl) code_dyrs (by kernel_rfl) rfl (by decide) loop_dyrs

set_option maxHeartbeats 0 in
theorem loop_dmon : ∀ ls os xs l e s' s, bSt P_dmon ls os xs = some s → g_dmon ls os xs = some (true, l, e, s') → ∃ fuel d, runL k71 fuel d 92 122 { keep := keep_dmon, m := 1, mv := sp_dmon.mv } kx_dmon c_dmon s = some (altK Prod.mk l e s') := by
  intro ls os xs l e s' s hb hg
  unfold g_dmon at hg
  split at hg
  · replace hg := takeI_some hg
    obtain ⟨v0_0, xs, rfl, hg⟩ := hg
    replace hg := takeI_some hg
    obtain ⟨v0_1, xs, rfl, hg⟩ := hg
    replace hg := takeI_some hg
    obtain ⟨v0_2, xs, rfl, hg⟩ := hg
    replace hg := takeI_some hg
    obtain ⟨v3, xs, rfl, hg⟩ := hg
    replace hg := takeI_some hg
    obtain ⟨v5, xs, rfl, hg⟩ := hg
    replace hg := takeE_some hg
    obtain ⟨rfl, hg⟩ := hg
    simp only [Option.some.injEq, Prod.mk.injEq] at hg
    obtain ⟨h1, rfl, rfl, rfl⟩ := hg
    rw [pat_dmon] at hb
    simp only [Option.some.injEq] at hb
    subst hb
    exact main_dmon _ _ _ _ _ h1
  · cases hg
set_option maxHeartbeats 0 in
theorem p72 : Prog Tryz.prog (Globs gl) k72 := Prog.addL (cfg := k71) (f := 92) (p := 122) (keep := keep_dmon) (kx := kx_dmon) (m := 1) (mv := sp_dmon.mv) (Q := P_dmon) (g := g_dmon) p71 Tryz.func92 (by kernel_rfl) code_dmon (by kernel_rfl) rfl (by decide) loop_dmon

theorem p73 : Prog Tryz.prog (Globs gl) k73 := p72.addLoop (.of Tryz.func92 (by kernel_rfl) (by kernel_rfl)) (fun x h => run_newelref02_Day x.1 h)

theorem p74 : Prog Tryz.prog (Globs gl) k74 := p73.addLoop (.of Tryz.func39 (by kernel_rfl) (by kernel_rfl)) (fun x h => run_newelref02_Weekday x.1 h)

set_option maxHeartbeats 0 in
theorem loop_rnth : ∀ ls os xs l e s' s, bSt P_rnth ls os xs = some s → g_rnth ls os xs = some (true, l, e, s') → ∃ fuel d, runL k74 fuel d 88 1018 { keep := keep_rnth, m := 0, mv := sp_rnth.mv } kx_rnth c_rnth s = some (altK Prod.mk l e s') := by
  intro ls os xs l e s' s hb hg
  unfold g_rnth at hg
  split at hg
  · replace hg := takeI_some hg
    obtain ⟨v0, xs, rfl, hg⟩ := hg
    replace hg := takeI_some hg
    obtain ⟨v1, xs, rfl, hg⟩ := hg
    replace hg := takeI_some hg
    obtain ⟨v2, xs, rfl, hg⟩ := hg
    replace hg := takeI_some hg
    obtain ⟨v3, xs, rfl, hg⟩ := hg
    replace hg := takeI_some hg
    obtain ⟨v10, xs, rfl, hg⟩ := hg
    replace hg := takeI_some hg
    obtain ⟨v11, xs, rfl, hg⟩ := hg
    replace hg := takeI_some hg
    obtain ⟨v12, xs, rfl, hg⟩ := hg
    replace hg := takeI_some hg
    obtain ⟨v13, xs, rfl, hg⟩ := hg
    replace hg := takeE_some hg
    obtain ⟨rfl, hg⟩ := hg
    simp only [Option.some.injEq, Prod.mk.injEq] at hg
    obtain ⟨h1, rfl, rfl, rfl⟩ := hg
    rw [pat_rnth] at hb
    simp only [Option.some.injEq] at hb
    subst hb
    exact main_rnth _ _ _ _ _ _ _ _ h1
  · cases hg
set_option maxHeartbeats 0 in
theorem p75 : Prog Tryz.prog (Globs gl) k75 := Prog.addL (cfg := k74) (f := 88) (p := 1018) (keep := keep_rnth) (kx := kx_rnth) (m := 0) (mv := sp_rnth.mv) (Q := P_rnth) (g := g_rnth) p74 Tryz.func88 (by kernel_rfl) code_rnth (by kernel_rfl) rfl (by decide) loop_rnth

theorem p76 : Prog Tryz.prog (Globs gl) k76 := p75.addLoop (.of Tryz.func88 (by kernel_rfl) (by kernel_rfl)) (fun x h => run_newelref02_Nth x.1 x.2.1 x.2.2.1 x.2.2.2.1)

theorem p77 : Prog Tryz.prog (Globs gl) k77 := p76.addLoop (.of Tryz.func53 (by kernel_rfl) (by kernel_rfl)) (fun x h => run_newelref06_turn x.1)

theorem p78 : Prog Tryz.prog (Globs gl) k78 := p77.addLoop (.of Tryz.func36 (by kernel_rfl) (by kernel_rfl)) (fun x h => run_newelref06_Check x.1)

theorem p79 : Prog Tryz.prog (Globs gl) k79 := p78.addLoop (.of Tryz.func82 (by kernel_rfl) (by kernel_rfl)) (fun x h => run_newelref06_When x.1 x.2.1 x.2.2.1 h)

theorem p80 : Prog Tryz.prog (Globs gl) k80 := p79.addLoop (.of Tryz.func72 (by kernel_rfl) (by kernel_rfl)) (fun x h => run_newelref06_Summer x.1 x.2.1 h)

theorem p81 : Prog Tryz.prog (Globs gl) k81 := p80.addLoop (.of Tryz.func57 (by kernel_rfl) (by kernel_rfl)) (fun x h => run_newelref06_Told x.1 x.2.1 h)

theorem p82 : Prog Tryz.prog (Globs gl) k82 := p81.addH (.of Tryz.func41 (by kernel_rfl) (by kernel_rfl)) (fun x h => run_newelref06_Instants x.1 x.2.1 x.2.2.1 h)

theorem p83 : Prog Tryz.prog (Globs gl) k83 := p82.addLoop (.of Tryz.func18 (by kernel_rfl) (by kernel_rfl)) (fun x h => run_newelref14_Day x.1)

set_option maxHeartbeats 0 in
theorem loop_rmom : ∀ ls os xs l e s' s, bSt P_rmom ls os xs = some s → g_rmom ls os xs = some (true, l, e, s') → ∃ fuel d, runL k83 fuel d 20 60 { keep := keep_rmom, m := 2, mv := sp_rmom.mv } kx_rmom c_rmom s = some (altK Prod.mk l e s') := by
  intro ls os xs l e s' s hb hg
  unfold g_rmom at hg
  split at hg
  · replace hg := takeI_some hg
    obtain ⟨v0_0, xs, rfl, hg⟩ := hg
    replace hg := takeI_some hg
    obtain ⟨v0_1, xs, rfl, hg⟩ := hg
    replace hg := takeI_some hg
    obtain ⟨v0_2, xs, rfl, hg⟩ := hg
    replace hg := takeI_some hg
    obtain ⟨v0_3, xs, rfl, hg⟩ := hg
    replace hg := takeI_some hg
    obtain ⟨v0_4, xs, rfl, hg⟩ := hg
    replace hg := takeI_some hg
    obtain ⟨v0_5, xs, rfl, hg⟩ := hg
    replace hg := takeI_some hg
    obtain ⟨v0_6, xs, rfl, hg⟩ := hg
    replace hg := takeI_some hg
    obtain ⟨v0_7, xs, rfl, hg⟩ := hg
    replace hg := takeI_some hg
    obtain ⟨v0_8, xs, rfl, hg⟩ := hg
    replace hg := takeI_some hg
    obtain ⟨v0_9, xs, rfl, hg⟩ := hg
    replace hg := takeI_some hg
    obtain ⟨v7, xs, rfl, hg⟩ := hg
    replace hg := takeE_some hg
    obtain ⟨rfl, hg⟩ := hg
    simp only [Option.some.injEq, Prod.mk.injEq] at hg
    obtain ⟨h1, rfl, rfl, rfl⟩ := hg
    rw [pat_rmom] at hb
    simp only [Option.some.injEq] at hb
    subst hb
    exact main_rmom _ _ _ _ _ _ _ _ _ _ _ _ h1
  · cases hg
set_option maxHeartbeats 0 in
theorem p84 : Prog Tryz.prog (Globs gl) k84 := Prog.addL (cfg := k83) (f := 20) (p := 60) (keep := keep_rmom) (kx := kx_rmom) (m := 2) (mv := sp_rmom.mv) (Q := P_rmom) (g := g_rmom) p83 Tryz.func20 (by kernel_rfl) code_rmom (by kernel_rfl) rfl (by decide) loop_rmom

theorem p85 : Prog Tryz.prog (Globs gl) k85 := p84.addLoop (.of Tryz.func20 (by kernel_rfl) (by kernel_rfl)) (fun x h => run_newelref14_Moment x.1 x.2.1 x.2.2.1 h)

theorem p86 : Prog Tryz.prog (Globs gl) k86 := p85.addLoop (.of Tryz.func38 (by kernel_rfl) (by kernel_rfl)) (fun x h => run_newelref10_timed x.1)

theorem p87 : Prog Tryz.prog (Globs gl) k87 := p86.addLoop (.of Tryz.func52 (by kernel_rfl) (by kernel_rfl)) (fun x h => run_newelref10_tick x.1)

theorem p88 : Prog Tryz.prog (Globs gl) k88 := p87.addLoop (.of Tryz.func17 (by kernel_rfl) (by kernel_rfl)) (fun x h => run_newelref10_Window x.1)

theorem p89 : Prog Tryz.prog (Globs gl) k89 := p88.addLoop (.of Tryz.func37 (by kernel_rfl) (by kernel_rfl)) (fun x h => run_newelref07_Check x.1)

theorem p90 : Prog Tryz.prog (Globs gl) k90 := p89.addLoop (.of Tryz.func35 (by kernel_rfl) (by kernel_rfl)) (fun x h => run_newelref10_times x.1)

set_option maxHeartbeats 0 in
theorem loop_rstops : ∀ ls os xs l e s' s, bSt P_rstops ls os xs = some s → g_rstops ls os xs = some (true, l, e, s') → ∃ fuel d, runL k90 fuel d 34 26 { keep := keep_rstops, m := 3, mv := sp_rstops.mv } kx_rstops c_rstops s = some (altK Prod.mk l e s') := by
  intro ls os xs l e s' s hb hg
  unfold g_rstops at hg
  split at hg
  · replace hg := takeI_some hg
    obtain ⟨v2_0, xs, rfl, hg⟩ := hg
    replace hg := takeI_some hg
    obtain ⟨v2_1, xs, rfl, hg⟩ := hg
    replace hg := takeI_some hg
    obtain ⟨v2_2, xs, rfl, hg⟩ := hg
    replace hg := takeI_some hg
    obtain ⟨v2_4, xs, rfl, hg⟩ := hg
    replace hg := takeI_some hg
    obtain ⟨v2_5, xs, rfl, hg⟩ := hg
    replace hg := takeI_some hg
    obtain ⟨v2_6, xs, rfl, hg⟩ := hg
    replace hg := takeI_some hg
    obtain ⟨v2_7, xs, rfl, hg⟩ := hg
    replace hg := takeI_some hg
    obtain ⟨v2_8, xs, rfl, hg⟩ := hg
    replace hg := takeI_some hg
    obtain ⟨v2_9, xs, rfl, hg⟩ := hg
    replace hg := takeI_some hg
    obtain ⟨v2_10, xs, rfl, hg⟩ := hg
    replace hg := takeI_some hg
    obtain ⟨v2_11, xs, rfl, hg⟩ := hg
    replace hg := takeI_some hg
    obtain ⟨v2_12, xs, rfl, hg⟩ := hg
    replace hg := takeI_some hg
    obtain ⟨v2_13, xs, rfl, hg⟩ := hg
    replace hg := takeI_some hg
    obtain ⟨v2_14, xs, rfl, hg⟩ := hg
    replace hg := takeI_some hg
    obtain ⟨v2_15, xs, rfl, hg⟩ := hg
    replace hg := takeI_some hg
    obtain ⟨v2_16, xs, rfl, hg⟩ := hg
    replace hg := takeI_some hg
    obtain ⟨v2_17, xs, rfl, hg⟩ := hg
    replace hg := takeI_some hg
    obtain ⟨v2_18, xs, rfl, hg⟩ := hg
    replace hg := takeI_some hg
    obtain ⟨v2_19, xs, rfl, hg⟩ := hg
    replace hg := takeI_some hg
    obtain ⟨v2_20, xs, rfl, hg⟩ := hg
    replace hg := takeI_some hg
    obtain ⟨v2_21, xs, rfl, hg⟩ := hg
    replace hg := takeI_some hg
    obtain ⟨v2_22, xs, rfl, hg⟩ := hg
    replace hg := takeI_some hg
    obtain ⟨v2_23, xs, rfl, hg⟩ := hg
    replace hg := takeI_some hg
    obtain ⟨v2_24, xs, rfl, hg⟩ := hg
    replace hg := takeI_some hg
    obtain ⟨v2_25, xs, rfl, hg⟩ := hg
    replace hg := takeI_some hg
    obtain ⟨v2_26, xs, rfl, hg⟩ := hg
    replace hg := takeI_some hg
    obtain ⟨v2_27, xs, rfl, hg⟩ := hg
    replace hg := takeI_some hg
    obtain ⟨v2_28, xs, rfl, hg⟩ := hg
    replace hg := takeI_some hg
    obtain ⟨v2_29, xs, rfl, hg⟩ := hg
    replace hg := takeI_some hg
    obtain ⟨v2_30, xs, rfl, hg⟩ := hg
    replace hg := takeI_some hg
    obtain ⟨v2_31, xs, rfl, hg⟩ := hg
    replace hg := takeI_some hg
    obtain ⟨v2_32, xs, rfl, hg⟩ := hg
    replace hg := takeI_some hg
    obtain ⟨v2_33, xs, rfl, hg⟩ := hg
    replace hg := takeI_some hg
    obtain ⟨v2_34, xs, rfl, hg⟩ := hg
    replace hg := takeB_some hg
    obtain ⟨v2_35, xs, rfl, hg⟩ := hg
    replace hg := takeI_some hg
    obtain ⟨v3, xs, rfl, hg⟩ := hg
    replace hg := takeE_some hg
    obtain ⟨rfl, hg⟩ := hg
    simp only [Option.some.injEq, Prod.mk.injEq] at hg
    obtain ⟨h1, rfl, rfl, rfl⟩ := hg
    rw [pat_rstops] at hb
    simp only [Option.some.injEq] at hb
    subst hb
    exact main_rstops _ _ _ _ _ _ _ _ _ _ _ _ _ _ _ _ _ _ _ _ _ _ _ _ _ _ _ _ _ _ _ _ _ _ _ _ _ _ h1
  · cases hg
set_option maxHeartbeats 0 in
theorem p91 : Prog Tryz.prog (Globs gl) k91 := Prog.addL (cfg := k90) (f := 34) (p := 26) (keep := keep_rstops) (kx := kx_rstops) (m := 3) (mv := sp_rstops.mv) (Q := P_rstops) (g := g_rstops) p90 Tryz.func34 (by kernel_rfl) code_rstops (by kernel_rfl) rfl (by decide) loop_rstops

theorem p92 : Prog Tryz.prog (Globs gl) k92 := p91.addLoop (.of Tryz.func34 (by kernel_rfl) (by kernel_rfl)) (fun x h => run_newelref10_stops x.1 h)

set_option maxHeartbeats 0 in
theorem loop_rwins : ∀ ls os xs l e s' s, bSt P_rwins ls os xs = some s → g_rwins ls os xs = some (true, l, e, s') → ∃ fuel d, runL k92 fuel d 16 32762 { keep := keep_rwins, m := 3, mv := sp_rwins.mv } kx_rwins c_rwins s = some (altK Prod.mk l e s') := by
  intro ls os xs l e s' s hb hg
  unfold g_rwins at hg
  split at hg
  · replace hg := takeI_some hg
    obtain ⟨v2_0, xs, rfl, hg⟩ := hg
    replace hg := takeI_some hg
    obtain ⟨v2_1, xs, rfl, hg⟩ := hg
    replace hg := takeI_some hg
    obtain ⟨v2_2, xs, rfl, hg⟩ := hg
    replace hg := takeI_some hg
    obtain ⟨v2_4, xs, rfl, hg⟩ := hg
    replace hg := takeI_some hg
    obtain ⟨v2_5, xs, rfl, hg⟩ := hg
    replace hg := takeI_some hg
    obtain ⟨v2_6, xs, rfl, hg⟩ := hg
    replace hg := takeI_some hg
    obtain ⟨v2_7, xs, rfl, hg⟩ := hg
    replace hg := takeI_some hg
    obtain ⟨v2_8, xs, rfl, hg⟩ := hg
    replace hg := takeI_some hg
    obtain ⟨v2_9, xs, rfl, hg⟩ := hg
    replace hg := takeI_some hg
    obtain ⟨v2_10, xs, rfl, hg⟩ := hg
    replace hg := takeI_some hg
    obtain ⟨v2_11, xs, rfl, hg⟩ := hg
    replace hg := takeI_some hg
    obtain ⟨v2_12, xs, rfl, hg⟩ := hg
    replace hg := takeI_some hg
    obtain ⟨v2_13, xs, rfl, hg⟩ := hg
    replace hg := takeI_some hg
    obtain ⟨v2_14, xs, rfl, hg⟩ := hg
    replace hg := takeI_some hg
    obtain ⟨v2_15, xs, rfl, hg⟩ := hg
    replace hg := takeI_some hg
    obtain ⟨v2_16, xs, rfl, hg⟩ := hg
    replace hg := takeI_some hg
    obtain ⟨v2_17, xs, rfl, hg⟩ := hg
    replace hg := takeI_some hg
    obtain ⟨v2_18, xs, rfl, hg⟩ := hg
    replace hg := takeI_some hg
    obtain ⟨v2_19, xs, rfl, hg⟩ := hg
    replace hg := takeI_some hg
    obtain ⟨v2_20, xs, rfl, hg⟩ := hg
    replace hg := takeI_some hg
    obtain ⟨v2_21, xs, rfl, hg⟩ := hg
    replace hg := takeI_some hg
    obtain ⟨v2_22, xs, rfl, hg⟩ := hg
    replace hg := takeI_some hg
    obtain ⟨v2_23, xs, rfl, hg⟩ := hg
    replace hg := takeI_some hg
    obtain ⟨v2_24, xs, rfl, hg⟩ := hg
    replace hg := takeI_some hg
    obtain ⟨v2_25, xs, rfl, hg⟩ := hg
    replace hg := takeI_some hg
    obtain ⟨v2_26, xs, rfl, hg⟩ := hg
    replace hg := takeI_some hg
    obtain ⟨v2_27, xs, rfl, hg⟩ := hg
    replace hg := takeI_some hg
    obtain ⟨v2_28, xs, rfl, hg⟩ := hg
    replace hg := takeI_some hg
    obtain ⟨v2_29, xs, rfl, hg⟩ := hg
    replace hg := takeI_some hg
    obtain ⟨v2_30, xs, rfl, hg⟩ := hg
    replace hg := takeI_some hg
    obtain ⟨v2_31, xs, rfl, hg⟩ := hg
    replace hg := takeI_some hg
    obtain ⟨v2_32, xs, rfl, hg⟩ := hg
    replace hg := takeI_some hg
    obtain ⟨v2_33, xs, rfl, hg⟩ := hg
    replace hg := takeI_some hg
    obtain ⟨v2_34, xs, rfl, hg⟩ := hg
    replace hg := takeB_some hg
    obtain ⟨v2_35, xs, rfl, hg⟩ := hg
    replace hg := takeI_some hg
    obtain ⟨v7, xs, rfl, hg⟩ := hg
    replace hg := takeE_some hg
    obtain ⟨rfl, hg⟩ := hg
    simp only [Option.some.injEq, Prod.mk.injEq] at hg
    obtain ⟨h1, rfl, rfl, rfl⟩ := hg
    rw [pat_rwins] at hb
    simp only [Option.some.injEq] at hb
    subst hb
    exact main_rwins _ _ _ _ _ _ _ _ _ _ _ _ _ _ _ _ _ _ _ _ _ _ _ _ _ _ _ _ _ _ _ _ _ _ _ _ _ _ h1
  · cases hg
set_option maxHeartbeats 0 in
theorem p93 : Prog Tryz.prog (Globs gl) k93 := Prog.addL (cfg := k92) (f := 16) (p := 32762) (keep := keep_rwins) (kx := kx_rwins) (m := 3) (mv := sp_rwins.mv) (Q := P_rwins) (g := g_rwins) p92 Tryz.func16 (by kernel_rfl) code_rwins (by kernel_rfl) rfl (by decide) loop_rwins

theorem p94 : Prog Tryz.prog (Globs gl) k94 := p93.addLoop (.of Tryz.func16 (by kernel_rfl) (by kernel_rfl)) (fun x h => run_newelref10_Check x.1 h)

theorem p95 : Prog Tryz.prog (Globs gl) k95 := p94.addLoop (.of Tryz.func43 (by kernel_rfl) (by kernel_rfl)) (fun x h => run_newelref07_At x.1 x.2.1 h)

theorem p96 : Prog Tryz.prog (Globs gl) k96 := p95.addLoop (.of Tryz.func23 (by kernel_rfl) (by kernel_rfl)) (fun x h => run_newelref07_Moment x.1 x.2.1 x.2.2.1)

theorem p97 : Prog Tryz.prog (Globs gl) k97 := p96.addLoop (.of Tryz.func81 (by kernel_rfl) (by kernel_rfl)) (fun x h => run_newelref03_Leap x.1 h)

theorem p98 : Prog Tryz.prog (Globs gl) k98 := p97.addLoop (.of Tryz.func80 (by kernel_rfl) (by kernel_rfl)) (fun x h => run_newelref03_May x.1)

set_option maxHeartbeats 0 in
theorem loop_rmth : ∀ ls os xs l e s' s, bSt P_rmth ls os xs = some s → g_rmth ls os xs = some (true, l, e, s') → ∃ fuel d, runL k98 fuel d 86 122 { keep := keep_rmth, m := 0, mv := sp_rmth.mv } kx_rmth c_rmth s = some (altK Prod.mk l e s') := by
  intro ls os xs l e s' s hb hg
  unfold g_rmth at hg
  split at hg
  · replace hg := takeI_some hg
    obtain ⟨v0, xs, rfl, hg⟩ := hg
    replace hg := takeI_some hg
    obtain ⟨v4, xs, rfl, hg⟩ := hg
    replace hg := takeI_some hg
    obtain ⟨v5, xs, rfl, hg⟩ := hg
    replace hg := takeE_some hg
    obtain ⟨rfl, hg⟩ := hg
    simp only [Option.some.injEq, Prod.mk.injEq] at hg
    obtain ⟨h1, rfl, rfl, rfl⟩ := hg
    rw [pat_rmth] at hb
    simp only [Option.some.injEq] at hb
    subst hb
    exact main_rmth _ _ _ h1
  · cases hg
set_option maxHeartbeats 0 in
theorem p99 : Prog Tryz.prog (Globs gl) k99 := Prog.addL (cfg := k98) (f := 86) (p := 122) (keep := keep_rmth) (kx := kx_rmth) (m := 0) (mv := sp_rmth.mv) (Q := P_rmth) (g := g_rmth) p98 Tryz.func86 (by kernel_rfl) code_rmth (by kernel_rfl) rfl (by decide) loop_rmth

theorem p100 : Prog Tryz.prog (Globs gl) k100 := p99.addLoop (.of Tryz.func86 (by kernel_rfl) (by kernel_rfl)) (fun x h => run_newelref03_Months x.1 h)

theorem p101 : Prog Tryz.prog (Globs gl) k101 := p100.addLoop (.of Tryz.func78 (by kernel_rfl) (by kernel_rfl)) (fun x h => run_newelref03_Molad x.1 h)

theorem p102 : Prog Tryz.prog (Globs gl) k102 := p101.addLoop (.of Tryz.func87 (by kernel_rfl) (by kernel_rfl)) (fun x h => run_newelref03_put x.1 x.2.1 h)

theorem p103 : Prog Tryz.prog (Globs gl) k103 := p102.addLoop (.of Tryz.func79 (by kernel_rfl) (by kernel_rfl)) (fun x h => run_newelref03_Delay x.1 h)

theorem p104 : Prog Tryz.prog (Globs gl) k104 := p103.addLoop (.of Tryz.func70 (by kernel_rfl) (by kernel_rfl)) (fun x h => run_newelref03_NewYear x.1 h)

theorem p105 : Prog Tryz.prog (Globs gl) k105 := p104.addLoop (.of Tryz.func73 (by kernel_rfl) (by kernel_rfl)) (fun x h => run_newelref03_Len x.1 h)

theorem p106 : Prog Tryz.prog (Globs gl) k106 := p105.addLoop (.of Tryz.func71 (by kernel_rfl) (by kernel_rfl)) (fun x h => run_newelref04_Days x.1 x.2.1)

theorem p107 : Prog Tryz.prog (Globs gl) k107 := p106.addLoop (.of Tryz.func58 (by kernel_rfl) (by kernel_rfl)) (fun x h => run_newelref04_First )

theorem p108 : Prog Tryz.prog (Globs gl) k108 := p107.addLoop (.of Tryz.func59 (by kernel_rfl) (by kernel_rfl)) (fun x h => run_newelref04_Last )

set_option maxHeartbeats 0 in
theorem loop_seek : ∀ ls os xs l e s' s, bSt P_seek ls os xs = some s → g_seek ls os xs = some (true, l, e, s') → ∃ fuel d, runL k108 fuel d 69 60 { keep := keep_seek, m := 0, mv := sp_seek.mv } kx_seek c_seek s = some (altK Prod.mk l e s') := by
  intro ls os xs l e s' s hb hg
  unfold g_seek at hg
  split at hg
  · replace hg := takeI_some hg
    obtain ⟨v0, xs, rfl, hg⟩ := hg
    replace hg := takeI_some hg
    obtain ⟨v3, xs, rfl, hg⟩ := hg
    replace hg := takeI_some hg
    obtain ⟨v4, xs, rfl, hg⟩ := hg
    replace hg := takeE_some hg
    obtain ⟨rfl, hg⟩ := hg
    simp only [Option.some.injEq, Prod.mk.injEq] at hg
    obtain ⟨h1, rfl, rfl, rfl⟩ := hg
    rw [pat_seek] at hb
    simp only [Option.some.injEq] at hb
    subst hb
    exact main_seek _ _ _ h1
  · cases hg
set_option maxHeartbeats 0 in
theorem p109 : Prog Tryz.prog (Globs gl) k109 := Prog.addL (cfg := k108) (f := 69) (p := 60) (keep := keep_seek) (kx := kx_seek) (m := 0) (mv := sp_seek.mv) (Q := P_seek) (g := g_seek) p108 Tryz.func69 (by kernel_rfl) code_seek (by kernel_rfl) rfl (by decide) loop_seek

theorem p110 : Prog Tryz.prog (Globs gl) k110 := p109.addLoop (.of Tryz.func69 (by kernel_rfl) (by kernel_rfl)) (fun x h => run_newelref04_year x.1 h)

set_option maxHeartbeats 0 in
theorem loop_rmon : ∀ ls os xs l e s' s, bSt P_rmon ls os xs = some s → g_rmon ls os xs = some (true, l, e, s') → ∃ fuel d, runL k110 fuel d 56 124 { keep := keep_rmon, m := 1, mv := sp_rmon.mv } kx_rmon c_rmon s = some (altK Prod.mk l e s') := by
  intro ls os xs l e s' s hb hg
  unfold g_rmon at hg
  split at hg
  · replace hg := takeI_some hg
    obtain ⟨v0_0, xs, rfl, hg⟩ := hg
    replace hg := takeI_some hg
    obtain ⟨v0_1, xs, rfl, hg⟩ := hg
    replace hg := takeI_some hg
    obtain ⟨v0_2, xs, rfl, hg⟩ := hg
    replace hg := takeI_some hg
    obtain ⟨v3, xs, rfl, hg⟩ := hg
    replace hg := takeI_some hg
    obtain ⟨v4, xs, rfl, hg⟩ := hg
    replace hg := takeI_some hg
    obtain ⟨v5, xs, rfl, hg⟩ := hg
    replace hg := takeE_some hg
    obtain ⟨rfl, hg⟩ := hg
    simp only [Option.some.injEq, Prod.mk.injEq] at hg
    obtain ⟨h1, rfl, rfl, rfl⟩ := hg
    rw [pat_rmon] at hb
    simp only [Option.some.injEq] at hb
    subst hb
    exact main_rmon _ _ _ _ _ _ h1
  · cases hg
set_option maxHeartbeats 0 in
theorem p111 : Prog Tryz.prog (Globs gl) k111 := Prog.addL (cfg := k110) (f := 56) (p := 124) (keep := keep_rmon) (kx := kx_rmon) (m := 1) (mv := sp_rmon.mv) (Q := P_rmon) (g := g_rmon) p110 Tryz.func56 (by kernel_rfl) code_rmon (by kernel_rfl) rfl (by decide) loop_rmon

theorem p112 : Prog Tryz.prog (Globs gl) k112 := p111.addLoop (.of Tryz.func56 (by kernel_rfl) (by kernel_rfl)) (fun x h => run_newelref04_Of x.1 h)

theorem p113 : Prog Tryz.prog (Globs gl) k113 := p112.addLoop (.of Tryz.func68 (by kernel_rfl) (by kernel_rfl)) (fun x h => run_newelref05_tishri x.1 x.2.1)

theorem p114 : Prog Tryz.prog (Globs gl) k114 := p113.addLoop (.of Tryz.func55 (by kernel_rfl) (by kernel_rfl)) (fun x h => run_newelref05_Of x.1 x.2.1)

theorem p115 : Prog Tryz.prog (Globs gl) k115 := p114.addLoop (.of Tryz.func42 (by kernel_rfl) (by kernel_rfl)) (fun x h => run_newelref05_Has x.1)

theorem p116 : Prog Tryz.prog (Globs gl) k116 := p115.addLoop (.of Tryz.func40 (by kernel_rfl) (by kernel_rfl)) (fun x h => run_newelref05_Kind x.1 x.2.1)

theorem p117 : Prog Tryz.prog (Globs gl) k117 := p116.addLoop (.of Tryz.func21 (by kernel_rfl) (by kernel_rfl)) (fun x h => run_newelref05_Rest x.1 x.2.1)

set_option maxHeartbeats 0 in
theorem loop_rback : ∀ ls os xs l e s' s, bSt P_rback ls os xs = some s → g_rback ls os xs = some (true, l, e, s') → ∃ fuel d, runL k117 fuel d 22 124 { keep := keep_rback, m := 1, mv := sp_rback.mv } kx_rback c_rback s = some (altK Prod.mk l e s') := by
  intro ls os xs l e s' s hb hg
  unfold g_rback at hg
  split at hg
  · replace hg := takeI_some hg
    obtain ⟨v0_0, xs, rfl, hg⟩ := hg
    replace hg := takeI_some hg
    obtain ⟨v0_1, xs, rfl, hg⟩ := hg
    replace hg := takeB_some hg
    obtain ⟨v1, xs, rfl, hg⟩ := hg
    replace hg := takeI_some hg
    obtain ⟨v5, xs, rfl, hg⟩ := hg
    replace hg := takeI_some hg
    obtain ⟨v6, xs, rfl, hg⟩ := hg
    replace hg := takeB_some hg
    obtain ⟨v7, xs, rfl, hg⟩ := hg
    replace hg := takeE_some hg
    obtain ⟨rfl, hg⟩ := hg
    simp only [Option.some.injEq, Prod.mk.injEq] at hg
    obtain ⟨h1, rfl, rfl, rfl⟩ := hg
    rw [pat_rback] at hb
    simp only [Option.some.injEq] at hb
    subst hb
    exact main_rback _ _ _ _ _ _ h1
  · cases hg
set_option maxHeartbeats 0 in
theorem p118 : Prog Tryz.prog (Globs gl) k118 := Prog.addL (cfg := k117) (f := 22) (p := 124) (keep := keep_rback) (kx := kx_rback) (m := 1) (mv := sp_rback.mv) (Q := P_rback) (g := g_rback) p117 Tryz.func22 (by kernel_rfl) code_rback (by kernel_rfl) rfl (by decide) loop_rback

set_option maxHeartbeats 0 in
theorem loop_rforth : ∀ ls os xs l e s' s, bSt P_rforth ls os xs = some s → g_rforth ls os xs = some (true, l, e, s') → ∃ fuel d, runL k118 fuel d 22 508 { keep := keep_rforth, m := 1, mv := sp_rforth.mv } kx_rforth c_rforth s = some (altK Prod.mk l e s') := by
  intro ls os xs l e s' s hb hg
  unfold g_rforth at hg
  split at hg
  · replace hg := takeI_some hg
    obtain ⟨v0_0, xs, rfl, hg⟩ := hg
    replace hg := takeI_some hg
    obtain ⟨v0_1, xs, rfl, hg⟩ := hg
    replace hg := takeB_some hg
    obtain ⟨v1, xs, rfl, hg⟩ := hg
    replace hg := takeI_some hg
    obtain ⟨v5, xs, rfl, hg⟩ := hg
    replace hg := takeI_some hg
    obtain ⟨v6, xs, rfl, hg⟩ := hg
    replace hg := takeB_some hg
    obtain ⟨v7, xs, rfl, hg⟩ := hg
    replace hg := takeE_some hg
    obtain ⟨rfl, hg⟩ := hg
    simp only [Option.some.injEq, Prod.mk.injEq] at hg
    obtain ⟨h1, rfl, rfl, rfl⟩ := hg
    rw [pat_rforth] at hb
    simp only [Option.some.injEq] at hb
    subst hb
    exact main_rforth _ _ _ _ _ _ h1
  · cases hg
set_option maxHeartbeats 0 in
theorem p119 : Prog Tryz.prog (Globs gl) k119 := Prog.addL (cfg := k118) (f := 22) (p := 508) (keep := keep_rforth) (kx := kx_rforth) (m := 1) (mv := sp_rforth.mv) (Q := P_rforth) (g := g_rforth) p118 Tryz.func22 (by kernel_rfl) code_rforth (by kernel_rfl) rfl (by decide) loop_rforth

theorem p120 : Prog Tryz.prog (Globs gl) k120 := p119.addLoop (.of Tryz.func22 (by kernel_rfl) (by kernel_rfl)) (fun x h => run_newelref05_Run x.1 x.2.1 h)

theorem p121 : Prog Tryz.prog (Globs gl) k121 := p120.addLoop (.of Tryz.func19 (by kernel_rfl) (by kernel_rfl)) (fun x h => run_newelref14_begins x.1 x.2.1 x.2.2.1 h)

theorem p122 : Prog Tryz.prog (Globs gl) k122 := p121.addLoop (.of Tryz.func9 (by kernel_rfl) (by kernel_rfl)) (fun x h => run_newelref14_Of x.1 x.2.1 x.2.2.1 h)

theorem p123 : Prog Tryz.prog (Globs gl) k123 := p122.addLoop (.of Tryz.func8 (by kernel_rfl) (by kernel_rfl)) (fun x h => run_newelref14_Check x.1 x.2.1 x.2.2.1 h)

theorem run_newellaw14_awake : ∃ F d, run k123 F d 5 Tryz.f5 s_newellaw14_awake (()) = some (r_newellaw14_awake.enc (true)) := ⟨200, 6, by kernel_rfl⟩
theorem p124 : Prog Tryz.prog (Globs gl) k124 := p123.addLoop (.of Tryz.func5 (by kernel_rfl) (by kernel_rfl)) (fun x h => run_newellaw14_awake )

theorem law_newellaw14_WindowTells : ∀ x, s_newellaw14_WindowTells.wf x → ∃ fuel d, run k124 fuel d 3 Tryz.f3 s_newellaw14_WindowTells x = some (.bool true) := fun x hx => run_newellaw14_WindowTells x.1 x.2.1 x.2.2.1
theorem p125 : Prog Tryz.prog (Globs gl) k125 := p124

end Go.Proofs.YtgfinnhojeghhaaGreatDoor.Px.PxY
