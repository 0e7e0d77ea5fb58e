/- A seat's functions are what their contracts say. -/
import Derived.Test.YtfhepbbkggdlcaaGreatDoorPxTSteps
import Derived.Test.YtfhepbbkggdlcaaGreatDoorPxTProofs
import Derived.Test.YtfhepbbkggdlcaaGreatDoorPxTProofs4
import Derived.Test.YtfhepbbkggdlcaaGreatDoorPxTProofs6
import Derived.Test.YtfhepbbkggdlcaaGreatDoorPxTProofs7
import Derived.Test.YtfhepbbkggdlcaaGreatDoorPxTHol
set_option linter.unusedVariables false
set_option linter.unusedSimpArgs false
namespace Go.Proofs.YtfhepbbkggdlcaaGreatDoor.Px.PxT
open Go Go.Proofs
theorem run_zone_within (a0 : Int) (a1 : Int) (a2 : Int) : ∃ F d, run k0 F d 83 Tryz.f83 s_zone_within (a0, a1, a2, ()) = some (r_zone_within.enc (inB a0 a1 a2)) := ⟨200, 6, by kernel_rfl⟩
theorem p1 : Prog Tryz.prog (Globs gl) k1 := p0.addLoop (.of Tryz.func83 (by kernel_rfl) (by kernel_rfl)) (fun x h => run_zone_within x.1 x.2.1 x.2.2.1)
theorem run_config_within (a0 : Int) (a1 : Int) (a2 : Int) : ∃ F d, run k1 F d 89 Tryz.f89 s_config_within (a0, a1, a2, ()) = some (r_config_within.enc (inB a0 a1 a2)) := ⟨200, 6, by kernel_rfl⟩
theorem p2 : Prog Tryz.prog (Globs gl) k2 := p1.addLoop (.of Tryz.func89 (by kernel_rfl) (by kernel_rfl)) (fun x h => run_config_within x.1 x.2.1 x.2.2.1)
theorem p3 : Prog Tryz.prog (Globs gl) k3 := p2.addLoop (.of Tryz.func78 (by kernel_rfl) (by kernel_rfl)) (fun x h => run_divs_Div x.1 x.2.1 h)
theorem p4 : Prog Tryz.prog (Globs gl) k4 := p3.addLoop (.of Tryz.func128 (by kernel_rfl) (by kernel_rfl)) (fun x h => run_divs_Mod x.1 x.2.1 h)
theorem p5 : Prog Tryz.prog (Globs gl) k5 := p4.addLoop (.of Tryz.func119 (by kernel_rfl) (by kernel_rfl)) (fun x h => run_divs_Next x.1 x.2.1 x.2.2.1 h)
theorem p6 : Prog Tryz.prog (Globs gl) k6 := p5.addLoop (.of Tryz.func87 (by kernel_rfl) (by kernel_rfl)) (fun x h => run_greg_Leap x.1)
theorem p7 : Prog Tryz.prog (Globs gl) k7 := p6.addLoop (.of Tryz.func54 (by kernel_rfl) (by kernel_rfl)) (fun x h => run_greg_Days x.1 x.2.1)
theorem p8 : Prog Tryz.prog (Globs gl) k8 := p7.addLoop (.of Tryz.func56 (by kernel_rfl) (by kernel_rfl)) (fun x h => run_greg_ahead x.1)
theorem p9 : Prog Tryz.prog (Globs gl) k9 := p8.addLoop (.of Tryz.func55 (by kernel_rfl) (by kernel_rfl)) (fun x h => run_greg_before x.1 h)
theorem p10 : Prog Tryz.prog (Globs gl) k10 := p9.addLoop (.of Tryz.func25 (by kernel_rfl) (by kernel_rfl)) (fun x h => run_greg_Day x.1)
theorem p11 : Prog Tryz.prog (Globs gl) k11 := p10.addLoop (.of Tryz.func79 (by kernel_rfl) (by kernel_rfl)) (fun x h => run_greg_Of x.1)
theorem p12 : Prog Tryz.prog (Globs gl) k12 := p11.addLoop (.of Tryz.func106 (by kernel_rfl) (by kernel_rfl)) (fun x h => run_greg_Nth x.1 x.2.1 x.2.2.1 x.2.2.2.1)
theorem p13 : Prog Tryz.prog (Globs gl) k13 := p12.addLoop (.of Tryz.func51 (by kernel_rfl) (by kernel_rfl)) (fun x h => run_zone_Check x.1)
theorem p14 : Prog Tryz.prog (Globs gl) k14 := p13.addLoop (.of Tryz.func84 (by kernel_rfl) (by kernel_rfl)) (fun x h => run_zone_when x.1 x.2.1 x.2.2.1 h)
theorem p15 : Prog Tryz.prog (Globs gl) k15 := p14.addLoop (.of Tryz.func47 (by kernel_rfl) (by kernel_rfl)) (fun x h => run_zone_shift x.1 x.2.1 h)
theorem p16 : Prog Tryz.prog (Globs gl) k16 := p15.addH (.of Tryz.func53 (by kernel_rfl) (by kernel_rfl)) (fun x h => run_zone_Instants x.1 x.2.1 x.2.2.1)
theorem run_window_reckoned (a0 : Int) : ∃ F d, run k16 F d 52 Tryz.f52 s_window_reckoned (a0, ()) = some (r_window_reckoned.enc (recG a0)) := ⟨200, 6, by kernel_rfl⟩
theorem p17 : Prog Tryz.prog (Globs gl) k17 := p16.addLoop (.of Tryz.func52 (by kernel_rfl) (by kernel_rfl)) (fun x h => run_window_reckoned x.1)
set_option maxHeartbeats 0 in
theorem loop_wmom : ∀ ls os xs l e s' s, bSt P_wmom ls os xs = some s → g_wmom ls os xs = some (true, l, e, s') → ∃ fuel d, runL k17 fuel d 24 62 { keep := keep_wmom, m := 1, mv := sp_wmom.mv } kx_wmom c_wmom s = some (altK Prod.mk l e s') := by
 intro ls os xs l e s' s hb hg
 unfold g_wmom at hg
 split at hg
 ·iterate 11 (replace hg := takeI_some hg; obtain ⟨_, xs, rfl, hg⟩ := hg)
  replace hg := takeE_some hg
  obtain ⟨rfl, hg⟩ := hg
  simp only [Option.some.injEq, Prod.mk.injEq] at hg
  obtain ⟨h1, rfl, rfl, rfl⟩ := hg
  rw [pat_wmom] at hb
  simp only [Option.some.injEq] at hb
  subst hb
  exact main_wmom _ _ _ _ _ _ _ _ _ _ _ h1
 ·cases hg
set_option maxHeartbeats 0 in
theorem p18 : Prog Tryz.prog (Globs gl) k18 := Prog.addL (cfg := k17) (f := 24) (p := 62) (keep := keep_wmom) (kx := kx_wmom) (m := 1) (mv := sp_wmom.mv) (Q := P_wmom) (g := g_wmom) p17 Tryz.func24 (by kernel_rfl) code_wmom (by kernel_rfl) rfl (by decide) loop_wmom
theorem p19 : Prog Tryz.prog (Globs gl) k19 := p18.addLoop (.of Tryz.func24 (by kernel_rfl) (by kernel_rfl)) (fun x h => run_window_Moment x.1 x.2.1 x.2.2.1)
theorem p20 : Prog Tryz.prog (Globs gl) k20 := p19.addLoop (.of Tryz.func171 (by kernel_rfl) (by kernel_rfl)) (fun x h => run_greg_Weekday x.1 h)
theorem run_window_timed (a0 : Config) (a1 : Window) (a2 : Int) (a3 : Bool) : ∃ F d, run k20 F d 170 Tryz.f170 s_window_timed (a0, a1, a2, a3, ()) = some (r_window_timed.enc (timedG a0 a1 a2 a3)) := ⟨200, 6, by kernel_rfl⟩
theorem p21 : Prog Tryz.prog (Globs gl) k21 := p20.addLoop (.of Tryz.func170 (by kernel_rfl) (by kernel_rfl)) (fun x h => run_window_timed x.1 x.2.1 x.2.2.1 x.2.2.2.1)
theorem p22 : Prog Tryz.prog (Globs gl) k22 := p21.addLoop (.of Tryz.func88 (by kernel_rfl) (by kernel_rfl)) (fun x h => run_config_must x.1 x.2.1)
theorem p23 : Prog Tryz.prog (Globs gl) k23 := p22.addLoop (.of Tryz.func92 (by kernel_rfl) (by kernel_rfl)) (fun x h => run_config_Window x.1)
theorem p24 : Prog Tryz.prog (Globs gl) k24 := p23.addLoop (.of Tryz.func57 (by kernel_rfl) (by kernel_rfl)) (fun x h => run_config_size x.1)
set_option maxHeartbeats 0 in
theorem loop_stops : ∀ ls os xs l e s' s, bSt P_stops ls os xs = some s → g_stops ls os xs = some (true, l, e, s') → ∃ fuel d, runL k24 fuel d 58 58 { keep := keep_stops, m := 3, mv := sp_stops.mv } kx_stops c_stops s = some (altK Prod.mk l e s') := by
 intro ls os xs l e s' s hb hg
 unfold g_stops at hg
 split at hg
 ·iterate 34 (replace hg := takeI_some hg; obtain ⟨_, xs, rfl, hg⟩ := hg)
  iterate 2 (replace hg := takeB_some hg; obtain ⟨_, xs, rfl, hg⟩ := hg)
  iterate 2 (replace hg := takeI_some hg; obtain ⟨_, xs, rfl, hg⟩ := hg)
  replace hg := takeE_some hg
  obtain ⟨rfl, hg⟩ := hg
  simp only [Option.some.injEq, Prod.mk.injEq] at hg
  obtain ⟨h1, rfl, rfl, rfl⟩ := hg
  rw [pat_stops] at hb
  simp only [Option.some.injEq] at hb
  subst hb
  exact main_stops _ _ _ _ _ _ _ _ _ _ _ _ _ _ _ _ _ _ _ _ _ _ _ _ _ _ _ _ _ _ _ _ _ _ _ _ _ _ _ _ h1
 ·cases hg
set_option maxHeartbeats 0 in
theorem p25 : Prog Tryz.prog (Globs gl) k25 := Prog.addL (cfg := k24) (f := 58) (p := 58) (keep := keep_stops) (kx := kx_stops) (m := 3) (mv := sp_stops.mv) (Q := P_stops) (g := g_stops) p24 Tryz.func58 (by kernel_rfl) code_stops (by kernel_rfl) rfl (by decide) loop_stops
theorem p26 : Prog Tryz.prog (Globs gl) k26 := p25.addLoop (.of Tryz.func58 (by kernel_rfl) (by kernel_rfl)) (fun x h => run_config_stops x.1 h)
theorem p27 : Prog Tryz.prog (Globs gl) k27 := p26.addLoop (.of Tryz.func59 (by kernel_rfl) (by kernel_rfl)) (fun x h => run_config_times x.1)
theorem p28 : Prog Tryz.prog (Globs gl) k28 := p27.addLoop (.of Tryz.func62 (by kernel_rfl) (by kernel_rfl)) (fun x h => run_sunset_Check x.1)
set_option maxHeartbeats 0 in
theorem loop_wins : ∀ ls os xs l e s' s, bSt P_wins ls os xs = some s → g_wins ls os xs = some (true, l, e, s') → ∃ fuel d, runL k28 fuel d 108 26 { keep := keep_wins, m := 3, mv := sp_wins.mv } kx_wins c_wins s = some (altK Prod.mk l e s') := by
 intro ls os xs l e s' s hb hg
 unfold g_wins at hg
 split at hg
 ·iterate 34 (replace hg := takeI_some hg; obtain ⟨_, xs, rfl, hg⟩ := hg)
  replace hg := takeB_some hg
  obtain ⟨_, xs, rfl, hg⟩ := hg
  iterate 2 (replace hg := takeI_some hg; obtain ⟨_, xs, rfl, hg⟩ := hg)
  replace hg := takeE_some hg
  obtain ⟨rfl, hg⟩ := hg
  simp only [Option.some.injEq, Prod.mk.injEq] at hg
  obtain ⟨h1, rfl, rfl, rfl⟩ := hg
  rw [pat_wins] at hb
  simp only [Option.some.injEq] at hb
  subst hb
  exact main_wins _ _ _ _ _ _ _ _ _ _ _ _ _ _ _ _ _ _ _ _ _ _ _ _ _ _ _ _ _ _ _ _ _ _ _ _ _ _ _ h1
 ·cases hg
set_option maxHeartbeats 0 in
theorem p29 : Prog Tryz.prog (Globs gl) k29 := Prog.addL (cfg := k28) (f := 108) (p := 26) (keep := keep_wins) (kx := kx_wins) (m := 3) (mv := sp_wins.mv) (Q := P_wins) (g := g_wins) p28 Tryz.func108 (by kernel_rfl) code_wins (by kernel_rfl) rfl (by decide) loop_wins
theorem p30 : Prog Tryz.prog (Globs gl) k30 := p29.addLoop (.of Tryz.func63 (by kernel_rfl) (by kernel_rfl)) (fun x h => run_config_windows x.1 h)
theorem p31 : Prog Tryz.prog (Globs gl) k31 := p30.addLoop (.of Tryz.func27 (by kernel_rfl) (by kernel_rfl)) (fun x h => run_config_Check x.1 h)
theorem p32 : Prog Tryz.prog (Globs gl) k32 := p31.addLoop (.of Tryz.func9 (by kernel_rfl) (by kernel_rfl)) (fun x h => run_newelref10_Few x.1)
theorem p33 : Prog Tryz.prog (Globs gl) k33 := p32.addH (.of Tryz.func12 (by kernel_rfl) (by kernel_rfl)) (fun x h => run_newellaw10_Own x.1 h)
theorem p34 : Prog Tryz.prog (Globs gl) k34 := p33.addLoop (.of Tryz.func186 (by kernel_rfl) (by kernel_rfl)) (fun x h => run_molad_Leap x.1 h)
theorem p35 : Prog Tryz.prog (Globs gl) k35 := p34.addLoop (.of Tryz.func189 (by kernel_rfl) (by kernel_rfl)) (fun x h => run_molad_year_months x.1 h)
theorem p36 : Prog Tryz.prog (Globs gl) k36 := p35.addLoop (.of Tryz.func187 (by kernel_rfl) (by kernel_rfl)) (fun x h => run_molad_year_moon x.1 h)
theorem p37 : Prog Tryz.prog (Globs gl) k37 := p36.addLoop (.of Tryz.func188 (by kernel_rfl) (by kernel_rfl)) (fun x h => run_molad_year_delay x.1 h)
theorem p38 : Prog Tryz.prog (Globs gl) k38 := p37.addLoop (.of Tryz.func183 (by kernel_rfl) (by kernel_rfl)) (fun x h => run_molad_year_first x.1 h)
theorem p39 : Prog Tryz.prog (Globs gl) k39 := p38.addLoop (.of Tryz.func184 (by kernel_rfl) (by kernel_rfl)) (fun x h => run_molad_year_length x.1 h)
theorem p40 : Prog Tryz.prog (Globs gl) k40 := p39.addLoop (.of Tryz.func177 (by kernel_rfl) (by kernel_rfl)) (fun x h => run_molad_NewYear x.1)
theorem p41 : Prog Tryz.prog (Globs gl) k41 := p40.addLoop (.of Tryz.func178 (by kernel_rfl) (by kernel_rfl)) (fun x h => run_molad_Len x.1)
theorem p42 : Prog Tryz.prog (Globs gl) k42 := p41.addLoop (.of Tryz.func180 (by kernel_rfl) (by kernel_rfl)) (fun x h => run_hebrew_Days x.1 x.2.1)
set_option maxHeartbeats 0 in
theorem loop_yh : ∀ ls os xs l e s' s, bSt P_yh ls os xs = some s → g_yh ls os xs = some (true, l, e, s') → ∃ fuel d, runL k42 fuel d 175 508 { keep := keep_yh, m := 3, mv := sp_yh.mv } kx_yh c_yh s = some (altK Prod.mk l e s') := by
 intro ls os xs l e s' s hb hg
 unfold g_yh at hg
 split at hg
 ·iterate 6 (replace hg := takeI_some hg; obtain ⟨_, xs, rfl, hg⟩ := hg)
  replace hg := takeE_some hg
  obtain ⟨rfl, hg⟩ := hg
  simp only [Option.some.injEq, Prod.mk.injEq] at hg
  obtain ⟨h1, rfl, rfl, rfl⟩ := hg
  rw [pat_yh] at hb
  simp only [Option.some.injEq] at hb
  subst hb
  exact main_yh _ _ _ _ _ _ h1
 ·cases hg
set_option maxHeartbeats 0 in
theorem p43 : Prog Tryz.prog (Globs gl) k43 := Prog.addL (cfg := k42) (f := 175) (p := 508) (keep := keep_yh) (kx := kx_yh) (m := 3) (mv := sp_yh.mv) (Q := P_yh) (g := g_yh) p42 Tryz.func175 (by kernel_rfl) code_yh (by kernel_rfl) rfl (by decide) loop_yh
set_option maxHeartbeats 0 in
theorem loop_hm : ∀ ls os xs l e s' s, bSt P_hm ls os xs = some s → g_hm ls os xs = some (true, l, e, s') → ∃ fuel d, runL k43 fuel d 185 6 { keep := keep_hm, m := 8, mv := sp_hm.mv } kx_hm c_hm s = some (altK Prod.mk l e s') := by
 intro ls os xs l e s' s hb hg
 unfold g_hm at hg
 split at hg
 ·iterate 11 (replace hg := takeI_some hg; obtain ⟨_, xs, rfl, hg⟩ := hg)
  replace hg := takeE_some hg
  obtain ⟨rfl, hg⟩ := hg
  simp only [Option.some.injEq, Prod.mk.injEq] at hg
  obtain ⟨h1, rfl, rfl, rfl⟩ := hg
  rw [pat_hm] at hb
  simp only [Option.some.injEq] at hb
  subst hb
  exact main_hm _ _ _ _ _ _ _ _ _ _ _ h1
 ·cases hg
set_option maxHeartbeats 0 in
theorem p44 : Prog Tryz.prog (Globs gl) k44 := Prog.addL (cfg := k43) (f := 185) (p := 6) (cx := 1) (keep := keep_hm) (kx := kx_hm) (m := 8) (mv := sp_hm.mv) (Q := P_hm) (g := g_hm) p43 Tryz.func185 (by kernel_rfl) code_hm (by kernel_rfl) rfl (by decide) loop_hm
theorem p45 : Prog Tryz.prog (Globs gl) k45 := p44.addLoop (.of Tryz.func175 (by kernel_rfl) (by kernel_rfl)) (fun x h => run_hebrew_Of x.1)
theorem p46 : Prog Tryz.prog (Globs gl) k46 := p45.add kind_con
theorem p47 : Prog Tryz.prog (Globs gl) k47 := p46.addLoop (.of Tryz.func192 (by kernel_rfl) (by kernel_rfl)) (fun x h => run_feast_Rest x.1 x.2.1)
set_option maxHeartbeats 0 in
theorem loop_runs : ∀ ls os xs l e s' s, bSt P_runs ls os xs = some s → g_runs ls os xs = some (true, l, e, s') → ∃ fuel d, runL k47 fuel d 194 28 { keep := keep_runs, m := 2, mv := sp_runs.mv } kx_runs c_runs s = some (altK Prod.mk l e s') := by
 intro ls os xs l e s' s hb hg
 unfold g_runs at hg
 split at hg
 ·replace hg := takeI_some hg
  obtain ⟨_, xs, rfl, hg⟩ := hg
  replace hg := takeB_some hg
  obtain ⟨_, xs, rfl, hg⟩ := hg
  iterate 2 (replace hg := takeI_some hg; obtain ⟨_, xs, rfl, hg⟩ := hg)
  replace hg := takeE_some hg
  obtain ⟨rfl, hg⟩ := hg
  simp only [Option.some.injEq, Prod.mk.injEq] at hg
  obtain ⟨h1, rfl, rfl, rfl⟩ := hg
  rw [pat_runs] at hb
  simp only [Option.some.injEq] at hb
  subst hb
  exact main_runs _ _ _ _ h1
 ·cases hg
set_option maxHeartbeats 0 in
theorem p48 : Prog Tryz.prog (Globs gl) k48 := Prog.addL (cfg := k47) (f := 194) (p := 28) (keep := keep_runs) (kx := kx_runs) (m := 2) (mv := sp_runs.mv) (Q := P_runs) (g := g_runs) p47 Tryz.func194 (by kernel_rfl) code_runs (by kernel_rfl) rfl (by decide) loop_runs
theorem p49 : Prog Tryz.prog (Globs gl) k49 := p48.addLoop (.of Tryz.func191 (by kernel_rfl) (by kernel_rfl)) (fun x h => run_feast_Run x.1 x.2.1)
theorem p50 : Prog Tryz.prog (Globs gl) k50 := p49.addLoop (.of Tryz.func174 (by kernel_rfl) (by kernel_rfl)) (fun x h => run_feast_Kind x.1 x.2.1)
theorem p51 : Prog Tryz.prog (Globs gl) k51 := p50.addLoop (.of Tryz.func195 (by kernel_rfl) (by kernel_rfl)) (fun x h => run_sunset_At x.1 x.2.1)
theorem p52 : Prog Tryz.prog (Globs gl) k52 := p51.addLoop (.of Tryz.func193 (by kernel_rfl) (by kernel_rfl)) (fun x h => run_sunset_Moment x.1 x.2.1 x.2.2.1)
theorem p53 : Prog Tryz.prog (Globs gl) k53 := p52.addLoop (.of Tryz.func169 (by kernel_rfl) (by kernel_rfl)) (fun x h => run_window_weekly_open x.1 x.2.1 x.2.2.1 x.2.2.2.1 h)
theorem p54 : Prog Tryz.prog (Globs gl) k54 := p53.addLoop (.of Tryz.func172 (by kernel_rfl) (by kernel_rfl)) (fun x h => run_window_dated_open x.1 x.2.1 x.2.2.1 x.2.2.2.1 h)
theorem p55 : Prog Tryz.prog (Globs gl) k55 := p54.addLoop (.of Tryz.func173 (by kernel_rfl) (by kernel_rfl)) (fun x h => run_window_yearly_open x.1 x.2.1 x.2.2.1 x.2.2.2.1 h)
theorem p56 : Prog Tryz.prog (Globs gl) k56 := p55.addLoop (.of Tryz.func190 (by kernel_rfl) (by kernel_rfl)) (fun x h => run_window_resting_open x.1 x.2.1 x.2.2.1 x.2.2.2.1 h)
theorem p57 : Prog Tryz.prog (Globs gl) k57 := p56.addLoop (.of Tryz.func98 (by kernel_rfl) (by kernel_rfl)) (fun x h => run_of1 x.1 h)
theorem p58 : Prog Tryz.prog (Globs gl) k58 := p57.addLoop (.of Tryz.func98 (by kernel_rfl) (by kernel_rfl)) (fun x h => run_of2 x.1 h)
theorem p59 : Prog Tryz.prog (Globs gl) k59 := p58.addLoop (.of Tryz.func98 (by kernel_rfl) (by kernel_rfl)) (fun x h => run_of3 x.1 h)
theorem p60 : Prog Tryz.prog (Globs gl) k60 := p59.addLoop (.of Tryz.func98 (by kernel_rfl) (by kernel_rfl)) (fun x h => run_of4 x.1 h)
theorem p61 : Prog Tryz.prog (Globs gl) k61 := p60.add (of_sel (eAt_ok p57 ⟨_, rfl⟩) (eAt_ok p58 ⟨_, rfl⟩) (eAt_ok p59 ⟨_, rfl⟩) (eAt_ok p60 ⟨_, rfl⟩))
theorem p62 : Prog Tryz.prog (Globs gl) k62 := p61.addLoop (.of Tryz.func66 (by kernel_rfl) (by kernel_rfl)) (fun x h => run_window_Span x.1 x.2.1 x.2.2.1 h)
theorem p63 : Prog Tryz.prog (Globs gl) k63 := p62.addLoop (.of Tryz.func46 (by kernel_rfl) (by kernel_rfl)) (fun x h => run_zone_check x.1 x.2.1)
theorem p64 : Prog Tryz.prog (Globs gl) k64 := p63.addLoop (.of Tryz.func22 (by kernel_rfl) (by kernel_rfl)) (fun x h => run_zone_Local x.1 x.2.1)
theorem p65 : Prog Tryz.prog (Globs gl) k65 := p64.addLoop (.of Tryz.func50 (by kernel_rfl) (by kernel_rfl)) (fun x h => run_span_within x.1 x.2.1)
theorem p66 : Prog Tryz.prog (Globs gl) k66 := p65.addLoop (.of Tryz.func112 (by kernel_rfl) (by kernel_rfl)) (fun x h => run_lessS x.1 x.2.1)
set_option maxHeartbeats 0 in
theorem loop_weight : ∀ ls os xs l e s' s, bSt P_weight ls os xs = some s → g_weight ls os xs = some (true, l, e, s') → ∃ fuel d, runL k66 fuel d 97 122 { keep := keep_weight, m := 1, mv := sp_weight.mv } kx_weight c_weight s = some (altK Prod.mk l e s') := by
 intro ls os xs l e s' s hb hg
 unfold g_weight at hg
 split at hg
 ·iterate 4 (replace hg := takeI_some hg; obtain ⟨_, xs, rfl, hg⟩ := hg)
  replace hg := takeE_some hg
  obtain ⟨rfl, hg⟩ := hg
  simp only [Option.some.injEq, Prod.mk.injEq] at hg
  obtain ⟨h1, rfl, rfl, rfl⟩ := hg
  rw [pat_weight] at hb
  simp only [Option.some.injEq] at hb
  subst hb
  exact main_weight _ _ _ _ _ h1
 ·cases hg
set_option maxHeartbeats 0 in
theorem p67 : Prog Tryz.prog (Globs gl) k67 := Prog.addL (cfg := k66) (f := 97) (p := 122) (keep := keep_weight) (kx := kx_weight) (m := 1) (mv := sp_weight.mv) (Q := P_weight) (g := g_weight) p66 Tryz.func97 (by kernel_rfl) code_weight (by kernel_rfl) rfl (by decide) loop_weight
theorem p68 : Prog Tryz.prog (Globs gl) k68 := p67.addLoop (.of Tryz.func97 (by kernel_rfl) (by kernel_rfl)) (fun x h => run_span_weightiest x.1 x.2.1 h)
set_option maxHeartbeats 0 in
theorem loop_atix : ∀ ls os xs l e s' s, bSt P_atix ls os xs = some s → g_atix ls os xs = some (true, l, e, s') → ∃ fuel d, runL k68 fuel d 48 26 { keep := keep_atix, m := 3, mv := sp_atix.mv } kx_atix c_atix s = some (altK Prod.mk l e s') := by
 intro ls os xs l e s' s hb hg
 unfold g_atix at hg
 split at hg
 ·iterate 7 (replace hg := takeI_some hg; obtain ⟨_, xs, rfl, hg⟩ := hg)
  replace hg := takeE_some hg
  obtain ⟨rfl, hg⟩ := hg
  simp only [Option.some.injEq, Prod.mk.injEq] at hg
  obtain ⟨h1, rfl, rfl, rfl⟩ := hg
  rw [pat_atix] at hb
  simp only [Option.some.injEq] at hb
  subst hb
  exact main_atix _ _ _ _ _ _ _ _ h1
 ·cases hg
set_option maxHeartbeats 0 in
theorem p69 : Prog Tryz.prog (Globs gl) k69 := Prog.addL (cfg := k68) (f := 48) (p := 26) (cx := 1003) (keep := keep_atix) (kx := kx_atix) (m := 3) (mv := sp_atix.mv) (Q := P_atix) (g := g_atix) p68 Tryz.func48 (by kernel_rfl) code_atix (by kernel_rfl) rfl (by decide) loop_atix
theorem p70 : Prog Tryz.prog (Globs gl) k70 := p69.addLoop (.of Tryz.func23 (by kernel_rfl) (by kernel_rfl)) (fun x h => run_span_At x.1 x.2.1 h)
set_option maxHeartbeats 0 in
theorem loop_cut : ∀ ls os xs l e s' s, bSt P_cut ls os xs = some s → g_cut ls os xs = some (true, l, e, s') → ∃ fuel d, runL k70 fuel d 29 58 { keep := keep_cut, m := 1, mv := sp_cut.mv } kx_cut c_cut s = some (altK Prod.mk l e s') := by
 intro ls os xs l e s' s hb hg
 unfold g_cut at hg
 split at hg
 ·iterate 4 (replace hg := takeI_some hg; obtain ⟨_, xs, rfl, hg⟩ := hg)
  replace hg := takeE_some hg
  obtain ⟨rfl, hg⟩ := hg
  simp only [Option.some.injEq, Prod.mk.injEq] at hg
  obtain ⟨h1, rfl, rfl, rfl⟩ := hg
  rw [pat_cut] at hb
  simp only [Option.some.injEq] at hb
  subst hb
  exact main_cut _ _ _ _ _ _ h1
 ·cases hg
set_option maxHeartbeats 0 in
theorem p71 : Prog Tryz.prog (Globs gl) k71 := Prog.addL (cfg := k70) (f := 29) (p := 58) (keep := keep_cut) (kx := kx_cut) (m := 1) (mv := sp_cut.mv) (Q := P_cut) (g := g_cut) p70 Tryz.func29 (by kernel_rfl) code_cut (by kernel_rfl) rfl (by decide) loop_cut
theorem p72 : Prog Tryz.prog (Globs gl) k72 := p71.addH (.of Tryz.func29 (by kernel_rfl) (by kernel_rfl)) (fun x h => run_span_Cut x.1 x.2.1 x.2.2.1 h)
set_option maxHeartbeats 0 in
theorem loop_oddix : ∀ ls os xs l e s' s, bSt P_oddix ls os xs = some s → g_oddix ls os xs = some (true, l, e, s') → ∃ fuel d, runL k72 fuel d 48 26 { keep := keep_oddix, m := 2, mv := sp_oddix.mv } kx_oddix c_oddix s = some (altK Prod.mk l e s') := by
 intro ls os xs l e s' s hb hg
 unfold g_oddix at hg
 split at hg
 ·iterate 2 (replace hg := takeI_some hg; obtain ⟨_, xs, rfl, hg⟩ := hg)
  replace hg := takeE_some hg
  obtain ⟨rfl, hg⟩ := hg
  simp only [Option.some.injEq, Prod.mk.injEq] at hg
  obtain ⟨h1, rfl, rfl, rfl⟩ := hg
  rw [pat_oddix] at hb
  simp only [Option.some.injEq] at hb
  subst hb
  exact main_oddix _ _ _ h1
 ·cases hg
set_option maxHeartbeats 0 in
theorem p73 : Prog Tryz.prog (Globs gl) k73 := Prog.addL (cfg := k72) (f := 48) (p := 26) (cx := 1002) (keep := keep_oddix) (kx := kx_oddix) (m := 2) (mv := sp_oddix.mv) (Q := P_oddix) (g := g_oddix) p72 Tryz.func48 (by kernel_rfl) code_oddix (by kernel_rfl) rfl (by decide) loop_oddix
set_option maxHeartbeats 0 in
theorem loop_ends : ∀ ls os xs l e s' s, bSt P_ends ls os xs = some s → g_ends ls os xs = some (true, l, e, s') → ∃ fuel d, runL k73 fuel d 96 58 { keep := keep_ends, m := 4, mv := sp_ends.mv } kx_ends c_ends s = some (altK Prod.mk l e s') := by
 intro ls os xs l e s' s hb hg
 unfold g_ends at hg
 split at hg
 ·iterate 2 (replace hg := takeI_some hg; obtain ⟨_, xs, rfl, hg⟩ := hg)
  replace hg := takeE_some hg
  obtain ⟨rfl, hg⟩ := hg
  simp only [Option.some.injEq, Prod.mk.injEq] at hg
  obtain ⟨h1, rfl, rfl, rfl⟩ := hg
  rw [pat_ends] at hb
  simp only [Option.some.injEq] at hb
  subst hb
  exact main_ends _ _ _ _ h1
 ·cases hg
set_option maxHeartbeats 0 in
theorem p74 : Prog Tryz.prog (Globs gl) k74 := Prog.addL (cfg := k73) (f := 96) (p := 58) (keep := keep_ends) (kx := kx_ends) (m := 4) (mv := sp_ends.mv) (Q := P_ends) (g := g_ends) p73 Tryz.func96 (by kernel_rfl) code_ends (by kernel_rfl) rfl (by decide) loop_ends
set_option maxHeartbeats 0 in
theorem loop_pcs : ∀ ls os xs l e s' s, bSt P_pcs ls os xs = some s → g_pcs ls os xs = some (true, l, e, s') → ∃ fuel d, runL k74 fuel d 111 6 { keep := keep_pcs, m := 7, mv := sp_pcs.mv } kx_pcs c_pcs s = some (altK Prod.mk l e s') := by
 intro ls os xs l e s' s hb hg
 unfold g_pcs at hg
 split at hg
 ·replace hg := takeI_some hg
  obtain ⟨_, xs, rfl, hg⟩ := hg
  replace hg := takeE_some hg
  obtain ⟨rfl, hg⟩ := hg
  simp only [Option.some.injEq, Prod.mk.injEq] at hg
  obtain ⟨h1, rfl, rfl, rfl⟩ := hg
  rw [pat_pcs] at hb
  simp only [Option.some.injEq] at hb
  subst hb
  exact main_pcs _ _ _ _ h1
 ·cases hg
set_option maxHeartbeats 0 in
theorem p75 : Prog Tryz.prog (Globs gl) k75 := Prog.addL (cfg := k74) (f := 111) (p := 6) (cx := 3) (keep := keep_pcs) (kx := kx_pcs) (m := 7) (mv := sp_pcs.mv) (Q := P_pcs) (g := g_pcs) p74 Tryz.func111 (by kernel_rfl) code_pcs (by kernel_rfl) rfl (by decide) loop_pcs
theorem p76 : Prog Tryz.prog (Globs gl) k76 := p75.addH (.of Tryz.func64 (by kernel_rfl) (by kernel_rfl)) (fun x h => run_span_Resolve x.1 h)
set_option maxHeartbeats 0 in
theorem loop_bwin : ∀ ls os xs l e s' s, bSt P_bwin ls os xs = some s → g_bwin ls os xs = some (true, l, e, s') → ∃ fuel d, runL k76 fuel d 65 1426 { keep := keep_bwin, m := 10, mv := sp_bwin.mv } kx_bwin c_bwin s = some (altK Prod.mk l e s') := by
 intro ls os xs l e s' s hb hg
 unfold g_bwin at hg
 split at hg
 ·iterate 34 (replace hg := takeI_some hg; obtain ⟨_, xs, rfl, hg⟩ := hg)
  replace hg := takeB_some hg
  obtain ⟨_, xs, rfl, hg⟩ := hg
  iterate 34 (replace hg := takeI_some hg; obtain ⟨_, xs, rfl, hg⟩ := hg)
  replace hg := takeB_some hg
  obtain ⟨_, xs, rfl, hg⟩ := hg
  iterate 5 (replace hg := takeI_some hg; obtain ⟨_, xs, rfl, hg⟩ := hg)
  replace hg := takeE_some hg
  obtain ⟨rfl, hg⟩ := hg
  simp only [Option.some.injEq, Prod.mk.injEq] at hg
  obtain ⟨h1, rfl, rfl, rfl⟩ := hg
  rw [pat_bwin] at hb
  simp only [Option.some.injEq] at hb
  subst hb
  exact main_bwin _ _ _ _ _ _ _ _ _ _ _ _ _ _ _ _ _ _ _ _ _ _ _ _ _ _ _ _ _ _ _ _ _ _ _ _ _ _ _ _ _ _ _ _ _ _ _ _ _ _ _ _ _ _ _ _ _ _ _ _ _ _ _ _ _ _ _ _ _ _ _ _ _ _ _ _ _ _ h1
 ·cases hg
set_option maxHeartbeats 0 in
theorem p77 : Prog Tryz.prog (Globs gl) k77 := Prog.addL (cfg := k76) (f := 65) (p := 1426) (cx := 2) (keep := keep_bwin) (kx := kx_bwin) (m := 10) (mv := sp_bwin.mv) (Q := P_bwin) (g := g_bwin) p76 Tryz.func65 (by kernel_rfl) code_bwin (by kernel_rfl) rfl (by decide) loop_bwin
set_option maxHeartbeats 0 in
theorem loop_bday : ∀ ls os xs l e s' s, bSt P_bday ls os xs = some s → g_bday ls os xs = some (true, l, e, s') → ∃ fuel d, runL k77 fuel d 65 22 { keep := keep_bday, m := 9, mv := sp_bday.mv } kx_bday c_bday s = some (altK Prod.mk l e s') := by
 intro ls os xs l e s' s hb hg
 unfold g_bday at hg
 split at hg
 ·iterate 34 (replace hg := takeI_some hg; obtain ⟨_, xs, rfl, hg⟩ := hg)
  replace hg := takeB_some hg
  obtain ⟨_, xs, rfl, hg⟩ := hg
  iterate 34 (replace hg := takeI_some hg; obtain ⟨_, xs, rfl, hg⟩ := hg)
  replace hg := takeB_some hg
  obtain ⟨_, xs, rfl, hg⟩ := hg
  iterate 3 (replace hg := takeI_some hg; obtain ⟨_, xs, rfl, hg⟩ := hg)
  replace hg := takeE_some hg
  obtain ⟨rfl, hg⟩ := hg
  simp only [Option.some.injEq, Prod.mk.injEq] at hg
  obtain ⟨h1, rfl, rfl, rfl⟩ := hg
  rw [pat_bday] at hb
  simp only [Option.some.injEq] at hb
  subst hb
  exact main_bday _ _ _ _ _ _ _ _ _ _ _ _ _ _ _ _ _ _ _ _ _ _ _ _ _ _ _ _ _ _ _ _ _ _ _ _ _ _ _ _ _ _ _ _ _ _ _ _ _ _ _ _ _ _ _ _ _ _ _ _ _ _ _ _ _ _ _ _ _ _ _ _ _ _ _ _ h1
 ·cases hg
set_option maxHeartbeats 0 in
theorem p78 : Prog Tryz.prog (Globs gl) k78 := Prog.addL (cfg := k77) (f := 65) (p := 22) (cx := 2) (keep := keep_bday) (kx := kx_bday) (m := 9) (mv := sp_bday.mv) (Q := P_bday) (g := g_bday) p77 Tryz.func65 (by kernel_rfl) code_bday (by kernel_rfl) rfl (by decide) loop_bday
theorem p79 : Prog Tryz.prog (Globs gl) k79 := p78.addH (.of Tryz.func13 (by kernel_rfl) (by kernel_rfl)) (fun x h => run_table_Spans x.1 x.2.1 x.2.2.1 h)
theorem p80 : Prog Tryz.prog (Globs gl) k80 := p79.addH (.of Tryz.func28 (by kernel_rfl) (by kernel_rfl)) (fun x h => run_table_about x.1 x.2.1 h)
theorem p81 : Prog Tryz.prog (Globs gl) k81 := p80.addH (.of Tryz.func11 (by kernel_rfl) (by kernel_rfl)) (fun x h => run_table_Row x.1 x.2.1 h)
theorem p82 : Prog Tryz.prog (Globs gl) k82 := p81.addLoop (.of Tryz.func40 (by kernel_rfl) (by kernel_rfl)) (fun x h => run_table_served x.1 x.2.1 h)
theorem p83 : Prog Tryz.prog (Globs gl) k83 := p82.addLoop (.of Tryz.func19 (by kernel_rfl) (by kernel_rfl)) (fun x h => run_table_Mode x.1 x.2.1 h)
theorem p84 : Prog Tryz.prog (Globs gl) k84 := p83.addLoop (.of Tryz.func69 (by kernel_rfl) (by kernel_rfl)) (fun x h => run_newelref10_timed x.1)
theorem p85 : Prog Tryz.prog (Globs gl) k85 := p84.addLoop (.of Tryz.func67 (by kernel_rfl) (by kernel_rfl)) (fun x h => run_newelref10_tick x.1)
theorem p86 : Prog Tryz.prog (Globs gl) k86 := p85.addLoop (.of Tryz.func68 (by kernel_rfl) (by kernel_rfl)) (fun x h => run_newelref06_turn x.1)
theorem p87 : Prog Tryz.prog (Globs gl) k87 := p86.addLoop (.of Tryz.func35 (by kernel_rfl) (by kernel_rfl)) (fun x h => run_newelref10_Window x.1)
theorem p88 : Prog Tryz.prog (Globs gl) k88 := p87.addLoop (.of Tryz.func33 (by kernel_rfl) (by kernel_rfl)) (fun x h => run_newelref06_Check x.1)
theorem p89 : Prog Tryz.prog (Globs gl) k89 := p88.addLoop (.of Tryz.func34 (by kernel_rfl) (by kernel_rfl)) (fun x h => run_newelref07_Check x.1)
theorem p90 : Prog Tryz.prog (Globs gl) k90 := p89.addLoop (.of Tryz.func32 (by kernel_rfl) (by kernel_rfl)) (fun x h => run_newelref10_times x.1)
set_option maxHeartbeats 0 in
theorem loop_rstops : ∀ ls os xs l e s' s, bSt P_rstops ls os xs = some s → g_rstops ls os xs = some (true, l, e, s') → ∃ fuel d, runL k90 fuel d 31 26 { keep := keep_rstops, m := 3, mv := sp_rstops.mv } kx_rstops c_rstops s = some (altK Prod.mk l e s') := by
 intro ls os xs l e s' s hb hg
 unfold g_rstops at hg
 split at hg
 ·iterate 34 (replace hg := takeI_some hg; obtain ⟨_, xs, rfl, hg⟩ := hg)
  replace hg := takeB_some hg
  obtain ⟨_, xs, rfl, hg⟩ := hg
  replace hg := takeI_some hg
  obtain ⟨_, xs, rfl, hg⟩ := hg
  replace hg := takeE_some hg
  obtain ⟨rfl, hg⟩ := hg
  simp only [Option.some.injEq, Prod.mk.injEq] at hg
  obtain ⟨h1, rfl, rfl, rfl⟩ := hg
  rw [pat_rstops] at hb
  simp only [Option.some.injEq] at hb
  subst hb
  exact main_rstops _ _ _ _ _ _ _ _ _ _ _ _ _ _ _ _ _ _ _ _ _ _ _ _ _ _ _ _ _ _ _ _ _ _ _ _ _ _ h1
 ·cases hg
set_option maxHeartbeats 0 in
theorem p91 : Prog Tryz.prog (Globs gl) k91 := Prog.addL (cfg := k90) (f := 31) (p := 26) (keep := keep_rstops) (kx := kx_rstops) (m := 3) (mv := sp_rstops.mv) (Q := P_rstops) (g := g_rstops) p90 Tryz.func31 (by kernel_rfl) code_rstops (by kernel_rfl) rfl (by decide) loop_rstops
theorem p92 : Prog Tryz.prog (Globs gl) k92 := p91.addLoop (.of Tryz.func31 (by kernel_rfl) (by kernel_rfl)) (fun x h => run_newelref10_stops x.1 h)
set_option maxHeartbeats 0 in
theorem loop_rwins : ∀ ls os xs l e s' s, bSt P_rwins ls os xs = some s → g_rwins ls os xs = some (true, l, e, s') → ∃ fuel d, runL k92 fuel d 14 32762 { keep := keep_rwins, m := 3, mv := sp_rwins.mv } kx_rwins c_rwins s = some (altK Prod.mk l e s') := by
 intro ls os xs l e s' s hb hg
 unfold g_rwins at hg
 split at hg
 ·iterate 34 (replace hg := takeI_some hg; obtain ⟨_, xs, rfl, hg⟩ := hg)
  replace hg := takeB_some hg
  obtain ⟨_, xs, rfl, hg⟩ := hg
  replace hg := takeI_some hg
  obtain ⟨_, xs, rfl, hg⟩ := hg
  replace hg := takeE_some hg
  obtain ⟨rfl, hg⟩ := hg
  simp only [Option.some.injEq, Prod.mk.injEq] at hg
  obtain ⟨h1, rfl, rfl, rfl⟩ := hg
  rw [pat_rwins] at hb
  simp only [Option.some.injEq] at hb
  subst hb
  exact main_rwins _ _ _ _ _ _ _ _ _ _ _ _ _ _ _ _ _ _ _ _ _ _ _ _ _ _ _ _ _ _ _ _ _ _ _ _ _ _ h1
 ·cases hg
set_option maxHeartbeats 0 in
theorem p93 : Prog Tryz.prog (Globs gl) k93 := Prog.addL (cfg := k92) (f := 14) (p := 32762) (keep := keep_rwins) (kx := kx_rwins) (m := 3) (mv := sp_rwins.mv) (Q := P_rwins) (g := g_rwins) p92 Tryz.func14 (by kernel_rfl) code_rwins (by kernel_rfl) rfl (by decide) loop_rwins
theorem p94 : Prog Tryz.prog (Globs gl) k94 := p93.addLoop (.of Tryz.func14 (by kernel_rfl) (by kernel_rfl)) (fun x h => run_newelref10_Check x.1 h)
theorem run_newellaw15_awake : ∃ F d, run k94 F d 10 Tryz.f10 s_newellaw15_awake (()) = some (r_newellaw15_awake.enc (true)) := ⟨200, 6, by kernel_rfl⟩
theorem p95 : Prog Tryz.prog (Globs gl) k95 := p94.addLoop (.of Tryz.func10 (by kernel_rfl) (by kernel_rfl)) (fun x h => run_newellaw15_awake )
theorem p96 : Prog Tryz.prog (Globs gl) k96 := p95.addLoop (.of Tryz.func45 (by kernel_rfl) (by kernel_rfl)) (fun x h => run_newelref01_Div x.1 x.2.1 h)
theorem p97 : Prog Tryz.prog (Globs gl) k97 := p96.addLoop (.of Tryz.func105 (by kernel_rfl) (by kernel_rfl)) (fun x h => run_newelref02_Leap x.1)
theorem p98 : Prog Tryz.prog (Globs gl) k98 := p97.addLoop (.of Tryz.func81 (by kernel_rfl) (by kernel_rfl)) (fun x h => run_newelref02_long x.1)
theorem p99 : Prog Tryz.prog (Globs gl) k99 := p98.addLoop (.of Tryz.func82 (by kernel_rfl) (by kernel_rfl)) (fun x h => run_newelref02_Days x.1 x.2.1)
set_option maxHeartbeats 0 in
theorem loop_yrs : ∀ ls os xs l e s' s, bSt P_yrs ls os xs = some s → g_yrs ls os xs = some (true, l, e, s') → ∃ fuel d, runL k99 fuel d 44 28 { keep := keep_yrs, m := 1, mv := sp_yrs.mv } kx_yrs c_yrs s = some (altK Prod.mk l e s') := by
 intro ls os xs l e s' s hb hg
 unfold g_yrs at hg
 split at hg
 ·iterate 5 (replace hg := takeI_some hg; obtain ⟨_, xs, rfl, hg⟩ := hg)
  replace hg := takeE_some hg
  obtain ⟨rfl, hg⟩ := hg
  simp only [Option.some.injEq, Prod.mk.injEq] at hg
  obtain ⟨h1, rfl, rfl, rfl⟩ := hg
  rw [pat_yrs] at hb
  simp only [Option.some.injEq] at hb
  subst hb
  exact main_yrs _ _ _ _ _ h1
 ·cases hg
set_option maxHeartbeats 0 in
theorem p100 : Prog Tryz.prog (Globs gl) k100 := Prog.addL (cfg := k99) (f := 44) (p := 28) (keep := keep_yrs) (kx := kx_yrs) (m := 1) (mv := sp_yrs.mv) (Q := P_yrs) (g := g_yrs) p99 Tryz.func44 (by kernel_rfl) code_yrs (by kernel_rfl) rfl (by decide) loop_yrs
set_option maxHeartbeats 0 in
theorem loop_mons : ∀ ls os xs l e s' s, bSt P_mons ls os xs = some s → g_mons ls os xs = some (true, l, e, s') → ∃ fuel d, runL k100 fuel d 44 124 { keep := keep_mons, m := 1, mv := sp_mons.mv } kx_mons c_mons s = some (altK Prod.mk l e s') := by
 intro ls os xs l e s' s hb hg
 unfold g_mons at hg
 split at hg
 ·iterate 6 (replace hg := takeI_some hg; obtain ⟨_, xs, rfl, hg⟩ := hg)
  replace hg := takeE_some hg
  obtain ⟨rfl, hg⟩ := hg
  simp only [Option.some.injEq, Prod.mk.injEq] at hg
  obtain ⟨h1, rfl, rfl, rfl⟩ := hg
  rw [pat_mons] at hb
  simp only [Option.some.injEq] at hb
  subst hb
  exact main_mons _ _ _ _ _ _ h1
 ·cases hg
set_option maxHeartbeats 0 in
theorem p101 : Prog Tryz.prog (Globs gl) k101 := Prog.addL (cfg := k100) (f := 44) (p := 124) (keep := keep_mons) (kx := kx_mons) (m := 1) (mv := sp_mons.mv) (Q := P_mons) (g := g_mons) p100 Tryz.func44 (by kernel_rfl) code_mons (by kernel_rfl) rfl (by decide) loop_mons
theorem p102 : Prog Tryz.prog (Globs gl) k102 := p101.addLoop (.of Tryz.func44 (by kernel_rfl) (by kernel_rfl)) (fun x h => run_newelref02_Of x.1 h)
theorem p103 : Prog Tryz.prog (Globs gl) k103 := p102.addLoop (.of Tryz.func43 (by kernel_rfl) (by kernel_rfl)) (fun x h => run_newelref06_Time x.1)
theorem p104 : Prog Tryz.prog (Globs gl) k104 := p103.addLoop (.of Tryz.func21 (by kernel_rfl) (by kernel_rfl)) (fun x h => run_newelref15_Served x.1 x.2.1 h)
theorem law_newellaw15_TableDay : ∀ x, s_newellaw15_TableDay.wf x → ∃ fuel d, run k104 fuel d 5 Tryz.f5 s_newellaw15_TableDay x = some (.bool true) := fun x hx => run_newellaw15_TableDay x.1 x.2.1
end Go.Proofs.YtfhepbbkggdlcaaGreatDoor.Px.PxT
