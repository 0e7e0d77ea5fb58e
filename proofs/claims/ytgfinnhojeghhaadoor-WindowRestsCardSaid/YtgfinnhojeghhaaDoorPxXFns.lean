/- A seat's functions are what their contracts say. -/
import Derived.Test.YtgfinnhojeghhaaDoorPxXSteps
import Derived.Test.YtgfinnhojeghhaaDoorPxXProofs
import Derived.Test.YtgfinnhojeghhaaDoorPxXProofs2
import Derived.Test.YtgfinnhojeghhaaDoorPxXProofs3
import Derived.Test.YtgfinnhojeghhaaDoorPxXProofs4
import Derived.Test.YtgfinnhojeghhaaDoorPxXLWindowLong
import Derived.Test.YtgfinnhojeghhaaDoorPxXHol
set_option linter.unusedVariables false
set_option linter.unusedSimpArgs false
namespace Go.Proofs.YtgfinnhojeghhaaDoor.Px.PxX
open Go Go.Proofs

theorem run_zone_within (a0 : Int) (a1 : Int) (a2 : Int) : ∃ F d, run k0 F d 31 Tryd.f31 s_zone_within (a0, a1, a2, ()) = some (r_zone_within.enc (inB a0 a1 a2)) := ⟨200, 6, by kernel_rfl⟩
theorem p1 : Prog Tryd.prog (Globs gl) k1 := p0.addLoop (.of Tryd.func31 (by kernel_rfl) (by kernel_rfl)) (fun x h => run_zone_within x.1 x.2.1 x.2.2.1)

theorem run_config_within (a0 : Int) (a1 : Int) (a2 : Int) : ∃ F d, run k1 F d 42 Tryd.f42 s_config_within (a0, a1, a2, ()) = some (r_config_within.enc (inB a0 a1 a2)) := ⟨200, 6, by kernel_rfl⟩
theorem p2 : Prog Tryd.prog (Globs gl) k2 := p1.addLoop (.of Tryd.func42 (by kernel_rfl) (by kernel_rfl)) (fun x h => run_config_within x.1 x.2.1 x.2.2.1)

theorem p3 : Prog Tryd.prog (Globs gl) k3 := p2.addLoop (.of Tryd.func46 (by kernel_rfl) (by kernel_rfl)) (fun x h => run_divs_Div x.1 x.2.1 h)

theorem p4 : Prog Tryd.prog (Globs gl) k4 := p3.addLoop (.of Tryd.func59 (by kernel_rfl) (by kernel_rfl)) (fun x h => run_divs_Mod x.1 x.2.1 h)

theorem p5 : Prog Tryd.prog (Globs gl) k5 := p4.addLoop (.of Tryd.func74 (by kernel_rfl) (by kernel_rfl)) (fun x h => run_divs_Next x.1 x.2.1 x.2.2.1 h)

theorem p6 : Prog Tryd.prog (Globs gl) k6 := p5.addLoop (.of Tryd.func80 (by kernel_rfl) (by kernel_rfl)) (fun x h => run_greg_Leap x.1)

theorem p7 : Prog Tryd.prog (Globs gl) k7 := p6.addLoop (.of Tryd.func72 (by kernel_rfl) (by kernel_rfl)) (fun x h => run_greg_Days x.1 x.2.1)

theorem p8 : Prog Tryd.prog (Globs gl) k8 := p7.addLoop (.of Tryd.func61 (by kernel_rfl) (by kernel_rfl)) (fun x h => run_greg_ahead x.1)

theorem p9 : Prog Tryd.prog (Globs gl) k9 := p8.addLoop (.of Tryd.func81 (by kernel_rfl) (by kernel_rfl)) (fun x h => run_greg_before x.1 h)

theorem p10 : Prog Tryd.prog (Globs gl) k10 := p9.addLoop (.of Tryd.func73 (by kernel_rfl) (by kernel_rfl)) (fun x h => run_greg_Day x.1)

theorem p11 : Prog Tryd.prog (Globs gl) k11 := p10.addLoop (.of Tryd.func47 (by kernel_rfl) (by kernel_rfl)) (fun x h => run_greg_Of x.1)

theorem p12 : Prog Tryd.prog (Globs gl) k12 := p11.addLoop (.of Tryd.func62 (by kernel_rfl) (by kernel_rfl)) (fun x h => run_greg_Nth x.1 x.2.1 x.2.2.1 x.2.2.2.1)

theorem p13 : Prog Tryd.prog (Globs gl) k13 := p12.addLoop (.of Tryd.func19 (by kernel_rfl) (by kernel_rfl)) (fun x h => run_zone_Check x.1)

theorem p14 : Prog Tryd.prog (Globs gl) k14 := p13.addLoop (.of Tryd.func48 (by kernel_rfl) (by kernel_rfl)) (fun x h => run_zone_when x.1 x.2.1 x.2.2.1 h)

theorem p15 : Prog Tryd.prog (Globs gl) k15 := p14.addLoop (.of Tryd.func30 (by kernel_rfl) (by kernel_rfl)) (fun x h => run_zone_shift x.1 x.2.1 h)

theorem p16 : Prog Tryd.prog (Globs gl) k16 := p15.addH (.of Tryd.func18 (by kernel_rfl) (by kernel_rfl)) (fun x h => run_zone_Instants x.1 x.2.1 x.2.2.1)

theorem run_window_reckoned (a0 : Int) : ∃ F d, run k16 F d 20 Tryd.f20 s_window_reckoned (a0, ()) = some (r_window_reckoned.enc (recG a0)) := ⟨200, 6, by kernel_rfl⟩
theorem p17 : Prog Tryd.prog (Globs gl) k17 := p16.addLoop (.of Tryd.func20 (by kernel_rfl) (by kernel_rfl)) (fun x h => run_window_reckoned x.1)

set_option maxHeartbeats 0 in
theorem loop_wmom : ∀ ls os xs l e s' s, bSt P_wmom ls os xs = some s → g_wmom ls os xs = some (true, l, e, s') → ∃ fuel d, runL k17 fuel d 8 62 { keep := keep_wmom, m := 1, mv := sp_wmom.mv } kx_wmom c_wmom s = some (altK Prod.mk l e s') := by
  intro ls os xs l e s' s hb hg
  unfold g_wmom at hg
  split at hg
  · replace hg := takeI_some hg
    obtain ⟨v0_0, xs, rfl, hg⟩ := hg
    replace hg := takeI_some hg
    obtain ⟨v0_1, xs, rfl, hg⟩ := hg
    replace hg := takeI_some hg
    obtain ⟨v0_2, xs, rfl, hg⟩ := hg
    replace hg := takeI_some hg
    obtain ⟨v0_3, xs, rfl, hg⟩ := hg
    replace hg := takeI_some hg
    obtain ⟨v0_4, xs, rfl, hg⟩ := hg
    replace hg := takeI_some hg
    obtain ⟨v0_5, xs, rfl, hg⟩ := hg
    replace hg := takeI_some hg
    obtain ⟨v0_6, xs, rfl, hg⟩ := hg
    replace hg := takeI_some hg
    obtain ⟨v0_7, xs, rfl, hg⟩ := hg
    replace hg := takeI_some hg
    obtain ⟨v0_8, xs, rfl, hg⟩ := hg
    replace hg := takeI_some hg
    obtain ⟨v0_9, xs, rfl, hg⟩ := hg
    replace hg := takeI_some hg
    obtain ⟨v9, xs, rfl, hg⟩ := hg
    replace hg := takeE_some hg
    obtain ⟨rfl, hg⟩ := hg
    simp only [Option.some.injEq, Prod.mk.injEq] at hg
    obtain ⟨h1, rfl, rfl, rfl⟩ := hg
    rw [pat_wmom] at hb
    simp only [Option.some.injEq] at hb
    subst hb
    exact main_wmom _ _ _ _ _ _ _ _ _ _ _ h1
  · cases hg
set_option maxHeartbeats 0 in
theorem p18 : Prog Tryd.prog (Globs gl) k18 := Prog.addL (cfg := k17) (f := 8) (p := 62) (keep := keep_wmom) (kx := kx_wmom) (m := 1) (mv := sp_wmom.mv) (Q := P_wmom) (g := g_wmom) p17 Tryd.func8 (by kernel_rfl) code_wmom (by kernel_rfl) rfl (by decide) loop_wmom

theorem p19 : Prog Tryd.prog (Globs gl) k19 := p18.addLoop (.of Tryd.func8 (by kernel_rfl) (by kernel_rfl)) (fun x h => run_window_Moment x.1 x.2.1 x.2.2.1)

theorem p20 : Prog Tryd.prog (Globs gl) k20 := p19.addLoop (.of Tryd.func44 (by kernel_rfl) (by kernel_rfl)) (fun x h => run_greg_Weekday x.1 h)

theorem run_window_timed (a0 : Config) (a1 : Window) (a2 : Int) (a3 : Bool) : ∃ F d, run k20 F d 104 Tryd.f104 s_window_timed (a0, a1, a2, a3, ()) = some (r_window_timed.enc (timedG a0 a1 a2 a3)) := ⟨200, 6, by kernel_rfl⟩
theorem p21 : Prog Tryd.prog (Globs gl) k21 := p20.addLoop (.of Tryd.func104 (by kernel_rfl) (by kernel_rfl)) (fun x h => run_window_timed x.1 x.2.1 x.2.2.1 x.2.2.2.1)

theorem p22 : Prog Tryd.prog (Globs gl) k22 := p21.addLoop (.of Tryd.func51 (by kernel_rfl) (by kernel_rfl)) (fun x h => run_config_must x.1 x.2.1)

theorem p23 : Prog Tryd.prog (Globs gl) k23 := p22.addLoop (.of Tryd.func25 (by kernel_rfl) (by kernel_rfl)) (fun x h => run_config_Window x.1)

theorem p24 : Prog Tryd.prog (Globs gl) k24 := p23.addLoop (.of Tryd.func35 (by kernel_rfl) (by kernel_rfl)) (fun x h => run_config_size x.1)

set_option maxHeartbeats 0 in
theorem loop_stops : ∀ ls os xs l e s' s, bSt P_stops ls os xs = some s → g_stops ls os xs = some (true, l, e, s') → ∃ fuel d, runL k24 fuel d 36 58 { keep := keep_stops, m := 3, mv := sp_stops.mv } kx_stops c_stops s = some (altK Prod.mk l e s') := by
  intro ls os xs l e s' s hb hg
  unfold g_stops at hg
  split at hg
  · replace hg := takeI_some hg
    obtain ⟨v2_0, xs, rfl, hg⟩ := hg
    replace hg := takeI_some hg
    obtain ⟨v2_1, xs, rfl, hg⟩ := hg
    replace hg := takeI_some hg
    obtain ⟨v2_2, xs, rfl, hg⟩ := hg
    replace hg := takeI_some hg
    obtain ⟨v2_4, xs, rfl, hg⟩ := hg
    replace hg := takeI_some hg
    obtain ⟨v2_5, xs, rfl, hg⟩ := hg
    replace hg := takeI_some hg
    obtain ⟨v2_6, xs, rfl, hg⟩ := hg
    replace hg := takeI_some hg
    obtain ⟨v2_7, xs, rfl, hg⟩ := hg
    replace hg := takeI_some hg
    obtain ⟨v2_8, xs, rfl, hg⟩ := hg
    replace hg := takeI_some hg
    obtain ⟨v2_9, xs, rfl, hg⟩ := hg
    replace hg := takeI_some hg
    obtain ⟨v2_10, xs, rfl, hg⟩ := hg
    replace hg := takeI_some hg
    obtain ⟨v2_11, xs, rfl, hg⟩ := hg
    replace hg := takeI_some hg
    obtain ⟨v2_12, xs, rfl, hg⟩ := hg
    replace hg := takeI_some hg
    obtain ⟨v2_13, xs, rfl, hg⟩ := hg
    replace hg := takeI_some hg
    obtain ⟨v2_14, xs, rfl, hg⟩ := hg
    replace hg := takeI_some hg
    obtain ⟨v2_15, xs, rfl, hg⟩ := hg
    replace hg := takeI_some hg
    obtain ⟨v2_16, xs, rfl, hg⟩ := hg
    replace hg := takeI_some hg
    obtain ⟨v2_17, xs, rfl, hg⟩ := hg
    replace hg := takeI_some hg
    obtain ⟨v2_18, xs, rfl, hg⟩ := hg
    replace hg := takeI_some hg
    obtain ⟨v2_19, xs, rfl, hg⟩ := hg
    replace hg := takeI_some hg
    obtain ⟨v2_20, xs, rfl, hg⟩ := hg
    replace hg := takeI_some hg
    obtain ⟨v2_21, xs, rfl, hg⟩ := hg
    replace hg := takeI_some hg
    obtain ⟨v2_22, xs, rfl, hg⟩ := hg
    replace hg := takeI_some hg
    obtain ⟨v2_23, xs, rfl, hg⟩ := hg
    replace hg := takeI_some hg
    obtain ⟨v2_24, xs, rfl, hg⟩ := hg
    replace hg := takeI_some hg
    obtain ⟨v2_25, xs, rfl, hg⟩ := hg
    replace hg := takeI_some hg
    obtain ⟨v2_26, xs, rfl, hg⟩ := hg
    replace hg := takeI_some hg
    obtain ⟨v2_27, xs, rfl, hg⟩ := hg
    replace hg := takeI_some hg
    obtain ⟨v2_28, xs, rfl, hg⟩ := hg
    replace hg := takeI_some hg
    obtain ⟨v2_29, xs, rfl, hg⟩ := hg
    replace hg := takeI_some hg
    obtain ⟨v2_30, xs, rfl, hg⟩ := hg
    replace hg := takeI_some hg
    obtain ⟨v2_31, xs, rfl, hg⟩ := hg
    replace hg := takeI_some hg
    obtain ⟨v2_32, xs, rfl, hg⟩ := hg
    replace hg := takeI_some hg
    obtain ⟨v2_33, xs, rfl, hg⟩ := hg
    replace hg := takeI_some hg
    obtain ⟨v2_34, xs, rfl, hg⟩ := hg
    replace hg := takeB_some hg
    obtain ⟨v2_35, xs, rfl, hg⟩ := hg
    replace hg := takeB_some hg
    obtain ⟨v3, xs, rfl, hg⟩ := hg
    replace hg := takeI_some hg
    obtain ⟨v12, xs, rfl, hg⟩ := hg
    replace hg := takeI_some hg
    obtain ⟨v13, xs, rfl, hg⟩ := hg
    replace hg := takeE_some hg
    obtain ⟨rfl, hg⟩ := hg
    simp only [Option.some.injEq, Prod.mk.injEq] at hg
    obtain ⟨h1, rfl, rfl, rfl⟩ := hg
    rw [pat_stops] at hb
    simp only [Option.some.injEq] at hb
    subst hb
    exact main_stops _ _ _ _ _ _ _ _ _ _ _ _ _ _ _ _ _ _ _ _ _ _ _ _ _ _ _ _ _ _ _ _ _ _ _ _ _ _ _ _ h1
  · cases hg
set_option maxHeartbeats 0 in
theorem p25 : Prog Tryd.prog (Globs gl) k25 := Prog.addL (cfg := k24) (f := 36) (p := 58) (keep := keep_stops) (kx := kx_stops) (m := 3) (mv := sp_stops.mv) (Q := P_stops) (g := g_stops) p24 Tryd.func36 (by kernel_rfl) code_stops (by kernel_rfl) rfl (by decide) loop_stops

theorem p26 : Prog Tryd.prog (Globs gl) k26 := p25.addLoop (.of Tryd.func36 (by kernel_rfl) (by kernel_rfl)) (fun x h => run_config_stops x.1 h)

theorem p27 : Prog Tryd.prog (Globs gl) k27 := p26.addLoop (.of Tryd.func37 (by kernel_rfl) (by kernel_rfl)) (fun x h => run_config_times x.1)

theorem p28 : Prog Tryd.prog (Globs gl) k28 := p27.addLoop (.of Tryd.func40 (by kernel_rfl) (by kernel_rfl)) (fun x h => run_sunset_Check x.1)

set_option maxHeartbeats 0 in
theorem loop_wins : ∀ ls os xs l e s' s, bSt P_wins ls os xs = some s → g_wins ls os xs = some (true, l, e, s') → ∃ fuel d, runL k28 fuel d 66 26 { keep := keep_wins, m := 3, mv := sp_wins.mv } kx_wins c_wins s = some (altK Prod.mk l e s') := by
  intro ls os xs l e s' s hb hg
  unfold g_wins at hg
  split at hg
  · replace hg := takeI_some hg
    obtain ⟨v2_0, xs, rfl, hg⟩ := hg
    replace hg := takeI_some hg
    obtain ⟨v2_1, xs, rfl, hg⟩ := hg
    replace hg := takeI_some hg
    obtain ⟨v2_2, xs, rfl, hg⟩ := hg
    replace hg := takeI_some hg
    obtain ⟨v2_4, xs, rfl, hg⟩ := hg
    replace hg := takeI_some hg
    obtain ⟨v2_5, xs, rfl, hg⟩ := hg
    replace hg := takeI_some hg
    obtain ⟨v2_6, xs, rfl, hg⟩ := hg
    replace hg := takeI_some hg
    obtain ⟨v2_7, xs, rfl, hg⟩ := hg
    replace hg := takeI_some hg
    obtain ⟨v2_8, xs, rfl, hg⟩ := hg
    replace hg := takeI_some hg
    obtain ⟨v2_9, xs, rfl, hg⟩ := hg
    replace hg := takeI_some hg
    obtain ⟨v2_10, xs, rfl, hg⟩ := hg
    replace hg := takeI_some hg
    obtain ⟨v2_11, xs, rfl, hg⟩ := hg
    replace hg := takeI_some hg
    obtain ⟨v2_12, xs, rfl, hg⟩ := hg
    replace hg := takeI_some hg
    obtain ⟨v2_13, xs, rfl, hg⟩ := hg
    replace hg := takeI_some hg
    obtain ⟨v2_14, xs, rfl, hg⟩ := hg
    replace hg := takeI_some hg
    obtain ⟨v2_15, xs, rfl, hg⟩ := hg
    replace hg := takeI_some hg
    obtain ⟨v2_16, xs, rfl, hg⟩ := hg
    replace hg := takeI_some hg
    obtain ⟨v2_17, xs, rfl, hg⟩ := hg
    replace hg := takeI_some hg
    obtain ⟨v2_18, xs, rfl, hg⟩ := hg
    replace hg := takeI_some hg
    obtain ⟨v2_19, xs, rfl, hg⟩ := hg
    replace hg := takeI_some hg
    obtain ⟨v2_20, xs, rfl, hg⟩ := hg
    replace hg := takeI_some hg
    obtain ⟨v2_21, xs, rfl, hg⟩ := hg
    replace hg := takeI_some hg
    obtain ⟨v2_22, xs, rfl, hg⟩ := hg
    replace hg := takeI_some hg
    obtain ⟨v2_23, xs, rfl, hg⟩ := hg
    replace hg := takeI_some hg
    obtain ⟨v2_24, xs, rfl, hg⟩ := hg
    replace hg := takeI_some hg
    obtain ⟨v2_25, xs, rfl, hg⟩ := hg
    replace hg := takeI_some hg
    obtain ⟨v2_26, xs, rfl, hg⟩ := hg
    replace hg := takeI_some hg
    obtain ⟨v2_27, xs, rfl, hg⟩ := hg
    replace hg := takeI_some hg
    obtain ⟨v2_28, xs, rfl, hg⟩ := hg
    replace hg := takeI_some hg
    obtain ⟨v2_29, xs, rfl, hg⟩ := hg
    replace hg := takeI_some hg
    obtain ⟨v2_30, xs, rfl, hg⟩ := hg
    replace hg := takeI_some hg
    obtain ⟨v2_31, xs, rfl, hg⟩ := hg
    replace hg := takeI_some hg
    obtain ⟨v2_32, xs, rfl, hg⟩ := hg
    replace hg := takeI_some hg
    obtain ⟨v2_33, xs, rfl, hg⟩ := hg
    replace hg := takeI_some hg
    obtain ⟨v2_34, xs, rfl, hg⟩ := hg
    replace hg := takeB_some hg
    obtain ⟨v2_35, xs, rfl, hg⟩ := hg
    replace hg := takeI_some hg
    obtain ⟨v7, xs, rfl, hg⟩ := hg
    replace hg := takeI_some hg
    obtain ⟨v8, xs, rfl, hg⟩ := hg
    replace hg := takeE_some hg
    obtain ⟨rfl, hg⟩ := hg
    simp only [Option.some.injEq, Prod.mk.injEq] at hg
    obtain ⟨h1, rfl, rfl, rfl⟩ := hg
    rw [pat_wins] at hb
    simp only [Option.some.injEq] at hb
    subst hb
    exact main_wins _ _ _ _ _ _ _ _ _ _ _ _ _ _ _ _ _ _ _ _ _ _ _ _ _ _ _ _ _ _ _ _ _ _ _ _ _ _ _ h1
  · cases hg
set_option maxHeartbeats 0 in
theorem p29 : Prog Tryd.prog (Globs gl) k29 := Prog.addL (cfg := k28) (f := 66) (p := 26) (keep := keep_wins) (kx := kx_wins) (m := 3) (mv := sp_wins.mv) (Q := P_wins) (g := g_wins) p28 Tryd.func66 (by kernel_rfl) code_wins (by kernel_rfl) rfl (by decide) loop_wins

theorem p30 : Prog Tryd.prog (Globs gl) k30 := p29.addLoop (.of Tryd.func41 (by kernel_rfl) (by kernel_rfl)) (fun x h => run_config_windows x.1 h)

theorem p31 : Prog Tryd.prog (Globs gl) k31 := p30.addLoop (.of Tryd.func24 (by kernel_rfl) (by kernel_rfl)) (fun x h => run_config_Check x.1 h)

theorem p32 : Prog Tryd.prog (Globs gl) k32 := p31.addLoop (.of Tryd.func13 (by kernel_rfl) (by kernel_rfl)) (fun x h => run_newelref10_Few x.1)

theorem p33 : Prog Tryd.prog (Globs gl) k33 := p32.addH (.of Tryd.func15 (by kernel_rfl) (by kernel_rfl)) (fun x h => run_newellaw10_Own x.1 h)

theorem p34 : Prog Tryd.prog (Globs gl) k34 := p33.addLoop (.of Tryd.func71 (by kernel_rfl) (by kernel_rfl)) (fun x h => run_molad_Leap x.1 h)

theorem p35 : Prog Tryd.prog (Globs gl) k35 := p34.addLoop (.of Tryd.func85 (by kernel_rfl) (by kernel_rfl)) (fun x h => run_molad_year_months x.1 h)

theorem p36 : Prog Tryd.prog (Globs gl) k36 := p35.addLoop (.of Tryd.func78 (by kernel_rfl) (by kernel_rfl)) (fun x h => run_molad_year_moon x.1 h)

theorem p37 : Prog Tryd.prog (Globs gl) k37 := p36.addLoop (.of Tryd.func79 (by kernel_rfl) (by kernel_rfl)) (fun x h => run_molad_year_delay x.1 h)

theorem p38 : Prog Tryd.prog (Globs gl) k38 := p37.addLoop (.of Tryd.func68 (by kernel_rfl) (by kernel_rfl)) (fun x h => run_molad_year_first x.1 h)

theorem p39 : Prog Tryd.prog (Globs gl) k39 := p38.addLoop (.of Tryd.func69 (by kernel_rfl) (by kernel_rfl)) (fun x h => run_molad_year_length x.1 h)

theorem p40 : Prog Tryd.prog (Globs gl) k40 := p39.addLoop (.of Tryd.func55 (by kernel_rfl) (by kernel_rfl)) (fun x h => run_molad_NewYear x.1)

theorem p41 : Prog Tryd.prog (Globs gl) k41 := p40.addLoop (.of Tryd.func56 (by kernel_rfl) (by kernel_rfl)) (fun x h => run_molad_Len x.1)

theorem p42 : Prog Tryd.prog (Globs gl) k42 := p41.addLoop (.of Tryd.func58 (by kernel_rfl) (by kernel_rfl)) (fun x h => run_hebrew_Days x.1 x.2.1)

set_option maxHeartbeats 0 in
theorem loop_yh : ∀ ls os xs l e s' s, bSt P_yh ls os xs = some s → g_yh ls os xs = some (true, l, e, s') → ∃ fuel d, runL k42 fuel d 43 508 { keep := keep_yh, m := 3, mv := sp_yh.mv } kx_yh c_yh s = some (altK Prod.mk l e s') := by
  intro ls os xs l e s' s hb hg
  unfold g_yh at hg
  split at hg
  · replace hg := takeI_some hg
    obtain ⟨v0_0, xs, rfl, hg⟩ := hg
    replace hg := takeI_some hg
    obtain ⟨v1_0, xs, rfl, hg⟩ := hg
    replace hg := takeI_some hg
    obtain ⟨v1_1, xs, rfl, hg⟩ := hg
    replace hg := takeI_some hg
    obtain ⟨v1_2, xs, rfl, hg⟩ := hg
    replace hg := takeI_some hg
    obtain ⟨v2_0, xs, rfl, hg⟩ := hg
    replace hg := takeI_some hg
    obtain ⟨v3, xs, rfl, hg⟩ := hg
    replace hg := takeE_some hg
    obtain ⟨rfl, hg⟩ := hg
    simp only [Option.some.injEq, Prod.mk.injEq] at hg
    obtain ⟨h1, rfl, rfl, rfl⟩ := hg
    rw [pat_yh] at hb
    simp only [Option.some.injEq] at hb
    subst hb
    exact main_yh _ _ _ _ _ _ h1
  · cases hg
set_option maxHeartbeats 0 in
theorem p43 : Prog Tryd.prog (Globs gl) k43 := Prog.addL (cfg := k42) (f := 43) (p := 508) (keep := keep_yh) (kx := kx_yh) (m := 3) (mv := sp_yh.mv) (Q := P_yh) (g := g_yh) p42 Tryd.func43 (by kernel_rfl) code_yh (by kernel_rfl) rfl (by decide) loop_yh

set_option maxHeartbeats 0 in
theorem loop_hm : ∀ ls os xs l e s' s, bSt P_hm ls os xs = some s → g_hm ls os xs = some (true, l, e, s') → ∃ fuel d, runL k43 fuel d 70 6 { keep := keep_hm, m := 8, mv := sp_hm.mv } kx_hm c_hm s = some (altK Prod.mk l e s') := by
  intro ls os xs l e s' s hb hg
  unfold g_hm at hg
  split at hg
  · replace hg := takeI_some hg
    obtain ⟨v0_0, xs, rfl, hg⟩ := hg
    replace hg := takeI_some hg
    obtain ⟨v1_0, xs, rfl, hg⟩ := hg
    replace hg := takeI_some hg
    obtain ⟨v1_1, xs, rfl, hg⟩ := hg
    replace hg := takeI_some hg
    obtain ⟨v1_2, xs, rfl, hg⟩ := hg
    replace hg := takeI_some hg
    obtain ⟨v2_0, xs, rfl, hg⟩ := hg
    replace hg := takeI_some hg
    obtain ⟨v3_0, xs, rfl, hg⟩ := hg
    replace hg := takeI_some hg
    obtain ⟨v3_1, xs, rfl, hg⟩ := hg
    replace hg := takeI_some hg
    obtain ⟨v3_2, xs, rfl, hg⟩ := hg
    replace hg := takeI_some hg
    obtain ⟨v4_0, xs, rfl, hg⟩ := hg
    replace hg := takeI_some hg
    obtain ⟨v5_0, xs, rfl, hg⟩ := hg
    replace hg := takeI_some hg
    obtain ⟨v4, xs, rfl, hg⟩ := hg
    replace hg := takeE_some hg
    obtain ⟨rfl, hg⟩ := hg
    simp only [Option.some.injEq, Prod.mk.injEq] at hg
    obtain ⟨h1, rfl, rfl, rfl⟩ := hg
    rw [pat_hm] at hb
    simp only [Option.some.injEq] at hb
    subst hb
    exact main_hm _ _ _ _ _ _ _ _ _ _ _ h1
  · cases hg
set_option maxHeartbeats 0 in
theorem p44 : Prog Tryd.prog (Globs gl) k44 := Prog.addL (cfg := k43) (f := 70) (p := 6) (cx := 1) (keep := keep_hm) (kx := kx_hm) (m := 8) (mv := sp_hm.mv) (Q := P_hm) (g := g_hm) p43 Tryd.func70 (by kernel_rfl) code_hm (by kernel_rfl) rfl (by decide) loop_hm

theorem p45 : Prog Tryd.prog (Globs gl) k45 := p44.addLoop (.of Tryd.func43 (by kernel_rfl) (by kernel_rfl)) (fun x h => run_hebrew_Of x.1)

theorem p46 : Prog Tryd.prog (Globs gl) k46 := p45.add kind_con

theorem p47 : Prog Tryd.prog (Globs gl) k47 := p46.addLoop (.of Tryd.func27 (by kernel_rfl) (by kernel_rfl)) (fun x h => run_feast_Rest x.1 x.2.1)

set_option maxHeartbeats 0 in
theorem loop_runs : ∀ ls os xs l e s' s, bSt P_runs ls os xs = some s → g_runs ls os xs = some (true, l, e, s') → ∃ fuel d, runL k47 fuel d 28 28 { keep := keep_runs, m := 2, mv := sp_runs.mv } kx_runs c_runs s = some (altK Prod.mk l e s') := by
  intro ls os xs l e s' s hb hg
  unfold g_runs at hg
  split at hg
  · replace hg := takeI_some hg
    obtain ⟨v0_0, xs, rfl, hg⟩ := hg
    replace hg := takeB_some hg
    obtain ⟨v1_0, xs, rfl, hg⟩ := hg
    replace hg := takeI_some hg
    obtain ⟨v0, xs, rfl, hg⟩ := hg
    replace hg := takeI_some hg
    obtain ⟨v5, xs, rfl, hg⟩ := hg
    replace hg := takeE_some hg
    obtain ⟨rfl, hg⟩ := hg
    simp only [Option.some.injEq, Prod.mk.injEq] at hg
    obtain ⟨h1, rfl, rfl, rfl⟩ := hg
    rw [pat_runs] at hb
    simp only [Option.some.injEq] at hb
    subst hb
    exact main_runs _ _ _ _ h1
  · cases hg
set_option maxHeartbeats 0 in
theorem p48 : Prog Tryd.prog (Globs gl) k48 := Prog.addL (cfg := k47) (f := 28) (p := 28) (keep := keep_runs) (kx := kx_runs) (m := 2) (mv := sp_runs.mv) (Q := P_runs) (g := g_runs) p47 Tryd.func28 (by kernel_rfl) code_runs (by kernel_rfl) rfl (by decide) loop_runs

theorem p49 : Prog Tryd.prog (Globs gl) k49 := p48.addLoop (.of Tryd.func16 (by kernel_rfl) (by kernel_rfl)) (fun x h => run_feast_Run x.1 x.2.1)

theorem p50 : Prog Tryd.prog (Globs gl) k50 := p49.addLoop (.of Tryd.func107 (by kernel_rfl) (by kernel_rfl)) (fun x h => run_feast_Kind x.1 x.2.1)

theorem p51 : Prog Tryd.prog (Globs gl) k51 := p50.addLoop (.of Tryd.func110 (by kernel_rfl) (by kernel_rfl)) (fun x h => run_sunset_At x.1 x.2.1)

theorem p52 : Prog Tryd.prog (Globs gl) k52 := p51.addLoop (.of Tryd.func109 (by kernel_rfl) (by kernel_rfl)) (fun x h => run_sunset_Moment x.1 x.2.1 x.2.2.1)

theorem p53 : Prog Tryd.prog (Globs gl) k53 := p52.addLoop (.of Tryd.func103 (by kernel_rfl) (by kernel_rfl)) (fun x h => run_window_weekly_open x.1 x.2.1 x.2.2.1 x.2.2.2.1 h)

theorem p54 : Prog Tryd.prog (Globs gl) k54 := p53.addLoop (.of Tryd.func105 (by kernel_rfl) (by kernel_rfl)) (fun x h => run_window_dated_open x.1 x.2.1 x.2.2.1 x.2.2.2.1 h)

theorem p55 : Prog Tryd.prog (Globs gl) k55 := p54.addLoop (.of Tryd.func106 (by kernel_rfl) (by kernel_rfl)) (fun x h => run_window_yearly_open x.1 x.2.1 x.2.2.1 x.2.2.2.1 h)

theorem p56 : Prog Tryd.prog (Globs gl) k56 := p55.addLoop (.of Tryd.func108 (by kernel_rfl) (by kernel_rfl)) (fun x h => run_window_resting_open x.1 x.2.1 x.2.2.1 x.2.2.2.1 h)

theorem p57 : Prog Tryd.prog (Globs gl) k57 := p56.addLoop (.of Tryd.func26 (by kernel_rfl) (by kernel_rfl)) (fun x h => run_of1 x.1 h)

theorem p58 : Prog Tryd.prog (Globs gl) k58 := p57.addLoop (.of Tryd.func26 (by kernel_rfl) (by kernel_rfl)) (fun x h => run_of2 x.1 h)

theorem p59 : Prog Tryd.prog (Globs gl) k59 := p58.addLoop (.of Tryd.func26 (by kernel_rfl) (by kernel_rfl)) (fun x h => run_of3 x.1 h)

theorem p60 : Prog Tryd.prog (Globs gl) k60 := p59.addLoop (.of Tryd.func26 (by kernel_rfl) (by kernel_rfl)) (fun x h => run_of4 x.1 h)

theorem p61 : Prog Tryd.prog (Globs gl) k61 := p60.add (of_sel (eAt_ok p57 ⟨_, rfl⟩) (eAt_ok p58 ⟨_, rfl⟩) (eAt_ok p59 ⟨_, rfl⟩) (eAt_ok p60 ⟨_, rfl⟩))

theorem p62 : Prog Tryd.prog (Globs gl) k62 := p61.addLoop (.of Tryd.func14 (by kernel_rfl) (by kernel_rfl)) (fun x h => run_window_Span x.1 x.2.1 x.2.2.1 h)

theorem run_newellaw14_awake : ∃ F d, run k62 F d 11 Tryd.f11 s_newellaw14_awake (()) = some (r_newellaw14_awake.enc (true)) := ⟨200, 6, by kernel_rfl⟩
theorem p63 : Prog Tryd.prog (Globs gl) k63 := p62.addLoop (.of Tryd.func11 (by kernel_rfl) (by kernel_rfl)) (fun x h => run_newellaw14_awake )

theorem law_newellaw14_WindowLong : ∀ x, s_newellaw14_WindowLong.wf x → ∃ fuel d, run k63 fuel d 4 Tryd.f4 s_newellaw14_WindowLong x = some (.bool true) := fun x hx => run_newellaw14_WindowLong x.1 x.2.1 x.2.2.1
theorem p64 : Prog Tryd.prog (Globs gl) k64 := p63

set_option maxHeartbeats 0 in
theorem loop_noon : ∀ ls os xs l e s' s, bSt P_noon ls os xs = some s → g_noon ls os xs = some (true, l, e, s') → ∃ fuel d, runL k64 fuel d 5 8186 { keep := keep_noon, m := 7, mv := sp_noon.mv } kx_noon c_noon s = some (altK Prod.mk l e s') := by
  intro ls os xs l e s' s hb hg
  unfold g_noon at hg
  split at hg
  · replace hg := takeI_some hg
    obtain ⟨v2_0, xs, rfl, hg⟩ := hg
    replace hg := takeI_some hg
    obtain ⟨v2_1, xs, rfl, hg⟩ := hg
    replace hg := takeI_some hg
    obtain ⟨v2_2, xs, rfl, hg⟩ := hg
    replace hg := takeI_some hg
    obtain ⟨v2_4, xs, rfl, hg⟩ := hg
    replace hg := takeI_some hg
    obtain ⟨v2_5, xs, rfl, hg⟩ := hg
    replace hg := takeI_some hg
    obtain ⟨v2_6, xs, rfl, hg⟩ := hg
    replace hg := takeI_some hg
    obtain ⟨v2_7, xs, rfl, hg⟩ := hg
    replace hg := takeI_some hg
    obtain ⟨v2_8, xs, rfl, hg⟩ := hg
    replace hg := takeI_some hg
    obtain ⟨v2_9, xs, rfl, hg⟩ := hg
    replace hg := takeI_some hg
    obtain ⟨v2_10, xs, rfl, hg⟩ := hg
    replace hg := takeI_some hg
    obtain ⟨v2_11, xs, rfl, hg⟩ := hg
    replace hg := takeI_some hg
    obtain ⟨v2_12, xs, rfl, hg⟩ := hg
    replace hg := takeI_some hg
    obtain ⟨v2_13, xs, rfl, hg⟩ := hg
    replace hg := takeI_some hg
    obtain ⟨v2_14, xs, rfl, hg⟩ := hg
    replace hg := takeI_some hg
    obtain ⟨v2_15, xs, rfl, hg⟩ := hg
    replace hg := takeI_some hg
    obtain ⟨v2_16, xs, rfl, hg⟩ := hg
    replace hg := takeI_some hg
    obtain ⟨v2_17, xs, rfl, hg⟩ := hg
    replace hg := takeI_some hg
    obtain ⟨v2_18, xs, rfl, hg⟩ := hg
    replace hg := takeI_some hg
    obtain ⟨v2_19, xs, rfl, hg⟩ := hg
    replace hg := takeI_some hg
    obtain ⟨v2_20, xs, rfl, hg⟩ := hg
    replace hg := takeI_some hg
    obtain ⟨v2_21, xs, rfl, hg⟩ := hg
    replace hg := takeI_some hg
    obtain ⟨v2_22, xs, rfl, hg⟩ := hg
    replace hg := takeI_some hg
    obtain ⟨v2_23, xs, rfl, hg⟩ := hg
    replace hg := takeI_some hg
    obtain ⟨v2_24, xs, rfl, hg⟩ := hg
    replace hg := takeI_some hg
    obtain ⟨v2_25, xs, rfl, hg⟩ := hg
    replace hg := takeI_some hg
    obtain ⟨v2_26, xs, rfl, hg⟩ := hg
    replace hg := takeI_some hg
    obtain ⟨v2_27, xs, rfl, hg⟩ := hg
    replace hg := takeI_some hg
    obtain ⟨v2_28, xs, rfl, hg⟩ := hg
    replace hg := takeI_some hg
    obtain ⟨v2_29, xs, rfl, hg⟩ := hg
    replace hg := takeI_some hg
    obtain ⟨v2_30, xs, rfl, hg⟩ := hg
    replace hg := takeI_some hg
    obtain ⟨v2_31, xs, rfl, hg⟩ := hg
    replace hg := takeI_some hg
    obtain ⟨v2_32, xs, rfl, hg⟩ := hg
    replace hg := takeI_some hg
    obtain ⟨v2_33, xs, rfl, hg⟩ := hg
    replace hg := takeI_some hg
    obtain ⟨v2_34, xs, rfl, hg⟩ := hg
    replace hg := takeB_some hg
    obtain ⟨v2_35, xs, rfl, hg⟩ := hg
    replace hg := takeI_some hg
    obtain ⟨v3_0, xs, rfl, hg⟩ := hg
    replace hg := takeI_some hg
    obtain ⟨v3_1, xs, rfl, hg⟩ := hg
    replace hg := takeI_some hg
    obtain ⟨v3_2, xs, rfl, hg⟩ := hg
    replace hg := takeI_some hg
    obtain ⟨v3_3, xs, rfl, hg⟩ := hg
    replace hg := takeI_some hg
    obtain ⟨v3_4, xs, rfl, hg⟩ := hg
    replace hg := takeI_some hg
    obtain ⟨v3_5, xs, rfl, hg⟩ := hg
    replace hg := takeI_some hg
    obtain ⟨v3_6, xs, rfl, hg⟩ := hg
    replace hg := takeI_some hg
    obtain ⟨v6_0, xs, rfl, hg⟩ := hg
    replace hg := takeI_some hg
    obtain ⟨v6_1, xs, rfl, hg⟩ := hg
    replace hg := takeI_some hg
    obtain ⟨v6_2, xs, rfl, hg⟩ := hg
    replace hg := takeI_some hg
    obtain ⟨v6_3, xs, rfl, hg⟩ := hg
    replace hg := takeI_some hg
    obtain ⟨v11, xs, rfl, hg⟩ := hg
    replace hg := takeI_some hg
    obtain ⟨v13, xs, rfl, hg⟩ := hg
    replace hg := takeI_some hg
    obtain ⟨v14, xs, rfl, hg⟩ := hg
    replace hg := takeE_some hg
    obtain ⟨rfl, hg⟩ := hg
    simp only [Option.some.injEq, Prod.mk.injEq] at hg
    obtain ⟨h1, rfl, rfl, rfl⟩ := hg
    rw [pat_noon] at hb
    simp only [Option.some.injEq] at hb
    subst hb
    exact main_noon _ _ _ _ _ _ _ _ _ _ _ _ _ _ _ _ _ _ _ _ _ _ _ _ _ _ _ _ _ _ _ _ _ _ _ _ _ _ _ _ _ _ _ _ _ _ _ _ _ _ _ _ _ h1
  · cases hg
set_option maxHeartbeats 0 in
theorem p65 : Prog Tryd.prog (Globs gl) k65 := Prog.addL (cfg := k64) (f := 5) (p := 8186) (keep := keep_noon) (kx := kx_noon) (m := 7) (mv := sp_noon.mv) (Q := P_noon) (g := g_noon) p64 Tryd.func5 (by kernel_rfl) code_noon (by kernel_rfl) rfl (by decide) loop_noon

theorem law_newellaw14_WindowRests : ∀ x, s_newellaw14_WindowRests.wf x → ∃ fuel d, run k65 fuel d 5 Tryd.f5 s_newellaw14_WindowRests x = some (.bool true) := fun x hx => run_newellaw14_WindowRests x.1 x.2.1 x.2.2.1
theorem p66 : Prog Tryd.prog (Globs gl) k66 := p65

theorem law_newellaw14_WindowApart : ∀ x, s_newellaw14_WindowApart.wf x → ∃ fuel d, run k66 fuel d 6 Tryd.f6 s_newellaw14_WindowApart x = some (.bool true) := fun x hx => run_newellaw14_WindowApart x.1
theorem p67 : Prog Tryd.prog (Globs gl) k67 := p66

end Go.Proofs.YtgfinnhojeghhaaDoor.Px.PxX
