/- A seat's functions are what their contracts say. -/
import Derived.Test.YtdpdmjjpdebpeaaGreatPxRSteps
import Derived.Test.YtdpdmjjpdebpeaaGreatPxRAuto
import Derived.Test.YtdpdmjjpdebpeaaGreatPxRProofs
import Derived.Test.YtdpdmjjpdebpeaaGreatPxRProofs2
import Derived.Test.YtdpdmjjpdebpeaaGreatPxRProofs3
import Derived.Test.YtdpdmjjpdebpeaaGreatPxRProofs4
import Derived.Test.YtdpdmjjpdebpeaaGreatPxRProofs5
import Derived.Test.YtdpdmjjpdebpeaaGreatPxRProofs6
import Derived.Test.YtdpdmjjpdebpeaaGreatPxRLAutoSteps
set_option linter.unusedVariables false
set_option linter.unusedSimpArgs false
namespace Go.Proofs.YtdpdmjjpdebpeaaGreat.Px.PxR
open Go Go.Proofs

theorem run_config_within (a0 : Int) (a1 : Int) (a2 : Int) : ∃ F d, run k0 F d 82 Tryz.f82 s_config_within (a0, a1, a2, ()) = some (r_config_within.enc (inB a0 a1 a2)) := ⟨200, 6, by kernel_rfl⟩
theorem p1 : Prog Tryz.prog (fun _ => True) k1 := p0.addLoop (.of Tryz.func82 (by kernel_rfl) (by kernel_rfl)) (fun x h => run_config_within x.1 x.2.1 x.2.2.1)

theorem run_zone_within (a0 : Int) (a1 : Int) (a2 : Int) : ∃ F d, run k1 F d 84 Tryz.f84 s_zone_within (a0, a1, a2, ()) = some (r_zone_within.enc (inB a0 a1 a2)) := ⟨200, 6, by kernel_rfl⟩
theorem p2 : Prog Tryz.prog (fun _ => True) k2 := p1.addLoop (.of Tryz.func84 (by kernel_rfl) (by kernel_rfl)) (fun x h => run_zone_within x.1 x.2.1 x.2.2.1)

theorem p3 : Prog Tryz.prog (fun _ => True) k3 := p2.addLoop (.of Tryz.func81 (by kernel_rfl) (by kernel_rfl)) (fun x h => run_config_must x.1 x.2.1)

theorem p4 : Prog Tryz.prog (fun _ => True) k4 := p3.addLoop (.of Tryz.func88 (by kernel_rfl) (by kernel_rfl)) (fun x h => run_config_Window x.1)

theorem p5 : Prog Tryz.prog (fun _ => True) k5 := p4.addLoop (.of Tryz.func54 (by kernel_rfl) (by kernel_rfl)) (fun x h => run_config_size x.1)

set_option maxHeartbeats 0 in
theorem loop_stops : ∀ ls os xs l e s' s, bSt P_stops ls os xs = some s → g_stops ls os xs = some (true, l, e, s') → ∃ fuel d, runL k5 fuel d 55 58 { keep := keep_stops, m := 3, mv := sp_stops.mv } kx_stops c_stops s = some (altK Prod.mk l e s') := by
  intro ls os xs l e s' s hb hg
  unfold g_stops at hg
  split at hg
  · replace hg := takeI_some hg
    obtain ⟨v2_0, xs, rfl, hg⟩ := hg
    replace hg := takeI_some hg
    obtain ⟨v2_1, xs, rfl, hg⟩ := hg
    replace hg := takeI_some hg
    obtain ⟨v2_2, xs, rfl, hg⟩ := hg
    replace hg := takeI_some hg
    obtain ⟨v2_4, xs, rfl, hg⟩ := hg
    replace hg := takeI_some hg
    obtain ⟨v2_5, xs, rfl, hg⟩ := hg
    replace hg := takeI_some hg
    obtain ⟨v2_6, xs, rfl, hg⟩ := hg
    replace hg := takeI_some hg
    obtain ⟨v2_7, xs, rfl, hg⟩ := hg
    replace hg := takeI_some hg
    obtain ⟨v2_8, xs, rfl, hg⟩ := hg
    replace hg := takeI_some hg
    obtain ⟨v2_9, xs, rfl, hg⟩ := hg
    replace hg := takeI_some hg
    obtain ⟨v2_10, xs, rfl, hg⟩ := hg
    replace hg := takeI_some hg
    obtain ⟨v2_11, xs, rfl, hg⟩ := hg
    replace hg := takeI_some hg
    obtain ⟨v2_12, xs, rfl, hg⟩ := hg
    replace hg := takeI_some hg
    obtain ⟨v2_13, xs, rfl, hg⟩ := hg
    replace hg := takeI_some hg
    obtain ⟨v2_14, xs, rfl, hg⟩ := hg
    replace hg := takeI_some hg
    obtain ⟨v2_15, xs, rfl, hg⟩ := hg
    replace hg := takeI_some hg
    obtain ⟨v2_16, xs, rfl, hg⟩ := hg
    replace hg := takeI_some hg
    obtain ⟨v2_17, xs, rfl, hg⟩ := hg
    replace hg := takeI_some hg
    obtain ⟨v2_18, xs, rfl, hg⟩ := hg
    replace hg := takeI_some hg
    obtain ⟨v2_19, xs, rfl, hg⟩ := hg
    replace hg := takeI_some hg
    obtain ⟨v2_20, xs, rfl, hg⟩ := hg
    replace hg := takeI_some hg
    obtain ⟨v2_21, xs, rfl, hg⟩ := hg
    replace hg := takeI_some hg
    obtain ⟨v2_22, xs, rfl, hg⟩ := hg
    replace hg := takeI_some hg
    obtain ⟨v2_23, xs, rfl, hg⟩ := hg
    replace hg := takeI_some hg
    obtain ⟨v2_24, xs, rfl, hg⟩ := hg
    replace hg := takeI_some hg
    obtain ⟨v2_25, xs, rfl, hg⟩ := hg
    replace hg := takeI_some hg
    obtain ⟨v2_26, xs, rfl, hg⟩ := hg
    replace hg := takeI_some hg
    obtain ⟨v2_27, xs, rfl, hg⟩ := hg
    replace hg := takeI_some hg
    obtain ⟨v2_28, xs, rfl, hg⟩ := hg
    replace hg := takeI_some hg
    obtain ⟨v2_29, xs, rfl, hg⟩ := hg
    replace hg := takeI_some hg
    obtain ⟨v2_30, xs, rfl, hg⟩ := hg
    replace hg := takeI_some hg
    obtain ⟨v2_31, xs, rfl, hg⟩ := hg
    replace hg := takeI_some hg
    obtain ⟨v2_32, xs, rfl, hg⟩ := hg
    replace hg := takeI_some hg
    obtain ⟨v2_33, xs, rfl, hg⟩ := hg
    replace hg := takeI_some hg
    obtain ⟨v2_34, xs, rfl, hg⟩ := hg
    replace hg := takeB_some hg
    obtain ⟨v2_35, xs, rfl, hg⟩ := hg
    replace hg := takeB_some hg
    obtain ⟨v3, xs, rfl, hg⟩ := hg
    replace hg := takeI_some hg
    obtain ⟨v12, xs, rfl, hg⟩ := hg
    replace hg := takeI_some hg
    obtain ⟨v13, xs, rfl, hg⟩ := hg
    replace hg := takeE_some hg
    obtain ⟨rfl, hg⟩ := hg
    simp only [Option.some.injEq, Prod.mk.injEq] at hg
    obtain ⟨h1, rfl, rfl, rfl⟩ := hg
    rw [pat_stops] at hb
    simp only [Option.some.injEq] at hb
    subst hb
    exact main_stops _ _ _ _ _ _ _ _ _ _ _ _ _ _ _ _ _ _ _ _ _ _ _ _ _ _ _ _ _ _ _ _ _ _ _ _ _ _ _ _ h1
  · cases hg
set_option maxHeartbeats 0 in
theorem p6 : Prog Tryz.prog (fun _ => True) k6 := Prog.addL (cfg := k5) (f := 55) (p := 58) (keep := keep_stops) (kx := kx_stops) (m := 3) (mv := sp_stops.mv) (Q := P_stops) (g := g_stops) p5 Tryz.func55 (by kernel_rfl) code_stops (by kernel_rfl) rfl (by decide) loop_stops

theorem p7 : Prog Tryz.prog (fun _ => True) k7 := p6.addLoop (.of Tryz.func55 (by kernel_rfl) (by kernel_rfl)) (fun x h => run_config_stops x.1 h)

theorem p8 : Prog Tryz.prog (fun _ => True) k8 := p7.addLoop (.of Tryz.func56 (by kernel_rfl) (by kernel_rfl)) (fun x h => run_config_times x.1)

theorem p9 : Prog Tryz.prog (fun _ => True) k9 := p8.addLoop (.of Tryz.func58 (by kernel_rfl) (by kernel_rfl)) (fun x h => run_zone_Check x.1)

theorem p10 : Prog Tryz.prog (fun _ => True) k10 := p9.addLoop (.of Tryz.func60 (by kernel_rfl) (by kernel_rfl)) (fun x h => run_sunset_Check x.1)

set_option maxHeartbeats 0 in
theorem loop_wins : ∀ ls os xs l e s' s, bSt P_wins ls os xs = some s → g_wins ls os xs = some (true, l, e, s') → ∃ fuel d, runL k10 fuel d 99 26 { keep := keep_wins, m := 3, mv := sp_wins.mv } kx_wins c_wins s = some (altK Prod.mk l e s') := by
  intro ls os xs l e s' s hb hg
  unfold g_wins at hg
  split at hg
  · replace hg := takeI_some hg
    obtain ⟨v2_0, xs, rfl, hg⟩ := hg
    replace hg := takeI_some hg
    obtain ⟨v2_1, xs, rfl, hg⟩ := hg
    replace hg := takeI_some hg
    obtain ⟨v2_2, xs, rfl, hg⟩ := hg
    replace hg := takeI_some hg
    obtain ⟨v2_4, xs, rfl, hg⟩ := hg
    replace hg := takeI_some hg
    obtain ⟨v2_5, xs, rfl, hg⟩ := hg
    replace hg := takeI_some hg
    obtain ⟨v2_6, xs, rfl, hg⟩ := hg
    replace hg := takeI_some hg
    obtain ⟨v2_7, xs, rfl, hg⟩ := hg
    replace hg := takeI_some hg
    obtain ⟨v2_8, xs, rfl, hg⟩ := hg
    replace hg := takeI_some hg
    obtain ⟨v2_9, xs, rfl, hg⟩ := hg
    replace hg := takeI_some hg
    obtain ⟨v2_10, xs, rfl, hg⟩ := hg
    replace hg := takeI_some hg
    obtain ⟨v2_11, xs, rfl, hg⟩ := hg
    replace hg := takeI_some hg
    obtain ⟨v2_12, xs, rfl, hg⟩ := hg
    replace hg := takeI_some hg
    obtain ⟨v2_13, xs, rfl, hg⟩ := hg
    replace hg := takeI_some hg
    obtain ⟨v2_14, xs, rfl, hg⟩ := hg
    replace hg := takeI_some hg
    obtain ⟨v2_15, xs, rfl, hg⟩ := hg
    replace hg := takeI_some hg
    obtain ⟨v2_16, xs, rfl, hg⟩ := hg
    replace hg := takeI_some hg
    obtain ⟨v2_17, xs, rfl, hg⟩ := hg
    replace hg := takeI_some hg
    obtain ⟨v2_18, xs, rfl, hg⟩ := hg
    replace hg := takeI_some hg
    obtain ⟨v2_19, xs, rfl, hg⟩ := hg
    replace hg := takeI_some hg
    obtain ⟨v2_20, xs, rfl, hg⟩ := hg
    replace hg := takeI_some hg
    obtain ⟨v2_21, xs, rfl, hg⟩ := hg
    replace hg := takeI_some hg
    obtain ⟨v2_22, xs, rfl, hg⟩ := hg
    replace hg := takeI_some hg
    obtain ⟨v2_23, xs, rfl, hg⟩ := hg
    replace hg := takeI_some hg
    obtain ⟨v2_24, xs, rfl, hg⟩ := hg
    replace hg := takeI_some hg
    obtain ⟨v2_25, xs, rfl, hg⟩ := hg
    replace hg := takeI_some hg
    obtain ⟨v2_26, xs, rfl, hg⟩ := hg
    replace hg := takeI_some hg
    obtain ⟨v2_27, xs, rfl, hg⟩ := hg
    replace hg := takeI_some hg
    obtain ⟨v2_28, xs, rfl, hg⟩ := hg
    replace hg := takeI_some hg
    obtain ⟨v2_29, xs, rfl, hg⟩ := hg
    replace hg := takeI_some hg
    obtain ⟨v2_30, xs, rfl, hg⟩ := hg
    replace hg := takeI_some hg
    obtain ⟨v2_31, xs, rfl, hg⟩ := hg
    replace hg := takeI_some hg
    obtain ⟨v2_32, xs, rfl, hg⟩ := hg
    replace hg := takeI_some hg
    obtain ⟨v2_33, xs, rfl, hg⟩ := hg
    replace hg := takeI_some hg
    obtain ⟨v2_34, xs, rfl, hg⟩ := hg
    replace hg := takeB_some hg
    obtain ⟨v2_35, xs, rfl, hg⟩ := hg
    replace hg := takeI_some hg
    obtain ⟨v7, xs, rfl, hg⟩ := hg
    replace hg := takeI_some hg
    obtain ⟨v8, xs, rfl, hg⟩ := hg
    replace hg := takeE_some hg
    obtain ⟨rfl, hg⟩ := hg
    simp only [Option.some.injEq, Prod.mk.injEq] at hg
    obtain ⟨h1, rfl, rfl, rfl⟩ := hg
    rw [pat_wins] at hb
    simp only [Option.some.injEq] at hb
    subst hb
    exact main_wins _ _ _ _ _ _ _ _ _ _ _ _ _ _ _ _ _ _ _ _ _ _ _ _ _ _ _ _ _ _ _ _ _ _ _ _ _ _ _ h1
  · cases hg
set_option maxHeartbeats 0 in
theorem p11 : Prog Tryz.prog (fun _ => True) k11 := Prog.addL (cfg := k10) (f := 99) (p := 26) (keep := keep_wins) (kx := kx_wins) (m := 3) (mv := sp_wins.mv) (Q := P_wins) (g := g_wins) p10 Tryz.func99 (by kernel_rfl) code_wins (by kernel_rfl) rfl (by decide) loop_wins

theorem p12 : Prog Tryz.prog (fun _ => True) k12 := p11.addLoop (.of Tryz.func61 (by kernel_rfl) (by kernel_rfl)) (fun x h => run_config_windows x.1 h)

theorem p13 : Prog Tryz.prog (fun _ => True) k13 := p12.addLoop (.of Tryz.func29 (by kernel_rfl) (by kernel_rfl)) (fun x h => run_config_Check x.1 h)

theorem p14 : Prog Tryz.prog (fun _ => True) k14 := p13.addLoop (.of Tryz.func4 (by kernel_rfl) (by kernel_rfl)) (fun x h => run_newelref10_Few x.1)

theorem p15 : Prog Tryz.prog (fun _ => True) k15 := p14.addH (.of Tryz.func19 (by kernel_rfl) (by kernel_rfl)) (fun x h => run_newellaw10_Own x.1 h)

theorem p16 : Prog Tryz.prog (fun _ => True) k16 := p15.addLoop (.of Tryz.func74 (by kernel_rfl) (by kernel_rfl)) (fun x h => run_newelref10_timed x.1)

theorem p17 : Prog Tryz.prog (fun _ => True) k17 := p16.addLoop (.of Tryz.func72 (by kernel_rfl) (by kernel_rfl)) (fun x h => run_newelref10_tick x.1)

theorem p18 : Prog Tryz.prog (fun _ => True) k18 := p17.addLoop (.of Tryz.func73 (by kernel_rfl) (by kernel_rfl)) (fun x h => run_newelref06_turn x.1)

theorem p19 : Prog Tryz.prog (fun _ => True) k19 := p18.addLoop (.of Tryz.func45 (by kernel_rfl) (by kernel_rfl)) (fun x h => run_newelref10_Window x.1)

theorem p20 : Prog Tryz.prog (fun _ => True) k20 := p19.addLoop (.of Tryz.func43 (by kernel_rfl) (by kernel_rfl)) (fun x h => run_newelref06_Check x.1)

theorem p21 : Prog Tryz.prog (fun _ => True) k21 := p20.addLoop (.of Tryz.func44 (by kernel_rfl) (by kernel_rfl)) (fun x h => run_newelref07_Check x.1)

theorem p22 : Prog Tryz.prog (fun _ => True) k22 := p21.addLoop (.of Tryz.func42 (by kernel_rfl) (by kernel_rfl)) (fun x h => run_newelref10_times x.1)

set_option maxHeartbeats 0 in
theorem loop_rstops : ∀ ls os xs l e s' s, bSt P_rstops ls os xs = some s → g_rstops ls os xs = some (true, l, e, s') → ∃ fuel d, runL k22 fuel d 41 26 { keep := keep_rstops, m := 3, mv := sp_rstops.mv } kx_rstops c_rstops s = some (altK Prod.mk l e s') := by
  intro ls os xs l e s' s hb hg
  unfold g_rstops at hg
  split at hg
  · replace hg := takeI_some hg
    obtain ⟨v2_0, xs, rfl, hg⟩ := hg
    replace hg := takeI_some hg
    obtain ⟨v2_1, xs, rfl, hg⟩ := hg
    replace hg := takeI_some hg
    obtain ⟨v2_2, xs, rfl, hg⟩ := hg
    replace hg := takeI_some hg
    obtain ⟨v2_4, xs, rfl, hg⟩ := hg
    replace hg := takeI_some hg
    obtain ⟨v2_5, xs, rfl, hg⟩ := hg
    replace hg := takeI_some hg
    obtain ⟨v2_6, xs, rfl, hg⟩ := hg
    replace hg := takeI_some hg
    obtain ⟨v2_7, xs, rfl, hg⟩ := hg
    replace hg := takeI_some hg
    obtain ⟨v2_8, xs, rfl, hg⟩ := hg
    replace hg := takeI_some hg
    obtain ⟨v2_9, xs, rfl, hg⟩ := hg
    replace hg := takeI_some hg
    obtain ⟨v2_10, xs, rfl, hg⟩ := hg
    replace hg := takeI_some hg
    obtain ⟨v2_11, xs, rfl, hg⟩ := hg
    replace hg := takeI_some hg
    obtain ⟨v2_12, xs, rfl, hg⟩ := hg
    replace hg := takeI_some hg
    obtain ⟨v2_13, xs, rfl, hg⟩ := hg
    replace hg := takeI_some hg
    obtain ⟨v2_14, xs, rfl, hg⟩ := hg
    replace hg := takeI_some hg
    obtain ⟨v2_15, xs, rfl, hg⟩ := hg
    replace hg := takeI_some hg
    obtain ⟨v2_16, xs, rfl, hg⟩ := hg
    replace hg := takeI_some hg
    obtain ⟨v2_17, xs, rfl, hg⟩ := hg
    replace hg := takeI_some hg
    obtain ⟨v2_18, xs, rfl, hg⟩ := hg
    replace hg := takeI_some hg
    obtain ⟨v2_19, xs, rfl, hg⟩ := hg
    replace hg := takeI_some hg
    obtain ⟨v2_20, xs, rfl, hg⟩ := hg
    replace hg := takeI_some hg
    obtain ⟨v2_21, xs, rfl, hg⟩ := hg
    replace hg := takeI_some hg
    obtain ⟨v2_22, xs, rfl, hg⟩ := hg
    replace hg := takeI_some hg
    obtain ⟨v2_23, xs, rfl, hg⟩ := hg
    replace hg := takeI_some hg
    obtain ⟨v2_24, xs, rfl, hg⟩ := hg
    replace hg := takeI_some hg
    obtain ⟨v2_25, xs, rfl, hg⟩ := hg
    replace hg := takeI_some hg
    obtain ⟨v2_26, xs, rfl, hg⟩ := hg
    replace hg := takeI_some hg
    obtain ⟨v2_27, xs, rfl, hg⟩ := hg
    replace hg := takeI_some hg
    obtain ⟨v2_28, xs, rfl, hg⟩ := hg
    replace hg := takeI_some hg
    obtain ⟨v2_29, xs, rfl, hg⟩ := hg
    replace hg := takeI_some hg
    obtain ⟨v2_30, xs, rfl, hg⟩ := hg
    replace hg := takeI_some hg
    obtain ⟨v2_31, xs, rfl, hg⟩ := hg
    replace hg := takeI_some hg
    obtain ⟨v2_32, xs, rfl, hg⟩ := hg
    replace hg := takeI_some hg
    obtain ⟨v2_33, xs, rfl, hg⟩ := hg
    replace hg := takeI_some hg
    obtain ⟨v2_34, xs, rfl, hg⟩ := hg
    replace hg := takeB_some hg
    obtain ⟨v2_35, xs, rfl, hg⟩ := hg
    replace hg := takeI_some hg
    obtain ⟨v3, xs, rfl, hg⟩ := hg
    replace hg := takeE_some hg
    obtain ⟨rfl, hg⟩ := hg
    simp only [Option.some.injEq, Prod.mk.injEq] at hg
    obtain ⟨h1, rfl, rfl, rfl⟩ := hg
    rw [pat_rstops] at hb
    simp only [Option.some.injEq] at hb
    subst hb
    exact main_rstops _ _ _ _ _ _ _ _ _ _ _ _ _ _ _ _ _ _ _ _ _ _ _ _ _ _ _ _ _ _ _ _ _ _ _ _ _ _ h1
  · cases hg
set_option maxHeartbeats 0 in
theorem p23 : Prog Tryz.prog (fun _ => True) k23 := Prog.addL (cfg := k22) (f := 41) (p := 26) (keep := keep_rstops) (kx := kx_rstops) (m := 3) (mv := sp_rstops.mv) (Q := P_rstops) (g := g_rstops) p22 Tryz.func41 (by kernel_rfl) code_rstops (by kernel_rfl) rfl (by decide) loop_rstops

theorem p24 : Prog Tryz.prog (fun _ => True) k24 := p23.addLoop (.of Tryz.func41 (by kernel_rfl) (by kernel_rfl)) (fun x h => run_newelref10_stops x.1 h)

set_option maxHeartbeats 0 in
theorem loop_rwins : ∀ ls os xs l e s' s, bSt P_rwins ls os xs = some s → g_rwins ls os xs = some (true, l, e, s') → ∃ fuel d, runL k24 fuel d 22 32762 { keep := keep_rwins, m := 3, mv := sp_rwins.mv } kx_rwins c_rwins s = some (altK Prod.mk l e s') := by
  intro ls os xs l e s' s hb hg
  unfold g_rwins at hg
  split at hg
  · replace hg := takeI_some hg
    obtain ⟨v2_0, xs, rfl, hg⟩ := hg
    replace hg := takeI_some hg
    obtain ⟨v2_1, xs, rfl, hg⟩ := hg
    replace hg := takeI_some hg
    obtain ⟨v2_2, xs, rfl, hg⟩ := hg
    replace hg := takeI_some hg
    obtain ⟨v2_4, xs, rfl, hg⟩ := hg
    replace hg := takeI_some hg
    obtain ⟨v2_5, xs, rfl, hg⟩ := hg
    replace hg := takeI_some hg
    obtain ⟨v2_6, xs, rfl, hg⟩ := hg
    replace hg := takeI_some hg
    obtain ⟨v2_7, xs, rfl, hg⟩ := hg
    replace hg := takeI_some hg
    obtain ⟨v2_8, xs, rfl, hg⟩ := hg
    replace hg := takeI_some hg
    obtain ⟨v2_9, xs, rfl, hg⟩ := hg
    replace hg := takeI_some hg
    obtain ⟨v2_10, xs, rfl, hg⟩ := hg
    replace hg := takeI_some hg
    obtain ⟨v2_11, xs, rfl, hg⟩ := hg
    replace hg := takeI_some hg
    obtain ⟨v2_12, xs, rfl, hg⟩ := hg
    replace hg := takeI_some hg
    obtain ⟨v2_13, xs, rfl, hg⟩ := hg
    replace hg := takeI_some hg
    obtain ⟨v2_14, xs, rfl, hg⟩ := hg
    replace hg := takeI_some hg
    obtain ⟨v2_15, xs, rfl, hg⟩ := hg
    replace hg := takeI_some hg
    obtain ⟨v2_16, xs, rfl, hg⟩ := hg
    replace hg := takeI_some hg
    obtain ⟨v2_17, xs, rfl, hg⟩ := hg
    replace hg := takeI_some hg
    obtain ⟨v2_18, xs, rfl, hg⟩ := hg
    replace hg := takeI_some hg
    obtain ⟨v2_19, xs, rfl, hg⟩ := hg
    replace hg := takeI_some hg
    obtain ⟨v2_20, xs, rfl, hg⟩ := hg
    replace hg := takeI_some hg
    obtain ⟨v2_21, xs, rfl, hg⟩ := hg
    replace hg := takeI_some hg
    obtain ⟨v2_22, xs, rfl, hg⟩ := hg
    replace hg := takeI_some hg
    obtain ⟨v2_23, xs, rfl, hg⟩ := hg
    replace hg := takeI_some hg
    obtain ⟨v2_24, xs, rfl, hg⟩ := hg
    replace hg := takeI_some hg
    obtain ⟨v2_25, xs, rfl, hg⟩ := hg
    replace hg := takeI_some hg
    obtain ⟨v2_26, xs, rfl, hg⟩ := hg
    replace hg := takeI_some hg
    obtain ⟨v2_27, xs, rfl, hg⟩ := hg
    replace hg := takeI_some hg
    obtain ⟨v2_28, xs, rfl, hg⟩ := hg
    replace hg := takeI_some hg
    obtain ⟨v2_29, xs, rfl, hg⟩ := hg
    replace hg := takeI_some hg
    obtain ⟨v2_30, xs, rfl, hg⟩ := hg
    replace hg := takeI_some hg
    obtain ⟨v2_31, xs, rfl, hg⟩ := hg
    replace hg := takeI_some hg
    obtain ⟨v2_32, xs, rfl, hg⟩ := hg
    replace hg := takeI_some hg
    obtain ⟨v2_33, xs, rfl, hg⟩ := hg
    replace hg := takeI_some hg
    obtain ⟨v2_34, xs, rfl, hg⟩ := hg
    replace hg := takeB_some hg
    obtain ⟨v2_35, xs, rfl, hg⟩ := hg
    replace hg := takeI_some hg
    obtain ⟨v7, xs, rfl, hg⟩ := hg
    replace hg := takeE_some hg
    obtain ⟨rfl, hg⟩ := hg
    simp only [Option.some.injEq, Prod.mk.injEq] at hg
    obtain ⟨h1, rfl, rfl, rfl⟩ := hg
    rw [pat_rwins] at hb
    simp only [Option.some.injEq] at hb
    subst hb
    exact main_rwins _ _ _ _ _ _ _ _ _ _ _ _ _ _ _ _ _ _ _ _ _ _ _ _ _ _ _ _ _ _ _ _ _ _ _ _ _ _ h1
  · cases hg
set_option maxHeartbeats 0 in
theorem p25 : Prog Tryz.prog (fun _ => True) k25 := Prog.addL (cfg := k24) (f := 22) (p := 32762) (keep := keep_rwins) (kx := kx_rwins) (m := 3) (mv := sp_rwins.mv) (Q := P_rwins) (g := g_rwins) p24 Tryz.func22 (by kernel_rfl) code_rwins (by kernel_rfl) rfl (by decide) loop_rwins

theorem p26 : Prog Tryz.prog (fun _ => True) k26 := p25.addLoop (.of Tryz.func22 (by kernel_rfl) (by kernel_rfl)) (fun x h => run_newelref10_Check x.1 h)

theorem p27 : Prog Tryz.prog (fun _ => True) k27 := p26.addLoop (.of Tryz.func90 (by kernel_rfl) (by kernel_rfl)) (fun x h => run_door_within x.1 x.2.1 x.2.2.1)

theorem p28 : Prog Tryz.prog (fun _ => True) k28 := p27.addLoop (.of Tryz.func37 (by kernel_rfl) (by kernel_rfl)) (fun x h => run_car_within x.1 x.2.1 x.2.2.1)

theorem p29 : Prog Tryz.prog (fun _ => True) k29 := p28.addLoop (.of Tryz.func96 (by kernel_rfl) (by kernel_rfl)) (fun x h => run_door_times x.1)

theorem p30 : Prog Tryz.prog (fun _ => True) k30 := p29.addLoop (.of Tryz.func95 (by kernel_rfl) (by kernel_rfl)) (fun x h => run_door_gear x.1)

theorem p31 : Prog Tryz.prog (fun _ => True) k31 := p30.addLoop (.of Tryz.func46 (by kernel_rfl) (by kernel_rfl)) (fun x h => run_newelref17_May x.1)

theorem p32 : Prog Tryz.prog (fun _ => True) k32 := p31.addLoop (.of Tryz.func48 (by kernel_rfl) (by kernel_rfl)) (fun x h => run_newelref17_Step x.1 x.2.1 x.2.2.1 h)

theorem p33 : Prog Tryz.prog (fun _ => True) k33 := p32.addLoop (.of Tryz.func102 (by kernel_rfl) (by kernel_rfl)) (fun x h => run_door_on x.1 x.2.1 x.2.2.1)

theorem p34 : Prog Tryz.prog (fun _ => True) k34 := p33.addLoop (.of Tryz.func100 (by kernel_rfl) (by kernel_rfl)) (fun x h => run_door_phases_1 x.1 x.2.1 x.2.2.1)

theorem p35 : Prog Tryz.prog (fun _ => True) k35 := p34.addLoop (.of Tryz.func101 (by kernel_rfl) (by kernel_rfl)) (fun x h => run_door_phases_2 x.1 x.2.1 x.2.2.1)

theorem p36 : Prog Tryz.prog (fun _ => True) k36 := p35.addLoop (.of Tryz.func103 (by kernel_rfl) (by kernel_rfl)) (fun x h => run_door_open x.1 x.2.1 x.2.2.1)

theorem p37 : Prog Tryz.prog (fun _ => True) k37 := p36.addLoop (.of Tryz.func104 (by kernel_rfl) (by kernel_rfl)) (fun x h => run_door_closing x.1 x.2.1 x.2.2.1)

theorem run_door_phases : ∃ F d, run k37 F d 91 Tryz.f91 s_door_phases (()) = some (r_door_phases.enc (())) := ⟨200, 6, by kernel_rfl⟩
theorem p38 : Prog Tryz.prog (fun _ => True) k38 := p37.addLoop (.of Tryz.func91 (by kernel_rfl) (by kernel_rfl)) (fun x h => run_door_phases )

theorem p39 : Prog Tryz.prog (fun _ => True) k39 := p38.addLoop (.of Tryz.func62 (by kernel_rfl) (by kernel_rfl)) (fun x h => run_door_Check x.1)

theorem p40 : Prog Tryz.prog (fun _ => True) k40 := p39.addLoop (.of Tryz.func70 (by kernel_rfl) (by kernel_rfl)) (fun x h => run_door_Ask x.1 x.2.1)

theorem p41 : Prog Tryz.prog (fun _ => True) k41 := p40.addLoop (.of Tryz.func71 (by kernel_rfl) (by kernel_rfl)) (fun x h => run_door_Step x.1 x.2.1 x.2.2.1)

theorem p42 : Prog Tryz.prog (fun _ => True) k42 := p41.addLoop (.of Tryz.func68 (by kernel_rfl) (by kernel_rfl)) (fun x h => run_door_Rest x.1 x.2.1)

theorem p43 : Prog Tryz.prog (fun _ => True) k43 := p42.addLoop (.of Tryz.func31 (by kernel_rfl) (by kernel_rfl)) (fun x h => run_car_Check x.1 x.2.1)

theorem p44 : Prog Tryz.prog (fun _ => True) k44 := p43.addLoop (.of Tryz.func36 (by kernel_rfl) (by kernel_rfl)) (fun x h => run_car_check x.1 x.2.1)

theorem p45 : Prog Tryz.prog (fun _ => True) k45 := p44.addLoop (.of Tryz.func20 (by kernel_rfl) (by kernel_rfl)) (fun x h => run_car_Step x.1 x.2.1 x.2.2.1)

theorem p46 : Prog Tryz.prog (fun _ => True) k46 := p45.addLoop (.of Tryz.func92 (by kernel_rfl) (by kernel_rfl)) (fun x h => run_car_Rest x.1 x.2.1)

theorem p47 : Prog Tryz.prog (fun _ => True) k47 := p46.addLoop (.of Tryz.func23 (by kernel_rfl) (by kernel_rfl)) (fun x h => run_newelref18_May x.1 x.2.1)

theorem p48 : Prog Tryz.prog (fun _ => True) k48 := p47.addLoop (.of Tryz.func24 (by kernel_rfl) (by kernel_rfl)) (fun x h => run_newelref18_Step x.1 x.2.1 x.2.2.1 h)

theorem p49 : Prog Tryz.prog (fun _ => True) k49 := p48.addLoop (.of Tryz.func106 (by kernel_rfl) (by kernel_rfl)) (fun x h => run_cycle_sign x.1)

theorem p50 : Prog Tryz.prog (fun _ => True) k50 := p49.addLoop (.of Tryz.func93 (by kernel_rfl) (by kernel_rfl)) (fun x h => run_cycle_stop x.1 h)

set_option maxHeartbeats 0 in
theorem loop_row : ∀ ls os xs l e s' s, bSt P_row ls os xs = some s → g_row ls os xs = some (true, l, e, s') → ∃ fuel d, runL k50 fuel d 66 58 { keep := keep_row, m := 4, mv := sp_row.mv } kx_row c_row s = some (altK Prod.mk l e s') := by
  intro ls os xs l e s' s hb hg
  unfold g_row at hg
  split at hg
  · replace hg := takeI_some hg
    obtain ⟨v1_1, xs, rfl, hg⟩ := hg
    replace hg := takeI_some hg
    obtain ⟨v1_2, xs, rfl, hg⟩ := hg
    replace hg := takeI_some hg
    obtain ⟨v4, xs, rfl, hg⟩ := hg
    replace hg := takeE_some hg
    obtain ⟨rfl, hg⟩ := hg
    simp only [Option.some.injEq, Prod.mk.injEq] at hg
    obtain ⟨h1, rfl, rfl, rfl⟩ := hg
    rw [pat_row] at hb
    simp only [Option.some.injEq] at hb
    subst hb
    exact main_row _ _ _ _ _ h1
  · cases hg
set_option maxHeartbeats 0 in
theorem p51 : Prog Tryz.prog (fun _ => True) k51 := Prog.addL (cfg := k50) (f := 66) (p := 58) (keep := keep_row) (kx := kx_row) (m := 4) (mv := sp_row.mv) (Q := P_row) (g := g_row) p50 Tryz.func66 (by kernel_rfl) code_row (by kernel_rfl) rfl (by decide) loop_row

theorem p52 : Prog Tryz.prog (fun _ => True) k52 := p51.addH (.of Tryz.func66 (by kernel_rfl) (by kernel_rfl)) (fun x h => run_cycle_row x.1 h)

theorem p53 : Prog Tryz.prog (fun _ => True) k53 := p52.addLoop (.of Tryz.func67 (by kernel_rfl) (by kernel_rfl)) (fun x h => run_cycle_place x.1 x.2.1 h)

set_option maxHeartbeats 0 in
theorem loop_check : ∀ ls os xs l e s' s, bSt P_check ls os xs = some s → g_check ls os xs = some (true, l, e, s') → ∃ fuel d, runL k53 fuel d 63 58 { keep := keep_check, m := 3, mv := sp_check.mv } kx_check c_check s = some (altK Prod.mk l e s') := by
  intro ls os xs l e s' s hb hg
  unfold g_check at hg
  split at hg
  · replace hg := takeI_some hg
    obtain ⟨v1_0, xs, rfl, hg⟩ := hg
    replace hg := takeI_some hg
    obtain ⟨v1_1, xs, rfl, hg⟩ := hg
    replace hg := takeI_some hg
    obtain ⟨v1_2, xs, rfl, hg⟩ := hg
    replace hg := takeI_some hg
    obtain ⟨v1_3, xs, rfl, hg⟩ := hg
    replace hg := takeI_some hg
    obtain ⟨v1_4, xs, rfl, hg⟩ := hg
    replace hg := takeI_some hg
    obtain ⟨v1_5, xs, rfl, hg⟩ := hg
    replace hg := takeI_some hg
    obtain ⟨v1_6, xs, rfl, hg⟩ := hg
    replace hg := takeI_some hg
    obtain ⟨v1_7, xs, rfl, hg⟩ := hg
    replace hg := takeI_some hg
    obtain ⟨v1_8, xs, rfl, hg⟩ := hg
    replace hg := takeI_some hg
    obtain ⟨v1_9, xs, rfl, hg⟩ := hg
    replace hg := takeI_some hg
    obtain ⟨v2_1, xs, rfl, hg⟩ := hg
    replace hg := takeI_some hg
    obtain ⟨v2_2, xs, rfl, hg⟩ := hg
    replace hg := takeB_some hg
    obtain ⟨v5, xs, rfl, hg⟩ := hg
    replace hg := takeI_some hg
    obtain ⟨v38, xs, rfl, hg⟩ := hg
    replace hg := takeI_some hg
    obtain ⟨v39, xs, rfl, hg⟩ := hg
    replace hg := takeE_some hg
    obtain ⟨rfl, hg⟩ := hg
    simp only [Option.some.injEq, Prod.mk.injEq] at hg
    obtain ⟨h1, rfl, rfl, rfl⟩ := hg
    rw [pat_check] at hb
    simp only [Option.some.injEq] at hb
    subst hb
    exact main_check _ _ _ _ _ _ _ _ _ _ _ _ _ _ _ _ h1
  · cases hg
set_option maxHeartbeats 0 in
theorem p54 : Prog Tryz.prog (fun _ => True) k54 := Prog.addL (cfg := k53) (f := 63) (p := 58) (keep := keep_check) (kx := kx_check) (m := 3) (mv := sp_check.mv) (Q := P_check) (g := g_check) p53 Tryz.func63 (by kernel_rfl) code_check (by kernel_rfl) rfl (by decide) loop_check

theorem p55 : Prog Tryz.prog (fun _ => True) k55 := p54.addLoop (.of Tryz.func63 (by kernel_rfl) (by kernel_rfl)) (fun x h => run_cycle_check x.1 x.2.1 h)

theorem p56 : Prog Tryz.prog (fun _ => True) k56 := p55.addLoop (.of Tryz.func64 (by kernel_rfl) (by kernel_rfl)) (fun x h => run_cycle_length x.1 x.2.1 h)

theorem p57 : Prog Tryz.prog (fun _ => True) k57 := p56.addLoop (.of Tryz.func32 (by kernel_rfl) (by kernel_rfl)) (fun x h => run_cycle_Length x.1 x.2.1 h)

theorem p58 : Prog Tryz.prog (fun _ => True) k58 := p57.addLoop (.of Tryz.func35 (by kernel_rfl) (by kernel_rfl)) (fun x h => run_cycle_First x.1 x.2.1 h)

set_option maxHeartbeats 0 in
theorem loop_wride : ∀ ls os xs l e s' s, bSt P_wride ls os xs = some s → g_wride ls os xs = some (true, l, e, s') → ∃ fuel d, runL k58 fuel d 105 193342 { keep := keep_wride, m := 13, mv := sp_wride.mv } kx_wride c_wride s = some (altK Prod.mk l e s') := by
  intro ls os xs l e s' s hb hg
  unfold g_wride at hg
  split at hg
  · replace hg := takeI_some hg
    obtain ⟨v1_0, xs, rfl, hg⟩ := hg
    replace hg := takeI_some hg
    obtain ⟨v1_1, xs, rfl, hg⟩ := hg
    replace hg := takeI_some hg
    obtain ⟨v1_2, xs, rfl, hg⟩ := hg
    replace hg := takeI_some hg
    obtain ⟨v1_3, xs, rfl, hg⟩ := hg
    replace hg := takeI_some hg
    obtain ⟨v1_4, xs, rfl, hg⟩ := hg
    replace hg := takeI_some hg
    obtain ⟨v1_5, xs, rfl, hg⟩ := hg
    replace hg := takeI_some hg
    obtain ⟨v1_6, xs, rfl, hg⟩ := hg
    replace hg := takeI_some hg
    obtain ⟨v1_7, xs, rfl, hg⟩ := hg
    replace hg := takeI_some hg
    obtain ⟨v1_8, xs, rfl, hg⟩ := hg
    replace hg := takeI_some hg
    obtain ⟨v1_9, xs, rfl, hg⟩ := hg
    replace hg := takeI_some hg
    obtain ⟨v2_1, xs, rfl, hg⟩ := hg
    replace hg := takeI_some hg
    obtain ⟨v2_2, xs, rfl, hg⟩ := hg
    replace hg := takeI_some hg
    obtain ⟨v3_0, xs, rfl, hg⟩ := hg
    replace hg := takeI_some hg
    obtain ⟨v4_0, xs, rfl, hg⟩ := hg
    replace hg := takeI_some hg
    obtain ⟨v4_1, xs, rfl, hg⟩ := hg
    replace hg := takeI_some hg
    obtain ⟨v4_2, xs, rfl, hg⟩ := hg
    replace hg := takeI_some hg
    obtain ⟨v5_0, xs, rfl, hg⟩ := hg
    replace hg := takeI_some hg
    obtain ⟨v6_0, xs, rfl, hg⟩ := hg
    replace hg := takeI_some hg
    obtain ⟨v7_0, xs, rfl, hg⟩ := hg
    replace hg := takeI_some hg
    obtain ⟨v7_1, xs, rfl, hg⟩ := hg
    replace hg := takeI_some hg
    obtain ⟨v7_2, xs, rfl, hg⟩ := hg
    replace hg := takeI_some hg
    obtain ⟨v7_3, xs, rfl, hg⟩ := hg
    replace hg := takeI_some hg
    obtain ⟨v7_4, xs, rfl, hg⟩ := hg
    replace hg := takeI_some hg
    obtain ⟨v7_5, xs, rfl, hg⟩ := hg
    replace hg := takeI_some hg
    obtain ⟨v7_6, xs, rfl, hg⟩ := hg
    replace hg := takeI_some hg
    obtain ⟨v7_7, xs, rfl, hg⟩ := hg
    replace hg := takeI_some hg
    obtain ⟨v7_8, xs, rfl, hg⟩ := hg
    replace hg := takeI_some hg
    obtain ⟨v7_9, xs, rfl, hg⟩ := hg
    replace hg := takeI_some hg
    obtain ⟨v8_1, xs, rfl, hg⟩ := hg
    replace hg := takeI_some hg
    obtain ⟨v8_2, xs, rfl, hg⟩ := hg
    replace hg := takeI_some hg
    obtain ⟨v12_0, xs, rfl, hg⟩ := hg
    replace hg := takeI_some hg
    obtain ⟨v12_1, xs, rfl, hg⟩ := hg
    replace hg := takeI_some hg
    obtain ⟨v12_2, xs, rfl, hg⟩ := hg
    replace hg := takeI_some hg
    obtain ⟨v5, xs, rfl, hg⟩ := hg
    replace hg := takeI_some hg
    obtain ⟨v6, xs, rfl, hg⟩ := hg
    replace hg := takeI_some hg
    obtain ⟨v8, xs, rfl, hg⟩ := hg
    replace hg := takeI_some hg
    obtain ⟨v9, xs, rfl, hg⟩ := hg
    replace hg := takeI_some hg
    obtain ⟨v10, xs, rfl, hg⟩ := hg
    replace hg := takeI_some hg
    obtain ⟨v18, xs, rfl, hg⟩ := hg
    replace hg := takeI_some hg
    obtain ⟨v19, xs, rfl, hg⟩ := hg
    replace hg := takeE_some hg
    obtain ⟨rfl, hg⟩ := hg
    simp only [Option.some.injEq, Prod.mk.injEq] at hg
    obtain ⟨h1, rfl, rfl, rfl⟩ := hg
    rw [pat_wride] at hb
    simp only [Option.some.injEq] at hb
    subst hb
    exact main_wride _ _ _ _ _ _ _ _ _ _ _ _ _ _ _ _ _ _ _ _ _ _ _ _ _ _ _ _ _ _ _ _ _ _ _ _ _ _ _ _ _ _ h1
  · cases hg
set_option maxHeartbeats 0 in
theorem p59 : Prog Tryz.prog (fun _ => True) k59 := Prog.addL (cfg := k58) (f := 105) (p := 193342) (cx := 1) (keep := keep_wride) (kx := kx_wride) (m := 13) (mv := sp_wride.mv) (Q := P_wride) (g := g_wride) p58 Tryz.func105 (by kernel_rfl) code_wride (by kernel_rfl) rfl (by decide) loop_wride

set_option maxHeartbeats 0 in
theorem loop_wstop : ∀ ls os xs l e s' s, bSt P_wstop ls os xs = some s → g_wstop ls os xs = some (true, l, e, s') → ∃ fuel d, runL k59 fuel d 105 94 { keep := keep_wstop, m := 12, mv := sp_wstop.mv } kx_wstop c_wstop s = some (altK Prod.mk l e s') := by
  intro ls os xs l e s' s hb hg
  unfold g_wstop at hg
  split at hg
  · replace hg := takeI_some hg
    obtain ⟨v1_0, xs, rfl, hg⟩ := hg
    replace hg := takeI_some hg
    obtain ⟨v1_1, xs, rfl, hg⟩ := hg
    replace hg := takeI_some hg
    obtain ⟨v1_2, xs, rfl, hg⟩ := hg
    replace hg := takeI_some hg
    obtain ⟨v1_3, xs, rfl, hg⟩ := hg
    replace hg := takeI_some hg
    obtain ⟨v1_4, xs, rfl, hg⟩ := hg
    replace hg := takeI_some hg
    obtain ⟨v1_5, xs, rfl, hg⟩ := hg
    replace hg := takeI_some hg
    obtain ⟨v1_6, xs, rfl, hg⟩ := hg
    replace hg := takeI_some hg
    obtain ⟨v1_7, xs, rfl, hg⟩ := hg
    replace hg := takeI_some hg
    obtain ⟨v1_8, xs, rfl, hg⟩ := hg
    replace hg := takeI_some hg
    obtain ⟨v1_9, xs, rfl, hg⟩ := hg
    replace hg := takeI_some hg
    obtain ⟨v2_1, xs, rfl, hg⟩ := hg
    replace hg := takeI_some hg
    obtain ⟨v2_2, xs, rfl, hg⟩ := hg
    replace hg := takeI_some hg
    obtain ⟨v3_0, xs, rfl, hg⟩ := hg
    replace hg := takeI_some hg
    obtain ⟨v4_0, xs, rfl, hg⟩ := hg
    replace hg := takeI_some hg
    obtain ⟨v4_1, xs, rfl, hg⟩ := hg
    replace hg := takeI_some hg
    obtain ⟨v4_2, xs, rfl, hg⟩ := hg
    replace hg := takeI_some hg
    obtain ⟨v5_0, xs, rfl, hg⟩ := hg
    replace hg := takeI_some hg
    obtain ⟨v6_0, xs, rfl, hg⟩ := hg
    replace hg := takeI_some hg
    obtain ⟨v7_0, xs, rfl, hg⟩ := hg
    replace hg := takeI_some hg
    obtain ⟨v7_1, xs, rfl, hg⟩ := hg
    replace hg := takeI_some hg
    obtain ⟨v7_2, xs, rfl, hg⟩ := hg
    replace hg := takeI_some hg
    obtain ⟨v7_3, xs, rfl, hg⟩ := hg
    replace hg := takeI_some hg
    obtain ⟨v7_4, xs, rfl, hg⟩ := hg
    replace hg := takeI_some hg
    obtain ⟨v7_5, xs, rfl, hg⟩ := hg
    replace hg := takeI_some hg
    obtain ⟨v7_6, xs, rfl, hg⟩ := hg
    replace hg := takeI_some hg
    obtain ⟨v7_7, xs, rfl, hg⟩ := hg
    replace hg := takeI_some hg
    obtain ⟨v7_8, xs, rfl, hg⟩ := hg
    replace hg := takeI_some hg
    obtain ⟨v7_9, xs, rfl, hg⟩ := hg
    replace hg := takeI_some hg
    obtain ⟨v8_1, xs, rfl, hg⟩ := hg
    replace hg := takeI_some hg
    obtain ⟨v8_2, xs, rfl, hg⟩ := hg
    replace hg := takeI_some hg
    obtain ⟨v5, xs, rfl, hg⟩ := hg
    replace hg := takeI_some hg
    obtain ⟨v6, xs, rfl, hg⟩ := hg
    replace hg := takeI_some hg
    obtain ⟨v18, xs, rfl, hg⟩ := hg
    replace hg := takeI_some hg
    obtain ⟨v19, xs, rfl, hg⟩ := hg
    replace hg := takeE_some hg
    obtain ⟨rfl, hg⟩ := hg
    simp only [Option.some.injEq, Prod.mk.injEq] at hg
    obtain ⟨h1, rfl, rfl, rfl⟩ := hg
    rw [pat_wstop] at hb
    simp only [Option.some.injEq] at hb
    subst hb
    exact main_wstop _ _ _ _ _ _ _ _ _ _ _ _ _ _ _ _ _ _ _ _ _ _ _ _ _ _ _ _ _ _ _ _ _ _ _ _ h1
  · cases hg
set_option maxHeartbeats 0 in
theorem p60 : Prog Tryz.prog (fun _ => True) k60 := Prog.addL (cfg := k59) (f := 105) (p := 94) (cx := 1) (keep := keep_wstop) (kx := kx_wstop) (m := 12) (mv := sp_wstop.mv) (Q := P_wstop) (g := g_wstop) p59 Tryz.func105 (by kernel_rfl) code_wstop (by kernel_rfl) rfl (by decide) loop_wstop

theorem p61 : Prog Tryz.prog (fun _ => True) k61 := p60.addLoop (.of Tryz.func65 (by kernel_rfl) (by kernel_rfl)) (fun x h => run_cycle_within x.1 x.2.1 x.2.2.1 h)

theorem p62 : Prog Tryz.prog (fun _ => True) k62 := p61.addLoop (.of Tryz.func33 (by kernel_rfl) (by kernel_rfl)) (fun x h => run_cycle_At x.1 x.2.1 x.2.2.1 h)

theorem p63 : Prog Tryz.prog (fun _ => True) k63 := p62.addLoop (.of Tryz.func40 (by kernel_rfl) (by kernel_rfl)) (fun x h => run_cycle_Cmd x.1 x.2.1 x.2.2.1 h)

theorem p64 : Prog Tryz.prog (fun _ => True) k64 := p63.addLoop (.of Tryz.func80 (by kernel_rfl) (by kernel_rfl)) (fun x h => run_newelref22_Many x.1 h)

theorem p65 : Prog Tryz.prog (fun _ => True) k65 := p64.addLoop (.of Tryz.func76 (by kernel_rfl) (by kernel_rfl)) (fun x h => run_newelref22_Stop x.1 x.2.1 h)

theorem p66 : Prog Tryz.prog (fun _ => True) k66 := p65.addLoop (.of Tryz.func77 (by kernel_rfl) (by kernel_rfl)) (fun x h => run_newelref22_Place x.1 h)

theorem p67 : Prog Tryz.prog (fun _ => True) k67 := p66.addLoop (.of Tryz.func78 (by kernel_rfl) (by kernel_rfl)) (fun x h => run_newelref22_Begin x.1 h)

theorem p68 : Prog Tryz.prog (fun _ => True) k68 := p67.addLoop (.of Tryz.func97 (by kernel_rfl) (by kernel_rfl)) (fun x h => run_newelref22_told x.1 x.2.1 h)

theorem p69 : Prog Tryz.prog (fun _ => True) k69 := p68.addLoop (.of Tryz.func79 (by kernel_rfl) (by kernel_rfl)) (fun x h => run_newelref22_Step x.1 x.2.1 x.2.2.1 h)

set_option maxHeartbeats 0 in
theorem loop_rlen : ∀ ls os xs l e s' s, bSt P_rlen ls os xs = some s → g_rlen ls os xs = some (true, l, e, s') → ∃ fuel d, runL k69 fuel d 53 58 { keep := keep_rlen, m := 3, mv := sp_rlen.mv } kx_rlen c_rlen s = some (altK Prod.mk l e s') := by
  intro ls os xs l e s' s hb hg
  unfold g_rlen at hg
  split at hg
  · replace hg := takeI_some hg
    obtain ⟨v1_0, xs, rfl, hg⟩ := hg
    replace hg := takeI_some hg
    obtain ⟨v1_1, xs, rfl, hg⟩ := hg
    replace hg := takeI_some hg
    obtain ⟨v1_2, xs, rfl, hg⟩ := hg
    replace hg := takeI_some hg
    obtain ⟨v1_3, xs, rfl, hg⟩ := hg
    replace hg := takeI_some hg
    obtain ⟨v1_4, xs, rfl, hg⟩ := hg
    replace hg := takeI_some hg
    obtain ⟨v1_5, xs, rfl, hg⟩ := hg
    replace hg := takeI_some hg
    obtain ⟨v1_6, xs, rfl, hg⟩ := hg
    replace hg := takeI_some hg
    obtain ⟨v1_7, xs, rfl, hg⟩ := hg
    replace hg := takeI_some hg
    obtain ⟨v1_8, xs, rfl, hg⟩ := hg
    replace hg := takeI_some hg
    obtain ⟨v1_9, xs, rfl, hg⟩ := hg
    replace hg := takeI_some hg
    obtain ⟨v2_1, xs, rfl, hg⟩ := hg
    replace hg := takeI_some hg
    obtain ⟨v2_2, xs, rfl, hg⟩ := hg
    replace hg := takeI_some hg
    obtain ⟨v5, xs, rfl, hg⟩ := hg
    replace hg := takeI_some hg
    obtain ⟨v6, xs, rfl, hg⟩ := hg
    replace hg := takeE_some hg
    obtain ⟨rfl, hg⟩ := hg
    simp only [Option.some.injEq, Prod.mk.injEq] at hg
    obtain ⟨h1, rfl, rfl, rfl⟩ := hg
    rw [pat_rlen] at hb
    simp only [Option.some.injEq] at hb
    subst hb
    exact main_rlen _ _ _ _ _ _ _ _ _ _ _ _ _ _ _ h1
  · cases hg
set_option maxHeartbeats 0 in
theorem p70 : Prog Tryz.prog (fun _ => True) k70 := Prog.addL (cfg := k69) (f := 53) (p := 58) (keep := keep_rlen) (kx := kx_rlen) (m := 3) (mv := sp_rlen.mv) (Q := P_rlen) (g := g_rlen) p69 Tryz.func53 (by kernel_rfl) code_rlen (by kernel_rfl) rfl (by decide) loop_rlen

theorem p71 : Prog Tryz.prog (fun _ => True) k71 := p70.addLoop (.of Tryz.func53 (by kernel_rfl) (by kernel_rfl)) (fun x h => run_newelref22_Length x.1 x.2.1 h)

set_option maxHeartbeats 0 in
theorem loop_rat : ∀ ls os xs l e s' s, bSt P_rat ls os xs = some s → g_rat ls os xs = some (true, l, e, s') → ∃ fuel d, runL k71 fuel d 52 58 { keep := keep_rat, m := 5, mv := sp_rat.mv } kx_rat c_rat s = some (altK Prod.mk l e s') := by
  intro ls os xs l e s' s hb hg
  unfold g_rat at hg
  split at hg
  · replace hg := takeI_some hg
    obtain ⟨v1_0, xs, rfl, hg⟩ := hg
    replace hg := takeI_some hg
    obtain ⟨v1_1, xs, rfl, hg⟩ := hg
    replace hg := takeI_some hg
    obtain ⟨v1_2, xs, rfl, hg⟩ := hg
    replace hg := takeI_some hg
    obtain ⟨v1_3, xs, rfl, hg⟩ := hg
    replace hg := takeI_some hg
    obtain ⟨v1_4, xs, rfl, hg⟩ := hg
    replace hg := takeI_some hg
    obtain ⟨v1_5, xs, rfl, hg⟩ := hg
    replace hg := takeI_some hg
    obtain ⟨v1_6, xs, rfl, hg⟩ := hg
    replace hg := takeI_some hg
    obtain ⟨v1_7, xs, rfl, hg⟩ := hg
    replace hg := takeI_some hg
    obtain ⟨v1_8, xs, rfl, hg⟩ := hg
    replace hg := takeI_some hg
    obtain ⟨v1_9, xs, rfl, hg⟩ := hg
    replace hg := takeI_some hg
    obtain ⟨v2_1, xs, rfl, hg⟩ := hg
    replace hg := takeI_some hg
    obtain ⟨v2_2, xs, rfl, hg⟩ := hg
    replace hg := takeI_some hg
    obtain ⟨v3_0, xs, rfl, hg⟩ := hg
    replace hg := takeI_some hg
    obtain ⟨v3_1, xs, rfl, hg⟩ := hg
    replace hg := takeI_some hg
    obtain ⟨v3_2, xs, rfl, hg⟩ := hg
    replace hg := takeI_some hg
    obtain ⟨v3_3, xs, rfl, hg⟩ := hg
    replace hg := takeI_some hg
    obtain ⟨v3_4, xs, rfl, hg⟩ := hg
    replace hg := takeI_some hg
    obtain ⟨v3_5, xs, rfl, hg⟩ := hg
    replace hg := takeI_some hg
    obtain ⟨v3_6, xs, rfl, hg⟩ := hg
    replace hg := takeI_some hg
    obtain ⟨v3_7, xs, rfl, hg⟩ := hg
    replace hg := takeI_some hg
    obtain ⟨v3_8, xs, rfl, hg⟩ := hg
    replace hg := takeI_some hg
    obtain ⟨v4_0, xs, rfl, hg⟩ := hg
    replace hg := takeI_some hg
    obtain ⟨v4_1, xs, rfl, hg⟩ := hg
    replace hg := takeI_some hg
    obtain ⟨v4_2, xs, rfl, hg⟩ := hg
    replace hg := takeI_some hg
    obtain ⟨v4_3, xs, rfl, hg⟩ := hg
    replace hg := takeI_some hg
    obtain ⟨v4_4, xs, rfl, hg⟩ := hg
    replace hg := takeI_some hg
    obtain ⟨v4_5, xs, rfl, hg⟩ := hg
    replace hg := takeI_some hg
    obtain ⟨v4_6, xs, rfl, hg⟩ := hg
    replace hg := takeI_some hg
    obtain ⟨v4_7, xs, rfl, hg⟩ := hg
    replace hg := takeI_some hg
    obtain ⟨v4_8, xs, rfl, hg⟩ := hg
    replace hg := takeI_some hg
    obtain ⟨v2, xs, rfl, hg⟩ := hg
    replace hg := takeI_some hg
    obtain ⟨v8, xs, rfl, hg⟩ := hg
    replace hg := takeE_some hg
    obtain ⟨rfl, hg⟩ := hg
    simp only [Option.some.injEq, Prod.mk.injEq] at hg
    obtain ⟨h1, rfl, rfl, rfl⟩ := hg
    rw [pat_rat] at hb
    simp only [Option.some.injEq] at hb
    subst hb
    exact main_rat _ _ _ _ _ _ _ _ _ _ _ _ _ _ _ _ _ _ _ _ _ _ _ _ _ _ _ _ _ _ _ _ _ h1
  · cases hg
set_option maxHeartbeats 0 in
theorem p72 : Prog Tryz.prog (fun _ => True) k72 := Prog.addL (cfg := k71) (f := 52) (p := 58) (keep := keep_rat) (kx := kx_rat) (m := 5) (mv := sp_rat.mv) (Q := P_rat) (g := g_rat) p71 Tryz.func52 (by kernel_rfl) code_rat (by kernel_rfl) rfl (by decide) loop_rat

theorem p73 : Prog Tryz.prog (fun _ => True) k73 := p72.addLoop (.of Tryz.func52 (by kernel_rfl) (by kernel_rfl)) (fun x h => run_newelref22_At x.1 x.2.1 x.2.2.1 h)

theorem p74 : Prog Tryz.prog (fun _ => True) k74 := p73.addLoop (.of Tryz.func15 (by kernel_rfl) (by kernel_rfl)) (fun x h => run_auto_Gear x.1 x.2.1 h)

set_option maxHeartbeats 0 in
theorem loop_aplan : ∀ ls os xs l e s' s, bSt P_aplan ls os xs = some s → g_aplan ls os xs = some (true, l, e, s') → ∃ fuel d, runL k74 fuel d 34 3770 { keep := keep_aplan, m := 5, mv := sp_aplan.mv } kx_aplan c_aplan s = some (altK Prod.mk l e s') := by
  intro ls os xs l e s' s hb hg
  unfold g_aplan at hg
  split at hg
  · replace hg := takeI_some hg
    obtain ⟨v2_0, xs, rfl, hg⟩ := hg
    replace hg := takeI_some hg
    obtain ⟨v2_1, xs, rfl, hg⟩ := hg
    replace hg := takeI_some hg
    obtain ⟨v2_2, xs, rfl, hg⟩ := hg
    replace hg := takeI_some hg
    obtain ⟨v2_4, xs, rfl, hg⟩ := hg
    replace hg := takeI_some hg
    obtain ⟨v2_5, xs, rfl, hg⟩ := hg
    replace hg := takeI_some hg
    obtain ⟨v2_6, xs, rfl, hg⟩ := hg
    replace hg := takeI_some hg
    obtain ⟨v2_7, xs, rfl, hg⟩ := hg
    replace hg := takeI_some hg
    obtain ⟨v2_8, xs, rfl, hg⟩ := hg
    replace hg := takeI_some hg
    obtain ⟨v2_9, xs, rfl, hg⟩ := hg
    replace hg := takeI_some hg
    obtain ⟨v2_10, xs, rfl, hg⟩ := hg
    replace hg := takeI_some hg
    obtain ⟨v2_11, xs, rfl, hg⟩ := hg
    replace hg := takeI_some hg
    obtain ⟨v2_12, xs, rfl, hg⟩ := hg
    replace hg := takeI_some hg
    obtain ⟨v2_13, xs, rfl, hg⟩ := hg
    replace hg := takeI_some hg
    obtain ⟨v2_14, xs, rfl, hg⟩ := hg
    replace hg := takeI_some hg
    obtain ⟨v2_15, xs, rfl, hg⟩ := hg
    replace hg := takeI_some hg
    obtain ⟨v2_16, xs, rfl, hg⟩ := hg
    replace hg := takeI_some hg
    obtain ⟨v2_17, xs, rfl, hg⟩ := hg
    replace hg := takeI_some hg
    obtain ⟨v2_18, xs, rfl, hg⟩ := hg
    replace hg := takeI_some hg
    obtain ⟨v2_19, xs, rfl, hg⟩ := hg
    replace hg := takeI_some hg
    obtain ⟨v2_20, xs, rfl, hg⟩ := hg
    replace hg := takeI_some hg
    obtain ⟨v2_21, xs, rfl, hg⟩ := hg
    replace hg := takeI_some hg
    obtain ⟨v2_22, xs, rfl, hg⟩ := hg
    replace hg := takeI_some hg
    obtain ⟨v2_23, xs, rfl, hg⟩ := hg
    replace hg := takeI_some hg
    obtain ⟨v2_24, xs, rfl, hg⟩ := hg
    replace hg := takeI_some hg
    obtain ⟨v2_25, xs, rfl, hg⟩ := hg
    replace hg := takeI_some hg
    obtain ⟨v2_26, xs, rfl, hg⟩ := hg
    replace hg := takeI_some hg
    obtain ⟨v2_27, xs, rfl, hg⟩ := hg
    replace hg := takeI_some hg
    obtain ⟨v2_28, xs, rfl, hg⟩ := hg
    replace hg := takeI_some hg
    obtain ⟨v2_29, xs, rfl, hg⟩ := hg
    replace hg := takeI_some hg
    obtain ⟨v2_30, xs, rfl, hg⟩ := hg
    replace hg := takeI_some hg
    obtain ⟨v2_31, xs, rfl, hg⟩ := hg
    replace hg := takeI_some hg
    obtain ⟨v2_32, xs, rfl, hg⟩ := hg
    replace hg := takeI_some hg
    obtain ⟨v2_33, xs, rfl, hg⟩ := hg
    replace hg := takeI_some hg
    obtain ⟨v2_34, xs, rfl, hg⟩ := hg
    replace hg := takeB_some hg
    obtain ⟨v2_35, xs, rfl, hg⟩ := hg
    replace hg := takeI_some hg
    obtain ⟨v3_1, xs, rfl, hg⟩ := hg
    replace hg := takeI_some hg
    obtain ⟨v3_2, xs, rfl, hg⟩ := hg
    replace hg := takeI_some hg
    obtain ⟨v4_1, xs, rfl, hg⟩ := hg
    replace hg := takeI_some hg
    obtain ⟨v4_2, xs, rfl, hg⟩ := hg
    replace hg := takeI_some hg
    obtain ⟨v26, xs, rfl, hg⟩ := hg
    replace hg := takeI_some hg
    obtain ⟨v27, xs, rfl, hg⟩ := hg
    replace hg := takeE_some hg
    obtain ⟨rfl, hg⟩ := hg
    simp only [Option.some.injEq, Prod.mk.injEq] at hg
    obtain ⟨h1, rfl, rfl, rfl⟩ := hg
    rw [pat_aplan] at hb
    simp only [Option.some.injEq] at hb
    subst hb
    exact main_aplan _ _ _ _ _ _ _ _ _ _ _ _ _ _ _ _ _ _ _ _ _ _ _ _ _ _ _ _ _ _ _ _ _ _ _ _ _ _ _ _ _ _ _ _ h1
  · cases hg
set_option maxHeartbeats 0 in
theorem p75 : Prog Tryz.prog (fun _ => True) k75 := Prog.addL (cfg := k74) (f := 34) (p := 3770) (keep := keep_aplan) (kx := kx_aplan) (m := 5) (mv := sp_aplan.mv) (Q := P_aplan) (g := g_aplan) p74 Tryz.func34 (by kernel_rfl) code_aplan (by kernel_rfl) rfl (by decide) loop_aplan

theorem p76 : Prog Tryz.prog (fun _ => True) k76 := p75.addH (.of Tryz.func34 (by kernel_rfl) (by kernel_rfl)) (fun x h => run_auto_plan x.1 x.2.1 x.2.2.1 h)

theorem p77 : Prog Tryz.prog (fun _ => True) k77 := p76.addLoop (.of Tryz.func30 (by kernel_rfl) (by kernel_rfl)) (fun x h => run_auto_settle x.1 h)

theorem p78 : Prog Tryz.prog (fun _ => True) k78 := p77.addH (.of Tryz.func18 (by kernel_rfl) (by kernel_rfl)) (fun x h => run_auto_of x.1 x.2.1 x.2.2.1 h)

theorem p79 : Prog Tryz.prog (fun _ => True) k79 := p78.addH (.of Tryz.func14 (by kernel_rfl) (by kernel_rfl)) (fun x h => run_auto_Home x.1 x.2.1 x.2.2.1 h)

theorem p80 : Prog Tryz.prog (fun _ => True) k80 := p79.addLoop (.of Tryz.func13 (by kernel_rfl) (by kernel_rfl)) (fun x h => run_auto_Settle x.1 h)

theorem p81 : Prog Tryz.prog (fun _ => True) k81 := p80.addLoop (.of Tryz.func16 (by kernel_rfl) (by kernel_rfl)) (fun x h => run_auto_check x.1 h)

theorem p82 : Prog Tryz.prog (fun _ => True) k82 := p81.addLoop (.of Tryz.func17 (by kernel_rfl) (by kernel_rfl)) (fun x h => run_auto_tick x.1 x.2.1 h)

theorem p83 : Prog Tryz.prog (fun _ => True) k83 := p82.addLoop (.of Tryz.func21 (by kernel_rfl) (by kernel_rfl)) (fun x h => run_auto_told x.1 x.2.1 x.2.2.1 h)

theorem p84 : Prog Tryz.prog (fun _ => True) k84 := p83.addLoop (.of Tryz.func6 (by kernel_rfl) (by kernel_rfl)) (fun x h => run_auto_InStep x.1 h)

theorem p85 : Prog Tryz.prog (fun _ => True) k85 := p84.addLoop (.of Tryz.func8 (by kernel_rfl) (by kernel_rfl)) (fun x h => run_auto_Step x.1 x.2.1 h)

theorem p86 : Prog Tryz.prog (fun _ => True) k86 := p85.addH (.of Tryz.func7 (by kernel_rfl) (by kernel_rfl)) (fun x h => run_newellaw23_own x.1 h)

theorem run_newellaw23_awake : ∃ F d, run k86 F d 5 Tryz.f5 s_newellaw23_awake (()) = some (r_newellaw23_awake.enc (true)) := ⟨200, 6, by kernel_rfl⟩
theorem p87 : Prog Tryz.prog (fun _ => True) k87 := p86.addLoop (.of Tryz.func5 (by kernel_rfl) (by kernel_rfl)) (fun x h => run_newellaw23_awake )

theorem run_newelref23_Planned (a0 : Int) : ∃ F d, run k87 F d 50 Tryz.f50 s_newelref23_Planned (a0, ()) = some (r_newelref23_Planned.enc (plannedM a0)) := ⟨200, 6, by kernel_rfl⟩
theorem p88 : Prog Tryz.prog (fun _ => True) k88 := p87.addLoop (.of Tryz.func50 (by kernel_rfl) (by kernel_rfl)) (fun x h => run_newelref23_Planned x.1)

theorem p89 : Prog Tryz.prog (fun _ => True) k89 := p88.addLoop (.of Tryz.func25 (by kernel_rfl) (by kernel_rfl)) (fun x h => run_newelref23_Gear x.1 x.2.1)

theorem p90 : Prog Tryz.prog (fun _ => True) k90 := p89.addLoop (.of Tryz.func27 (by kernel_rfl) (by kernel_rfl)) (fun x h => run_newelref23_Settle x.1 h)

theorem p91 : Prog Tryz.prog (fun _ => True) k91 := p90.addLoop (.of Tryz.func9 (by kernel_rfl) (by kernel_rfl)) (fun x h => run_newelref23_Check x.1 h)

set_option maxHeartbeats 0 in
theorem loop_rhome : ∀ ls os xs l e s' s, bSt P_rhome ls os xs = some s → g_rhome ls os xs = some (true, l, e, s') → ∃ fuel d, runL k91 fuel d 51 250 { keep := keep_rhome, m := 5, mv := sp_rhome.mv } kx_rhome c_rhome s = some (altK Prod.mk l e s') := by
  intro ls os xs l e s' s hb hg
  unfold g_rhome at hg
  split at hg
  · replace hg := takeI_some hg
    obtain ⟨v2_0, xs, rfl, hg⟩ := hg
    replace hg := takeI_some hg
    obtain ⟨v2_1, xs, rfl, hg⟩ := hg
    replace hg := takeI_some hg
    obtain ⟨v2_2, xs, rfl, hg⟩ := hg
    replace hg := takeI_some hg
    obtain ⟨v2_4, xs, rfl, hg⟩ := hg
    replace hg := takeI_some hg
    obtain ⟨v2_5, xs, rfl, hg⟩ := hg
    replace hg := takeI_some hg
    obtain ⟨v2_6, xs, rfl, hg⟩ := hg
    replace hg := takeI_some hg
    obtain ⟨v2_7, xs, rfl, hg⟩ := hg
    replace hg := takeI_some hg
    obtain ⟨v2_8, xs, rfl, hg⟩ := hg
    replace hg := takeI_some hg
    obtain ⟨v2_9, xs, rfl, hg⟩ := hg
    replace hg := takeI_some hg
    obtain ⟨v2_10, xs, rfl, hg⟩ := hg
    replace hg := takeI_some hg
    obtain ⟨v2_11, xs, rfl, hg⟩ := hg
    replace hg := takeI_some hg
    obtain ⟨v2_12, xs, rfl, hg⟩ := hg
    replace hg := takeI_some hg
    obtain ⟨v2_13, xs, rfl, hg⟩ := hg
    replace hg := takeI_some hg
    obtain ⟨v2_14, xs, rfl, hg⟩ := hg
    replace hg := takeI_some hg
    obtain ⟨v2_15, xs, rfl, hg⟩ := hg
    replace hg := takeI_some hg
    obtain ⟨v2_16, xs, rfl, hg⟩ := hg
    replace hg := takeI_some hg
    obtain ⟨v2_17, xs, rfl, hg⟩ := hg
    replace hg := takeI_some hg
    obtain ⟨v2_18, xs, rfl, hg⟩ := hg
    replace hg := takeI_some hg
    obtain ⟨v2_19, xs, rfl, hg⟩ := hg
    replace hg := takeI_some hg
    obtain ⟨v2_20, xs, rfl, hg⟩ := hg
    replace hg := takeI_some hg
    obtain ⟨v2_21, xs, rfl, hg⟩ := hg
    replace hg := takeI_some hg
    obtain ⟨v2_22, xs, rfl, hg⟩ := hg
    replace hg := takeI_some hg
    obtain ⟨v2_23, xs, rfl, hg⟩ := hg
    replace hg := takeI_some hg
    obtain ⟨v2_24, xs, rfl, hg⟩ := hg
    replace hg := takeI_some hg
    obtain ⟨v2_25, xs, rfl, hg⟩ := hg
    replace hg := takeI_some hg
    obtain ⟨v2_26, xs, rfl, hg⟩ := hg
    replace hg := takeI_some hg
    obtain ⟨v2_27, xs, rfl, hg⟩ := hg
    replace hg := takeI_some hg
    obtain ⟨v2_28, xs, rfl, hg⟩ := hg
    replace hg := takeI_some hg
    obtain ⟨v2_29, xs, rfl, hg⟩ := hg
    replace hg := takeI_some hg
    obtain ⟨v2_30, xs, rfl, hg⟩ := hg
    replace hg := takeI_some hg
    obtain ⟨v2_31, xs, rfl, hg⟩ := hg
    replace hg := takeI_some hg
    obtain ⟨v2_32, xs, rfl, hg⟩ := hg
    replace hg := takeI_some hg
    obtain ⟨v2_33, xs, rfl, hg⟩ := hg
    replace hg := takeI_some hg
    obtain ⟨v2_34, xs, rfl, hg⟩ := hg
    replace hg := takeB_some hg
    obtain ⟨v2_35, xs, rfl, hg⟩ := hg
    replace hg := takeI_some hg
    obtain ⟨v3_0, xs, rfl, hg⟩ := hg
    replace hg := takeI_some hg
    obtain ⟨v3_1, xs, rfl, hg⟩ := hg
    replace hg := takeI_some hg
    obtain ⟨v3_2, xs, rfl, hg⟩ := hg
    replace hg := takeI_some hg
    obtain ⟨v3_4, xs, rfl, hg⟩ := hg
    replace hg := takeI_some hg
    obtain ⟨v3_5, xs, rfl, hg⟩ := hg
    replace hg := takeI_some hg
    obtain ⟨v3_6, xs, rfl, hg⟩ := hg
    replace hg := takeI_some hg
    obtain ⟨v3_7, xs, rfl, hg⟩ := hg
    replace hg := takeI_some hg
    obtain ⟨v3_8, xs, rfl, hg⟩ := hg
    replace hg := takeI_some hg
    obtain ⟨v3_9, xs, rfl, hg⟩ := hg
    replace hg := takeI_some hg
    obtain ⟨v3_10, xs, rfl, hg⟩ := hg
    replace hg := takeI_some hg
    obtain ⟨v3_11, xs, rfl, hg⟩ := hg
    replace hg := takeI_some hg
    obtain ⟨v3_12, xs, rfl, hg⟩ := hg
    replace hg := takeI_some hg
    obtain ⟨v3_13, xs, rfl, hg⟩ := hg
    replace hg := takeI_some hg
    obtain ⟨v3_14, xs, rfl, hg⟩ := hg
    replace hg := takeI_some hg
    obtain ⟨v3_15, xs, rfl, hg⟩ := hg
    replace hg := takeI_some hg
    obtain ⟨v3_16, xs, rfl, hg⟩ := hg
    replace hg := takeI_some hg
    obtain ⟨v3_17, xs, rfl, hg⟩ := hg
    replace hg := takeI_some hg
    obtain ⟨v3_18, xs, rfl, hg⟩ := hg
    replace hg := takeI_some hg
    obtain ⟨v3_19, xs, rfl, hg⟩ := hg
    replace hg := takeI_some hg
    obtain ⟨v3_20, xs, rfl, hg⟩ := hg
    replace hg := takeI_some hg
    obtain ⟨v3_21, xs, rfl, hg⟩ := hg
    replace hg := takeI_some hg
    obtain ⟨v3_22, xs, rfl, hg⟩ := hg
    replace hg := takeI_some hg
    obtain ⟨v3_23, xs, rfl, hg⟩ := hg
    replace hg := takeI_some hg
    obtain ⟨v3_24, xs, rfl, hg⟩ := hg
    replace hg := takeI_some hg
    obtain ⟨v3_25, xs, rfl, hg⟩ := hg
    replace hg := takeI_some hg
    obtain ⟨v3_26, xs, rfl, hg⟩ := hg
    replace hg := takeI_some hg
    obtain ⟨v3_27, xs, rfl, hg⟩ := hg
    replace hg := takeI_some hg
    obtain ⟨v3_28, xs, rfl, hg⟩ := hg
    replace hg := takeI_some hg
    obtain ⟨v3_29, xs, rfl, hg⟩ := hg
    replace hg := takeI_some hg
    obtain ⟨v3_30, xs, rfl, hg⟩ := hg
    replace hg := takeI_some hg
    obtain ⟨v3_31, xs, rfl, hg⟩ := hg
    replace hg := takeI_some hg
    obtain ⟨v3_32, xs, rfl, hg⟩ := hg
    replace hg := takeI_some hg
    obtain ⟨v3_33, xs, rfl, hg⟩ := hg
    replace hg := takeI_some hg
    obtain ⟨v3_34, xs, rfl, hg⟩ := hg
    replace hg := takeB_some hg
    obtain ⟨v3_35, xs, rfl, hg⟩ := hg
    replace hg := takeI_some hg
    obtain ⟨v4_1, xs, rfl, hg⟩ := hg
    replace hg := takeI_some hg
    obtain ⟨v4_2, xs, rfl, hg⟩ := hg
    replace hg := takeI_some hg
    obtain ⟨v2, xs, rfl, hg⟩ := hg
    replace hg := takeI_some hg
    obtain ⟨v8, xs, rfl, hg⟩ := hg
    replace hg := takeE_some hg
    obtain ⟨rfl, hg⟩ := hg
    simp only [Option.some.injEq, Prod.mk.injEq] at hg
    obtain ⟨h1, rfl, rfl, rfl⟩ := hg
    rw [pat_rhome] at hb
    simp only [Option.some.injEq] at hb
    subst hb
    exact main_rhome _ _ _ _ _ _ _ _ _ _ _ _ _ _ _ _ _ _ _ _ _ _ _ _ _ _ _ _ _ _ _ _ _ _ _ _ _ _ _ _ _ _ _ _ _ _ _ _ _ _ _ _ _ _ _ _ _ _ _ _ _ _ _ _ _ _ _ _ _ _ _ _ _ _ _ _ _ h1
  · cases hg
set_option maxHeartbeats 0 in
theorem p92 : Prog Tryz.prog (fun _ => True) k92 := Prog.addL (cfg := k91) (f := 51) (p := 250) (cx := 1005) (keep := keep_rhome) (kx := kx_rhome) (m := 5) (mv := sp_rhome.mv) (Q := P_rhome) (g := g_rhome) p91 Tryz.func51 (by kernel_rfl) code_rhome (by kernel_rfl) rfl (by decide) loop_rhome

theorem p93 : Prog Tryz.prog (fun _ => True) k93 := p92.addLoop (.of Tryz.func49 (by kernel_rfl) (by kernel_rfl)) (fun x h => run_newelref23_Home x.1 x.2.1 x.2.2.1 h)

set_option maxHeartbeats 0 in
theorem loop_rgoing : ∀ ls os xs l e s' s, bSt P_rgoing ls os xs = some s → g_rgoing ls os xs = some (true, l, e, s') → ∃ fuel d, runL k93 fuel d 51 250 { keep := keep_rgoing, m := 7, mv := sp_rgoing.mv } kx_rgoing c_rgoing s = some (altK Prod.mk l e s') := by
  intro ls os xs l e s' s hb hg
  unfold g_rgoing at hg
  split at hg
  · replace hg := takeI_some hg
    obtain ⟨v2_0, xs, rfl, hg⟩ := hg
    replace hg := takeI_some hg
    obtain ⟨v2_1, xs, rfl, hg⟩ := hg
    replace hg := takeI_some hg
    obtain ⟨v2_2, xs, rfl, hg⟩ := hg
    replace hg := takeI_some hg
    obtain ⟨v2_4, xs, rfl, hg⟩ := hg
    replace hg := takeI_some hg
    obtain ⟨v2_5, xs, rfl, hg⟩ := hg
    replace hg := takeI_some hg
    obtain ⟨v2_6, xs, rfl, hg⟩ := hg
    replace hg := takeI_some hg
    obtain ⟨v2_7, xs, rfl, hg⟩ := hg
    replace hg := takeI_some hg
    obtain ⟨v2_8, xs, rfl, hg⟩ := hg
    replace hg := takeI_some hg
    obtain ⟨v2_9, xs, rfl, hg⟩ := hg
    replace hg := takeI_some hg
    obtain ⟨v2_10, xs, rfl, hg⟩ := hg
    replace hg := takeI_some hg
    obtain ⟨v2_11, xs, rfl, hg⟩ := hg
    replace hg := takeI_some hg
    obtain ⟨v2_12, xs, rfl, hg⟩ := hg
    replace hg := takeI_some hg
    obtain ⟨v2_13, xs, rfl, hg⟩ := hg
    replace hg := takeI_some hg
    obtain ⟨v2_14, xs, rfl, hg⟩ := hg
    replace hg := takeI_some hg
    obtain ⟨v2_15, xs, rfl, hg⟩ := hg
    replace hg := takeI_some hg
    obtain ⟨v2_16, xs, rfl, hg⟩ := hg
    replace hg := takeI_some hg
    obtain ⟨v2_17, xs, rfl, hg⟩ := hg
    replace hg := takeI_some hg
    obtain ⟨v2_18, xs, rfl, hg⟩ := hg
    replace hg := takeI_some hg
    obtain ⟨v2_19, xs, rfl, hg⟩ := hg
    replace hg := takeI_some hg
    obtain ⟨v2_20, xs, rfl, hg⟩ := hg
    replace hg := takeI_some hg
    obtain ⟨v2_21, xs, rfl, hg⟩ := hg
    replace hg := takeI_some hg
    obtain ⟨v2_22, xs, rfl, hg⟩ := hg
    replace hg := takeI_some hg
    obtain ⟨v2_23, xs, rfl, hg⟩ := hg
    replace hg := takeI_some hg
    obtain ⟨v2_24, xs, rfl, hg⟩ := hg
    replace hg := takeI_some hg
    obtain ⟨v2_25, xs, rfl, hg⟩ := hg
    replace hg := takeI_some hg
    obtain ⟨v2_26, xs, rfl, hg⟩ := hg
    replace hg := takeI_some hg
    obtain ⟨v2_27, xs, rfl, hg⟩ := hg
    replace hg := takeI_some hg
    obtain ⟨v2_28, xs, rfl, hg⟩ := hg
    replace hg := takeI_some hg
    obtain ⟨v2_29, xs, rfl, hg⟩ := hg
    replace hg := takeI_some hg
    obtain ⟨v2_30, xs, rfl, hg⟩ := hg
    replace hg := takeI_some hg
    obtain ⟨v2_31, xs, rfl, hg⟩ := hg
    replace hg := takeI_some hg
    obtain ⟨v2_32, xs, rfl, hg⟩ := hg
    replace hg := takeI_some hg
    obtain ⟨v2_33, xs, rfl, hg⟩ := hg
    replace hg := takeI_some hg
    obtain ⟨v2_34, xs, rfl, hg⟩ := hg
    replace hg := takeB_some hg
    obtain ⟨v2_35, xs, rfl, hg⟩ := hg
    replace hg := takeI_some hg
    obtain ⟨v2_37, xs, rfl, hg⟩ := hg
    replace hg := takeI_some hg
    obtain ⟨v2_38, xs, rfl, hg⟩ := hg
    replace hg := takeI_some hg
    obtain ⟨v2_39, xs, rfl, hg⟩ := hg
    replace hg := takeI_some hg
    obtain ⟨v2_40, xs, rfl, hg⟩ := hg
    replace hg := takeI_some hg
    obtain ⟨v2_41, xs, rfl, hg⟩ := hg
    replace hg := takeI_some hg
    obtain ⟨v2_42, xs, rfl, hg⟩ := hg
    replace hg := takeI_some hg
    obtain ⟨v2_43, xs, rfl, hg⟩ := hg
    replace hg := takeI_some hg
    obtain ⟨v2_44, xs, rfl, hg⟩ := hg
    replace hg := takeI_some hg
    obtain ⟨v2_45, xs, rfl, hg⟩ := hg
    replace hg := takeI_some hg
    obtain ⟨v2_46, xs, rfl, hg⟩ := hg
    replace hg := takeI_some hg
    obtain ⟨v3_0, xs, rfl, hg⟩ := hg
    replace hg := takeI_some hg
    obtain ⟨v3_1, xs, rfl, hg⟩ := hg
    replace hg := takeI_some hg
    obtain ⟨v3_2, xs, rfl, hg⟩ := hg
    replace hg := takeI_some hg
    obtain ⟨v3_3, xs, rfl, hg⟩ := hg
    replace hg := takeI_some hg
    obtain ⟨v3_4, xs, rfl, hg⟩ := hg
    replace hg := takeI_some hg
    obtain ⟨v3_5, xs, rfl, hg⟩ := hg
    replace hg := takeI_some hg
    obtain ⟨v3_6, xs, rfl, hg⟩ := hg
    replace hg := takeI_some hg
    obtain ⟨v3_7, xs, rfl, hg⟩ := hg
    replace hg := takeI_some hg
    obtain ⟨v3_8, xs, rfl, hg⟩ := hg
    replace hg := takeI_some hg
    obtain ⟨v4_0, xs, rfl, hg⟩ := hg
    replace hg := takeI_some hg
    obtain ⟨v4_1, xs, rfl, hg⟩ := hg
    replace hg := takeI_some hg
    obtain ⟨v4_2, xs, rfl, hg⟩ := hg
    replace hg := takeI_some hg
    obtain ⟨v4_3, xs, rfl, hg⟩ := hg
    replace hg := takeI_some hg
    obtain ⟨v4_4, xs, rfl, hg⟩ := hg
    replace hg := takeI_some hg
    obtain ⟨v4_5, xs, rfl, hg⟩ := hg
    replace hg := takeI_some hg
    obtain ⟨v4_6, xs, rfl, hg⟩ := hg
    replace hg := takeI_some hg
    obtain ⟨v4_7, xs, rfl, hg⟩ := hg
    replace hg := takeI_some hg
    obtain ⟨v4_8, xs, rfl, hg⟩ := hg
    replace hg := takeI_some hg
    obtain ⟨v4_9, xs, rfl, hg⟩ := hg
    replace hg := takeI_some hg
    obtain ⟨v5_0, xs, rfl, hg⟩ := hg
    replace hg := takeI_some hg
    obtain ⟨v5_1, xs, rfl, hg⟩ := hg
    replace hg := takeI_some hg
    obtain ⟨v5_2, xs, rfl, hg⟩ := hg
    replace hg := takeI_some hg
    obtain ⟨v5_4, xs, rfl, hg⟩ := hg
    replace hg := takeI_some hg
    obtain ⟨v5_5, xs, rfl, hg⟩ := hg
    replace hg := takeI_some hg
    obtain ⟨v5_6, xs, rfl, hg⟩ := hg
    replace hg := takeI_some hg
    obtain ⟨v5_7, xs, rfl, hg⟩ := hg
    replace hg := takeI_some hg
    obtain ⟨v5_8, xs, rfl, hg⟩ := hg
    replace hg := takeI_some hg
    obtain ⟨v5_9, xs, rfl, hg⟩ := hg
    replace hg := takeI_some hg
    obtain ⟨v5_10, xs, rfl, hg⟩ := hg
    replace hg := takeI_some hg
    obtain ⟨v5_11, xs, rfl, hg⟩ := hg
    replace hg := takeI_some hg
    obtain ⟨v5_12, xs, rfl, hg⟩ := hg
    replace hg := takeI_some hg
    obtain ⟨v5_13, xs, rfl, hg⟩ := hg
    replace hg := takeI_some hg
    obtain ⟨v5_14, xs, rfl, hg⟩ := hg
    replace hg := takeI_some hg
    obtain ⟨v5_15, xs, rfl, hg⟩ := hg
    replace hg := takeI_some hg
    obtain ⟨v5_16, xs, rfl, hg⟩ := hg
    replace hg := takeI_some hg
    obtain ⟨v5_17, xs, rfl, hg⟩ := hg
    replace hg := takeI_some hg
    obtain ⟨v5_18, xs, rfl, hg⟩ := hg
    replace hg := takeI_some hg
    obtain ⟨v5_19, xs, rfl, hg⟩ := hg
    replace hg := takeI_some hg
    obtain ⟨v5_20, xs, rfl, hg⟩ := hg
    replace hg := takeI_some hg
    obtain ⟨v5_21, xs, rfl, hg⟩ := hg
    replace hg := takeI_some hg
    obtain ⟨v5_22, xs, rfl, hg⟩ := hg
    replace hg := takeI_some hg
    obtain ⟨v5_23, xs, rfl, hg⟩ := hg
    replace hg := takeI_some hg
    obtain ⟨v5_24, xs, rfl, hg⟩ := hg
    replace hg := takeI_some hg
    obtain ⟨v5_25, xs, rfl, hg⟩ := hg
    replace hg := takeI_some hg
    obtain ⟨v5_26, xs, rfl, hg⟩ := hg
    replace hg := takeI_some hg
    obtain ⟨v5_27, xs, rfl, hg⟩ := hg
    replace hg := takeI_some hg
    obtain ⟨v5_28, xs, rfl, hg⟩ := hg
    replace hg := takeI_some hg
    obtain ⟨v5_29, xs, rfl, hg⟩ := hg
    replace hg := takeI_some hg
    obtain ⟨v5_30, xs, rfl, hg⟩ := hg
    replace hg := takeI_some hg
    obtain ⟨v5_31, xs, rfl, hg⟩ := hg
    replace hg := takeI_some hg
    obtain ⟨v5_32, xs, rfl, hg⟩ := hg
    replace hg := takeI_some hg
    obtain ⟨v5_33, xs, rfl, hg⟩ := hg
    replace hg := takeI_some hg
    obtain ⟨v5_34, xs, rfl, hg⟩ := hg
    replace hg := takeB_some hg
    obtain ⟨v5_35, xs, rfl, hg⟩ := hg
    replace hg := takeI_some hg
    obtain ⟨v6_1, xs, rfl, hg⟩ := hg
    replace hg := takeI_some hg
    obtain ⟨v6_2, xs, rfl, hg⟩ := hg
    replace hg := takeI_some hg
    obtain ⟨v2, xs, rfl, hg⟩ := hg
    replace hg := takeI_some hg
    obtain ⟨v8, xs, rfl, hg⟩ := hg
    replace hg := takeE_some hg
    obtain ⟨rfl, hg⟩ := hg
    simp only [Option.some.injEq, Prod.mk.injEq] at hg
    obtain ⟨h1, rfl, rfl, rfl⟩ := hg
    rw [pat_rgoing] at hb
    simp only [Option.some.injEq] at hb
    subst hb
    exact main_rgoing _ _ _ _ _ _ _ _ _ _ _ _ _ _ _ _ _ _ _ _ _ _ _ _ _ _ _ _ _ _ _ _ _ _ _ _ _ _ _ _ _ _ _ _ _ _ _ _ _ _ _ _ _ _ _ _ _ _ _ _ _ _ _ _ _ _ _ _ _ _ _ _ _ _ _ _ _ _ _ _ _ _ _ _ _ _ _ _ _ _ _ _ _ _ _ _ _ _ _ _ _ _ _ _ _ _ h1
  · cases hg
set_option maxHeartbeats 0 in
theorem p94 : Prog Tryz.prog (fun _ => True) k94 := Prog.addL (cfg := k93) (f := 51) (p := 250) (cx := 1007) (keep := keep_rgoing) (kx := kx_rgoing) (m := 7) (mv := sp_rgoing.mv) (Q := P_rgoing) (g := g_rgoing) p93 Tryz.func51 (by kernel_rfl) code_rgoing (by kernel_rfl) rfl (by decide) loop_rgoing

theorem p95 : Prog Tryz.prog (fun _ => True) k95 := p94.addLoop (.of Tryz.func28 (by kernel_rfl) (by kernel_rfl)) (fun x h => run_newelref23_Going x.1 h)

theorem p96 : Prog Tryz.prog (fun _ => True) k96 := p95.addLoop (.of Tryz.func11 (by kernel_rfl) (by kernel_rfl)) (fun x h => run_newelref23_InStep x.1 h)

theorem p97 : Prog Tryz.prog (fun _ => True) k97 := p96.addLoop (.of Tryz.func26 (by kernel_rfl) (by kernel_rfl)) (fun x h => run_newelref23_Told x.1 x.2.1 h)

theorem p98 : Prog Tryz.prog (fun _ => True) k98 := p97.addLoop (.of Tryz.func10 (by kernel_rfl) (by kernel_rfl)) (fun x h => run_newelref23_Step x.1 x.2.1 h)

theorem law_newellaw23_AutoSteps : ∀ x, s_newellaw23_AutoSteps.wf x → ∃ fuel d, run k98 fuel d 3 Tryz.f3 s_newellaw23_AutoSteps x = some (.bool true) := fun x hx => run_newellaw23_AutoSteps x.1 x.2.1 hx
theorem p99 : Prog Tryz.prog (fun _ => True) k99 := p98

end Go.Proofs.YtdpdmjjpdebpeaaGreat.Px.PxR
