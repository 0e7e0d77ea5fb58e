/- A seat's functions are what their contracts say. -/
import Derived.Test.YtdpdmjjpdebpeaaPxQSteps
import Derived.Test.YtdpdmjjpdebpeaaPxQAuto
import Derived.Test.YtdpdmjjpdebpeaaPxQProofs
import Derived.Test.YtdpdmjjpdebpeaaPxQProofs2
import Derived.Test.YtdpdmjjpdebpeaaPxQProofs3
import Derived.Test.YtdpdmjjpdebpeaaPxQProofs4
import Derived.Test.YtdpdmjjpdebpeaaPxQProofs5
import Derived.Test.YtdpdmjjpdebpeaaPxQLAutoSettles
set_option linter.unusedVariables false
set_option linter.unusedSimpArgs false
namespace Go.Proofs.Ytdpdmjjpdebpeaa.Px.PxQ
open Go Go.Proofs

theorem run_config_within (a0 : Int) (a1 : Int) (a2 : Int) : ∃ F d, run k0 F d 67 Try.f67 s_config_within (a0, a1, a2, ()) = some (r_config_within.enc (inB a0 a1 a2)) := ⟨200, 6, by kernel_rfl⟩
theorem p1 : Prog Try.prog (fun _ => True) k1 := p0.addLoop (.of Try.func67 (by kernel_rfl) (by kernel_rfl)) (fun x h => run_config_within x.1 x.2.1 x.2.2.1)

theorem run_zone_within (a0 : Int) (a1 : Int) (a2 : Int) : ∃ F d, run k1 F d 69 Try.f69 s_zone_within (a0, a1, a2, ()) = some (r_zone_within.enc (inB a0 a1 a2)) := ⟨200, 6, by kernel_rfl⟩
theorem p2 : Prog Try.prog (fun _ => True) k2 := p1.addLoop (.of Try.func69 (by kernel_rfl) (by kernel_rfl)) (fun x h => run_zone_within x.1 x.2.1 x.2.2.1)

theorem p3 : Prog Try.prog (fun _ => True) k3 := p2.addLoop (.of Try.func66 (by kernel_rfl) (by kernel_rfl)) (fun x h => run_config_must x.1 x.2.1)

theorem p4 : Prog Try.prog (fun _ => True) k4 := p3.addLoop (.of Try.func73 (by kernel_rfl) (by kernel_rfl)) (fun x h => run_config_Window x.1)

theorem p5 : Prog Try.prog (fun _ => True) k5 := p4.addLoop (.of Try.func43 (by kernel_rfl) (by kernel_rfl)) (fun x h => run_config_size x.1)

set_option maxHeartbeats 0 in
theorem loop_stops : ∀ ls os xs l e s' s, bSt P_stops ls os xs = some s → g_stops ls os xs = some (true, l, e, s') → ∃ fuel d, runL k5 fuel d 44 58 { keep := keep_stops, m := 3, mv := sp_stops.mv } kx_stops c_stops s = some (altK Prod.mk l e s') := by
  intro ls os xs l e s' s hb hg
  unfold g_stops at hg
  split at hg
  · replace hg := takeI_some hg
    obtain ⟨v2_0, xs, rfl, hg⟩ := hg
    replace hg := takeI_some hg
    obtain ⟨v2_1, xs, rfl, hg⟩ := hg
    replace hg := takeI_some hg
    obtain ⟨v2_2, xs, rfl, hg⟩ := hg
    replace hg := takeI_some hg
    obtain ⟨v2_4, xs, rfl, hg⟩ := hg
    replace hg := takeI_some hg
    obtain ⟨v2_5, xs, rfl, hg⟩ := hg
    replace hg := takeI_some hg
    obtain ⟨v2_6, xs, rfl, hg⟩ := hg
    replace hg := takeI_some hg
    obtain ⟨v2_7, xs, rfl, hg⟩ := hg
    replace hg := takeI_some hg
    obtain ⟨v2_8, xs, rfl, hg⟩ := hg
    replace hg := takeI_some hg
    obtain ⟨v2_9, xs, rfl, hg⟩ := hg
    replace hg := takeI_some hg
    obtain ⟨v2_10, xs, rfl, hg⟩ := hg
    replace hg := takeI_some hg
    obtain ⟨v2_11, xs, rfl, hg⟩ := hg
    replace hg := takeI_some hg
    obtain ⟨v2_12, xs, rfl, hg⟩ := hg
    replace hg := takeI_some hg
    obtain ⟨v2_13, xs, rfl, hg⟩ := hg
    replace hg := takeI_some hg
    obtain ⟨v2_14, xs, rfl, hg⟩ := hg
    replace hg := takeI_some hg
    obtain ⟨v2_15, xs, rfl, hg⟩ := hg
    replace hg := takeI_some hg
    obtain ⟨v2_16, xs, rfl, hg⟩ := hg
    replace hg := takeI_some hg
    obtain ⟨v2_17, xs, rfl, hg⟩ := hg
    replace hg := takeI_some hg
    obtain ⟨v2_18, xs, rfl, hg⟩ := hg
    replace hg := takeI_some hg
    obtain ⟨v2_19, xs, rfl, hg⟩ := hg
    replace hg := takeI_some hg
    obtain ⟨v2_20, xs, rfl, hg⟩ := hg
    replace hg := takeI_some hg
    obtain ⟨v2_21, xs, rfl, hg⟩ := hg
    replace hg := takeI_some hg
    obtain ⟨v2_22, xs, rfl, hg⟩ := hg
    replace hg := takeI_some hg
    obtain ⟨v2_23, xs, rfl, hg⟩ := hg
    replace hg := takeI_some hg
    obtain ⟨v2_24, xs, rfl, hg⟩ := hg
    replace hg := takeI_some hg
    obtain ⟨v2_25, xs, rfl, hg⟩ := hg
    replace hg := takeI_some hg
    obtain ⟨v2_26, xs, rfl, hg⟩ := hg
    replace hg := takeI_some hg
    obtain ⟨v2_27, xs, rfl, hg⟩ := hg
    replace hg := takeI_some hg
    obtain ⟨v2_28, xs, rfl, hg⟩ := hg
    replace hg := takeI_some hg
    obtain ⟨v2_29, xs, rfl, hg⟩ := hg
    replace hg := takeI_some hg
    obtain ⟨v2_30, xs, rfl, hg⟩ := hg
    replace hg := takeI_some hg
    obtain ⟨v2_31, xs, rfl, hg⟩ := hg
    replace hg := takeI_some hg
    obtain ⟨v2_32, xs, rfl, hg⟩ := hg
    replace hg := takeI_some hg
    obtain ⟨v2_33, xs, rfl, hg⟩ := hg
    replace hg := takeI_some hg
    obtain ⟨v2_34, xs, rfl, hg⟩ := hg
    replace hg := takeB_some hg
    obtain ⟨v2_35, xs, rfl, hg⟩ := hg
    replace hg := takeB_some hg
    obtain ⟨v3, xs, rfl, hg⟩ := hg
    replace hg := takeI_some hg
    obtain ⟨v12, xs, rfl, hg⟩ := hg
    replace hg := takeI_some hg
    obtain ⟨v13, xs, rfl, hg⟩ := hg
    replace hg := takeE_some hg
    obtain ⟨rfl, hg⟩ := hg
    simp only [Option.some.injEq, Prod.mk.injEq] at hg
    obtain ⟨h1, rfl, rfl, rfl⟩ := hg
    rw [pat_stops] at hb
    simp only [Option.some.injEq] at hb
    subst hb
    exact main_stops _ _ _ _ _ _ _ _ _ _ _ _ _ _ _ _ _ _ _ _ _ _ _ _ _ _ _ _ _ _ _ _ _ _ _ _ _ _ _ _ h1
  · cases hg
set_option maxHeartbeats 0 in
theorem p6 : Prog Try.prog (fun _ => True) k6 := Prog.addL (cfg := k5) (f := 44) (p := 58) (keep := keep_stops) (kx := kx_stops) (m := 3) (mv := sp_stops.mv) (Q := P_stops) (g := g_stops) p5 Try.func44 (by kernel_rfl) code_stops (by kernel_rfl) rfl (by decide) loop_stops

theorem p7 : Prog Try.prog (fun _ => True) k7 := p6.addLoop (.of Try.func44 (by kernel_rfl) (by kernel_rfl)) (fun x h => run_config_stops x.1 h)

theorem p8 : Prog Try.prog (fun _ => True) k8 := p7.addLoop (.of Try.func45 (by kernel_rfl) (by kernel_rfl)) (fun x h => run_config_times x.1)

theorem p9 : Prog Try.prog (fun _ => True) k9 := p8.addLoop (.of Try.func47 (by kernel_rfl) (by kernel_rfl)) (fun x h => run_zone_Check x.1)

theorem p10 : Prog Try.prog (fun _ => True) k10 := p9.addLoop (.of Try.func49 (by kernel_rfl) (by kernel_rfl)) (fun x h => run_sunset_Check x.1)

set_option maxHeartbeats 0 in
theorem loop_wins : ∀ ls os xs l e s' s, bSt P_wins ls os xs = some s → g_wins ls os xs = some (true, l, e, s') → ∃ fuel d, runL k10 fuel d 87 26 { keep := keep_wins, m := 3, mv := sp_wins.mv } kx_wins c_wins s = some (altK Prod.mk l e s') := by
  intro ls os xs l e s' s hb hg
  unfold g_wins at hg
  split at hg
  · replace hg := takeI_some hg
    obtain ⟨v2_0, xs, rfl, hg⟩ := hg
    replace hg := takeI_some hg
    obtain ⟨v2_1, xs, rfl, hg⟩ := hg
    replace hg := takeI_some hg
    obtain ⟨v2_2, xs, rfl, hg⟩ := hg
    replace hg := takeI_some hg
    obtain ⟨v2_4, xs, rfl, hg⟩ := hg
    replace hg := takeI_some hg
    obtain ⟨v2_5, xs, rfl, hg⟩ := hg
    replace hg := takeI_some hg
    obtain ⟨v2_6, xs, rfl, hg⟩ := hg
    replace hg := takeI_some hg
    obtain ⟨v2_7, xs, rfl, hg⟩ := hg
    replace hg := takeI_some hg
    obtain ⟨v2_8, xs, rfl, hg⟩ := hg
    replace hg := takeI_some hg
    obtain ⟨v2_9, xs, rfl, hg⟩ := hg
    replace hg := takeI_some hg
    obtain ⟨v2_10, xs, rfl, hg⟩ := hg
    replace hg := takeI_some hg
    obtain ⟨v2_11, xs, rfl, hg⟩ := hg
    replace hg := takeI_some hg
    obtain ⟨v2_12, xs, rfl, hg⟩ := hg
    replace hg := takeI_some hg
    obtain ⟨v2_13, xs, rfl, hg⟩ := hg
    replace hg := takeI_some hg
    obtain ⟨v2_14, xs, rfl, hg⟩ := hg
    replace hg := takeI_some hg
    obtain ⟨v2_15, xs, rfl, hg⟩ := hg
    replace hg := takeI_some hg
    obtain ⟨v2_16, xs, rfl, hg⟩ := hg
    replace hg := takeI_some hg
    obtain ⟨v2_17, xs, rfl, hg⟩ := hg
    replace hg := takeI_some hg
    obtain ⟨v2_18, xs, rfl, hg⟩ := hg
    replace hg := takeI_some hg
    obtain ⟨v2_19, xs, rfl, hg⟩ := hg
    replace hg := takeI_some hg
    obtain ⟨v2_20, xs, rfl, hg⟩ := hg
    replace hg := takeI_some hg
    obtain ⟨v2_21, xs, rfl, hg⟩ := hg
    replace hg := takeI_some hg
    obtain ⟨v2_22, xs, rfl, hg⟩ := hg
    replace hg := takeI_some hg
    obtain ⟨v2_23, xs, rfl, hg⟩ := hg
    replace hg := takeI_some hg
    obtain ⟨v2_24, xs, rfl, hg⟩ := hg
    replace hg := takeI_some hg
    obtain ⟨v2_25, xs, rfl, hg⟩ := hg
    replace hg := takeI_some hg
    obtain ⟨v2_26, xs, rfl, hg⟩ := hg
    replace hg := takeI_some hg
    obtain ⟨v2_27, xs, rfl, hg⟩ := hg
    replace hg := takeI_some hg
    obtain ⟨v2_28, xs, rfl, hg⟩ := hg
    replace hg := takeI_some hg
    obtain ⟨v2_29, xs, rfl, hg⟩ := hg
    replace hg := takeI_some hg
    obtain ⟨v2_30, xs, rfl, hg⟩ := hg
    replace hg := takeI_some hg
    obtain ⟨v2_31, xs, rfl, hg⟩ := hg
    replace hg := takeI_some hg
    obtain ⟨v2_32, xs, rfl, hg⟩ := hg
    replace hg := takeI_some hg
    obtain ⟨v2_33, xs, rfl, hg⟩ := hg
    replace hg := takeI_some hg
    obtain ⟨v2_34, xs, rfl, hg⟩ := hg
    replace hg := takeB_some hg
    obtain ⟨v2_35, xs, rfl, hg⟩ := hg
    replace hg := takeI_some hg
    obtain ⟨v7, xs, rfl, hg⟩ := hg
    replace hg := takeI_some hg
    obtain ⟨v8, xs, rfl, hg⟩ := hg
    replace hg := takeE_some hg
    obtain ⟨rfl, hg⟩ := hg
    simp only [Option.some.injEq, Prod.mk.injEq] at hg
    obtain ⟨h1, rfl, rfl, rfl⟩ := hg
    rw [pat_wins] at hb
    simp only [Option.some.injEq] at hb
    subst hb
    exact main_wins _ _ _ _ _ _ _ _ _ _ _ _ _ _ _ _ _ _ _ _ _ _ _ _ _ _ _ _ _ _ _ _ _ _ _ _ _ _ _ h1
  · cases hg
set_option maxHeartbeats 0 in
theorem p11 : Prog Try.prog (fun _ => True) k11 := Prog.addL (cfg := k10) (f := 87) (p := 26) (keep := keep_wins) (kx := kx_wins) (m := 3) (mv := sp_wins.mv) (Q := P_wins) (g := g_wins) p10 Try.func87 (by kernel_rfl) code_wins (by kernel_rfl) rfl (by decide) loop_wins

theorem p12 : Prog Try.prog (fun _ => True) k12 := p11.addLoop (.of Try.func50 (by kernel_rfl) (by kernel_rfl)) (fun x h => run_config_windows x.1 h)

theorem p13 : Prog Try.prog (fun _ => True) k13 := p12.addLoop (.of Try.func24 (by kernel_rfl) (by kernel_rfl)) (fun x h => run_config_Check x.1 h)

theorem p14 : Prog Try.prog (fun _ => True) k14 := p13.addLoop (.of Try.func9 (by kernel_rfl) (by kernel_rfl)) (fun x h => run_newelref10_Few x.1)

theorem p15 : Prog Try.prog (fun _ => True) k15 := p14.addH (.of Try.func12 (by kernel_rfl) (by kernel_rfl)) (fun x h => run_newellaw10_Own x.1 h)

theorem p16 : Prog Try.prog (fun _ => True) k16 := p15.addLoop (.of Try.func60 (by kernel_rfl) (by kernel_rfl)) (fun x h => run_newelref10_timed x.1)

theorem p17 : Prog Try.prog (fun _ => True) k17 := p16.addLoop (.of Try.func58 (by kernel_rfl) (by kernel_rfl)) (fun x h => run_newelref10_tick x.1)

theorem p18 : Prog Try.prog (fun _ => True) k18 := p17.addLoop (.of Try.func59 (by kernel_rfl) (by kernel_rfl)) (fun x h => run_newelref06_turn x.1)

theorem p19 : Prog Try.prog (fun _ => True) k19 := p18.addLoop (.of Try.func35 (by kernel_rfl) (by kernel_rfl)) (fun x h => run_newelref10_Window x.1)

theorem p20 : Prog Try.prog (fun _ => True) k20 := p19.addLoop (.of Try.func33 (by kernel_rfl) (by kernel_rfl)) (fun x h => run_newelref06_Check x.1)

theorem p21 : Prog Try.prog (fun _ => True) k21 := p20.addLoop (.of Try.func34 (by kernel_rfl) (by kernel_rfl)) (fun x h => run_newelref07_Check x.1)

theorem p22 : Prog Try.prog (fun _ => True) k22 := p21.addLoop (.of Try.func32 (by kernel_rfl) (by kernel_rfl)) (fun x h => run_newelref10_times x.1)

set_option maxHeartbeats 0 in
theorem loop_rstops : ∀ ls os xs l e s' s, bSt P_rstops ls os xs = some s → g_rstops ls os xs = some (true, l, e, s') → ∃ fuel d, runL k22 fuel d 31 26 { keep := keep_rstops, m := 3, mv := sp_rstops.mv } kx_rstops c_rstops s = some (altK Prod.mk l e s') := by
  intro ls os xs l e s' s hb hg
  unfold g_rstops at hg
  split at hg
  · replace hg := takeI_some hg
    obtain ⟨v2_0, xs, rfl, hg⟩ := hg
    replace hg := takeI_some hg
    obtain ⟨v2_1, xs, rfl, hg⟩ := hg
    replace hg := takeI_some hg
    obtain ⟨v2_2, xs, rfl, hg⟩ := hg
    replace hg := takeI_some hg
    obtain ⟨v2_4, xs, rfl, hg⟩ := hg
    replace hg := takeI_some hg
    obtain ⟨v2_5, xs, rfl, hg⟩ := hg
    replace hg := takeI_some hg
    obtain ⟨v2_6, xs, rfl, hg⟩ := hg
    replace hg := takeI_some hg
    obtain ⟨v2_7, xs, rfl, hg⟩ := hg
    replace hg := takeI_some hg
    obtain ⟨v2_8, xs, rfl, hg⟩ := hg
    replace hg := takeI_some hg
    obtain ⟨v2_9, xs, rfl, hg⟩ := hg
    replace hg := takeI_some hg
    obtain ⟨v2_10, xs, rfl, hg⟩ := hg
    replace hg := takeI_some hg
    obtain ⟨v2_11, xs, rfl, hg⟩ := hg
    replace hg := takeI_some hg
    obtain ⟨v2_12, xs, rfl, hg⟩ := hg
    replace hg := takeI_some hg
    obtain ⟨v2_13, xs, rfl, hg⟩ := hg
    replace hg := takeI_some hg
    obtain ⟨v2_14, xs, rfl, hg⟩ := hg
    replace hg := takeI_some hg
    obtain ⟨v2_15, xs, rfl, hg⟩ := hg
    replace hg := takeI_some hg
    obtain ⟨v2_16, xs, rfl, hg⟩ := hg
    replace hg := takeI_some hg
    obtain ⟨v2_17, xs, rfl, hg⟩ := hg
    replace hg := takeI_some hg
    obtain ⟨v2_18, xs, rfl, hg⟩ := hg
    replace hg := takeI_some hg
    obtain ⟨v2_19, xs, rfl, hg⟩ := hg
    replace hg := takeI_some hg
    obtain ⟨v2_20, xs, rfl, hg⟩ := hg
    replace hg := takeI_some hg
    obtain ⟨v2_21, xs, rfl, hg⟩ := hg
    replace hg := takeI_some hg
    obtain ⟨v2_22, xs, rfl, hg⟩ := hg
    replace hg := takeI_some hg
    obtain ⟨v2_23, xs, rfl, hg⟩ := hg
    replace hg := takeI_some hg
    obtain ⟨v2_24, xs, rfl, hg⟩ := hg
    replace hg := takeI_some hg
    obtain ⟨v2_25, xs, rfl, hg⟩ := hg
    replace hg := takeI_some hg
    obtain ⟨v2_26, xs, rfl, hg⟩ := hg
    replace hg := takeI_some hg
    obtain ⟨v2_27, xs, rfl, hg⟩ := hg
    replace hg := takeI_some hg
    obtain ⟨v2_28, xs, rfl, hg⟩ := hg
    replace hg := takeI_some hg
    obtain ⟨v2_29, xs, rfl, hg⟩ := hg
    replace hg := takeI_some hg
    obtain ⟨v2_30, xs, rfl, hg⟩ := hg
    replace hg := takeI_some hg
    obtain ⟨v2_31, xs, rfl, hg⟩ := hg
    replace hg := takeI_some hg
    obtain ⟨v2_32, xs, rfl, hg⟩ := hg
    replace hg := takeI_some hg
    obtain ⟨v2_33, xs, rfl, hg⟩ := hg
    replace hg := takeI_some hg
    obtain ⟨v2_34, xs, rfl, hg⟩ := hg
    replace hg := takeB_some hg
    obtain ⟨v2_35, xs, rfl, hg⟩ := hg
    replace hg := takeI_some hg
    obtain ⟨v3, xs, rfl, hg⟩ := hg
    replace hg := takeE_some hg
    obtain ⟨rfl, hg⟩ := hg
    simp only [Option.some.injEq, Prod.mk.injEq] at hg
    obtain ⟨h1, rfl, rfl, rfl⟩ := hg
    rw [pat_rstops] at hb
    simp only [Option.some.injEq] at hb
    subst hb
    exact main_rstops _ _ _ _ _ _ _ _ _ _ _ _ _ _ _ _ _ _ _ _ _ _ _ _ _ _ _ _ _ _ _ _ _ _ _ _ _ _ h1
  · cases hg
set_option maxHeartbeats 0 in
theorem p23 : Prog Try.prog (fun _ => True) k23 := Prog.addL (cfg := k22) (f := 31) (p := 26) (keep := keep_rstops) (kx := kx_rstops) (m := 3) (mv := sp_rstops.mv) (Q := P_rstops) (g := g_rstops) p22 Try.func31 (by kernel_rfl) code_rstops (by kernel_rfl) rfl (by decide) loop_rstops

theorem p24 : Prog Try.prog (fun _ => True) k24 := p23.addLoop (.of Try.func31 (by kernel_rfl) (by kernel_rfl)) (fun x h => run_newelref10_stops x.1 h)

set_option maxHeartbeats 0 in
theorem loop_rwins : ∀ ls os xs l e s' s, bSt P_rwins ls os xs = some s → g_rwins ls os xs = some (true, l, e, s') → ∃ fuel d, runL k24 fuel d 15 32762 { keep := keep_rwins, m := 3, mv := sp_rwins.mv } kx_rwins c_rwins s = some (altK Prod.mk l e s') := by
  intro ls os xs l e s' s hb hg
  unfold g_rwins at hg
  split at hg
  · replace hg := takeI_some hg
    obtain ⟨v2_0, xs, rfl, hg⟩ := hg
    replace hg := takeI_some hg
    obtain ⟨v2_1, xs, rfl, hg⟩ := hg
    replace hg := takeI_some hg
    obtain ⟨v2_2, xs, rfl, hg⟩ := hg
    replace hg := takeI_some hg
    obtain ⟨v2_4, xs, rfl, hg⟩ := hg
    replace hg := takeI_some hg
    obtain ⟨v2_5, xs, rfl, hg⟩ := hg
    replace hg := takeI_some hg
    obtain ⟨v2_6, xs, rfl, hg⟩ := hg
    replace hg := takeI_some hg
    obtain ⟨v2_7, xs, rfl, hg⟩ := hg
    replace hg := takeI_some hg
    obtain ⟨v2_8, xs, rfl, hg⟩ := hg
    replace hg := takeI_some hg
    obtain ⟨v2_9, xs, rfl, hg⟩ := hg
    replace hg := takeI_some hg
    obtain ⟨v2_10, xs, rfl, hg⟩ := hg
    replace hg := takeI_some hg
    obtain ⟨v2_11, xs, rfl, hg⟩ := hg
    replace hg := takeI_some hg
    obtain ⟨v2_12, xs, rfl, hg⟩ := hg
    replace hg := takeI_some hg
    obtain ⟨v2_13, xs, rfl, hg⟩ := hg
    replace hg := takeI_some hg
    obtain ⟨v2_14, xs, rfl, hg⟩ := hg
    replace hg := takeI_some hg
    obtain ⟨v2_15, xs, rfl, hg⟩ := hg
    replace hg := takeI_some hg
    obtain ⟨v2_16, xs, rfl, hg⟩ := hg
    replace hg := takeI_some hg
    obtain ⟨v2_17, xs, rfl, hg⟩ := hg
    replace hg := takeI_some hg
    obtain ⟨v2_18, xs, rfl, hg⟩ := hg
    replace hg := takeI_some hg
    obtain ⟨v2_19, xs, rfl, hg⟩ := hg
    replace hg := takeI_some hg
    obtain ⟨v2_20, xs, rfl, hg⟩ := hg
    replace hg := takeI_some hg
    obtain ⟨v2_21, xs, rfl, hg⟩ := hg
    replace hg := takeI_some hg
    obtain ⟨v2_22, xs, rfl, hg⟩ := hg
    replace hg := takeI_some hg
    obtain ⟨v2_23, xs, rfl, hg⟩ := hg
    replace hg := takeI_some hg
    obtain ⟨v2_24, xs, rfl, hg⟩ := hg
    replace hg := takeI_some hg
    obtain ⟨v2_25, xs, rfl, hg⟩ := hg
    replace hg := takeI_some hg
    obtain ⟨v2_26, xs, rfl, hg⟩ := hg
    replace hg := takeI_some hg
    obtain ⟨v2_27, xs, rfl, hg⟩ := hg
    replace hg := takeI_some hg
    obtain ⟨v2_28, xs, rfl, hg⟩ := hg
    replace hg := takeI_some hg
    obtain ⟨v2_29, xs, rfl, hg⟩ := hg
    replace hg := takeI_some hg
    obtain ⟨v2_30, xs, rfl, hg⟩ := hg
    replace hg := takeI_some hg
    obtain ⟨v2_31, xs, rfl, hg⟩ := hg
    replace hg := takeI_some hg
    obtain ⟨v2_32, xs, rfl, hg⟩ := hg
    replace hg := takeI_some hg
    obtain ⟨v2_33, xs, rfl, hg⟩ := hg
    replace hg := takeI_some hg
    obtain ⟨v2_34, xs, rfl, hg⟩ := hg
    replace hg := takeB_some hg
    obtain ⟨v2_35, xs, rfl, hg⟩ := hg
    replace hg := takeI_some hg
    obtain ⟨v7, xs, rfl, hg⟩ := hg
    replace hg := takeE_some hg
    obtain ⟨rfl, hg⟩ := hg
    simp only [Option.some.injEq, Prod.mk.injEq] at hg
    obtain ⟨h1, rfl, rfl, rfl⟩ := hg
    rw [pat_rwins] at hb
    simp only [Option.some.injEq] at hb
    subst hb
    exact main_rwins _ _ _ _ _ _ _ _ _ _ _ _ _ _ _ _ _ _ _ _ _ _ _ _ _ _ _ _ _ _ _ _ _ _ _ _ _ _ h1
  · cases hg
set_option maxHeartbeats 0 in
theorem p25 : Prog Try.prog (fun _ => True) k25 := Prog.addL (cfg := k24) (f := 15) (p := 32762) (keep := keep_rwins) (kx := kx_rwins) (m := 3) (mv := sp_rwins.mv) (Q := P_rwins) (g := g_rwins) p24 Try.func15 (by kernel_rfl) code_rwins (by kernel_rfl) rfl (by decide) loop_rwins

theorem p26 : Prog Try.prog (fun _ => True) k26 := p25.addLoop (.of Try.func15 (by kernel_rfl) (by kernel_rfl)) (fun x h => run_newelref10_Check x.1 h)

theorem p27 : Prog Try.prog (fun _ => True) k27 := p26.addLoop (.of Try.func78 (by kernel_rfl) (by kernel_rfl)) (fun x h => run_door_within x.1 x.2.1 x.2.2.1)

theorem p28 : Prog Try.prog (fun _ => True) k28 := p27.addLoop (.of Try.func54 (by kernel_rfl) (by kernel_rfl)) (fun x h => run_car_within x.1 x.2.1 x.2.2.1)

theorem p29 : Prog Try.prog (fun _ => True) k29 := p28.addLoop (.of Try.func96 (by kernel_rfl) (by kernel_rfl)) (fun x h => run_door_times x.1)

theorem p30 : Prog Try.prog (fun _ => True) k30 := p29.addLoop (.of Try.func95 (by kernel_rfl) (by kernel_rfl)) (fun x h => run_door_gear x.1)

theorem p31 : Prog Try.prog (fun _ => True) k31 := p30.addLoop (.of Try.func92 (by kernel_rfl) (by kernel_rfl)) (fun x h => run_door_on x.1 x.2.1 x.2.2.1)

theorem p32 : Prog Try.prog (fun _ => True) k32 := p31.addLoop (.of Try.func90 (by kernel_rfl) (by kernel_rfl)) (fun x h => run_door_phases_1 x.1 x.2.1 x.2.2.1)

theorem p33 : Prog Try.prog (fun _ => True) k33 := p32.addLoop (.of Try.func91 (by kernel_rfl) (by kernel_rfl)) (fun x h => run_door_phases_2 x.1 x.2.1 x.2.2.1)

theorem p34 : Prog Try.prog (fun _ => True) k34 := p33.addLoop (.of Try.func93 (by kernel_rfl) (by kernel_rfl)) (fun x h => run_door_open x.1 x.2.1 x.2.2.1)

theorem p35 : Prog Try.prog (fun _ => True) k35 := p34.addLoop (.of Try.func94 (by kernel_rfl) (by kernel_rfl)) (fun x h => run_door_closing x.1 x.2.1 x.2.2.1)

theorem run_door_phases : ∃ F d, run k35 F d 79 Try.f79 s_door_phases (()) = some (r_door_phases.enc (())) := ⟨200, 6, by kernel_rfl⟩
theorem p36 : Prog Try.prog (fun _ => True) k36 := p35.addLoop (.of Try.func79 (by kernel_rfl) (by kernel_rfl)) (fun x h => run_door_phases )

theorem p37 : Prog Try.prog (fun _ => True) k37 := p36.addLoop (.of Try.func55 (by kernel_rfl) (by kernel_rfl)) (fun x h => run_door_Check x.1)

theorem p38 : Prog Try.prog (fun _ => True) k38 := p37.addLoop (.of Try.func84 (by kernel_rfl) (by kernel_rfl)) (fun x h => run_door_Ask x.1 x.2.1)

theorem p39 : Prog Try.prog (fun _ => True) k39 := p38.addLoop (.of Try.func85 (by kernel_rfl) (by kernel_rfl)) (fun x h => run_door_Step x.1 x.2.1 x.2.2.1)

theorem p40 : Prog Try.prog (fun _ => True) k40 := p39.addLoop (.of Try.func82 (by kernel_rfl) (by kernel_rfl)) (fun x h => run_door_Rest x.1 x.2.1)

theorem p41 : Prog Try.prog (fun _ => True) k41 := p40.addLoop (.of Try.func27 (by kernel_rfl) (by kernel_rfl)) (fun x h => run_car_Check x.1 x.2.1)

theorem p42 : Prog Try.prog (fun _ => True) k42 := p41.addLoop (.of Try.func62 (by kernel_rfl) (by kernel_rfl)) (fun x h => run_car_check x.1 x.2.1)

theorem p43 : Prog Try.prog (fun _ => True) k43 := p42.addLoop (.of Try.func40 (by kernel_rfl) (by kernel_rfl)) (fun x h => run_car_Step x.1 x.2.1 x.2.2.1)

theorem p44 : Prog Try.prog (fun _ => True) k44 := p43.addLoop (.of Try.func75 (by kernel_rfl) (by kernel_rfl)) (fun x h => run_car_Rest x.1 x.2.1)

theorem p45 : Prog Try.prog (fun _ => True) k45 := p44.addLoop (.of Try.func89 (by kernel_rfl) (by kernel_rfl)) (fun x h => run_cycle_sign x.1)

theorem p46 : Prog Try.prog (fun _ => True) k46 := p45.addLoop (.of Try.func76 (by kernel_rfl) (by kernel_rfl)) (fun x h => run_cycle_stop x.1 h)

set_option maxHeartbeats 0 in
theorem loop_row : ∀ ls os xs l e s' s, bSt P_row ls os xs = some s → g_row ls os xs = some (true, l, e, s') → ∃ fuel d, runL k46 fuel d 80 58 { keep := keep_row, m := 4, mv := sp_row.mv } kx_row c_row s = some (altK Prod.mk l e s') := by
  intro ls os xs l e s' s hb hg
  unfold g_row at hg
  split at hg
  · replace hg := takeI_some hg
    obtain ⟨v1_1, xs, rfl, hg⟩ := hg
    replace hg := takeI_some hg
    obtain ⟨v1_2, xs, rfl, hg⟩ := hg
    replace hg := takeI_some hg
    obtain ⟨v4, xs, rfl, hg⟩ := hg
    replace hg := takeE_some hg
    obtain ⟨rfl, hg⟩ := hg
    simp only [Option.some.injEq, Prod.mk.injEq] at hg
    obtain ⟨h1, rfl, rfl, rfl⟩ := hg
    rw [pat_row] at hb
    simp only [Option.some.injEq] at hb
    subst hb
    exact main_row _ _ _ _ _ h1
  · cases hg
set_option maxHeartbeats 0 in
theorem p47 : Prog Try.prog (fun _ => True) k47 := Prog.addL (cfg := k46) (f := 80) (p := 58) (keep := keep_row) (kx := kx_row) (m := 4) (mv := sp_row.mv) (Q := P_row) (g := g_row) p46 Try.func80 (by kernel_rfl) code_row (by kernel_rfl) rfl (by decide) loop_row

theorem p48 : Prog Try.prog (fun _ => True) k48 := p47.addH (.of Try.func80 (by kernel_rfl) (by kernel_rfl)) (fun x h => run_cycle_row x.1 h)

theorem p49 : Prog Try.prog (fun _ => True) k49 := p48.addLoop (.of Try.func81 (by kernel_rfl) (by kernel_rfl)) (fun x h => run_cycle_place x.1 x.2.1 h)

set_option maxHeartbeats 0 in
theorem loop_check : ∀ ls os xs l e s' s, bSt P_check ls os xs = some s → g_check ls os xs = some (true, l, e, s') → ∃ fuel d, runL k49 fuel d 51 58 { keep := keep_check, m := 3, mv := sp_check.mv } kx_check c_check s = some (altK Prod.mk l e s') := by
  intro ls os xs l e s' s hb hg
  unfold g_check at hg
  split at hg
  · replace hg := takeI_some hg
    obtain ⟨v1_0, xs, rfl, hg⟩ := hg
    replace hg := takeI_some hg
    obtain ⟨v1_1, xs, rfl, hg⟩ := hg
    replace hg := takeI_some hg
    obtain ⟨v1_2, xs, rfl, hg⟩ := hg
    replace hg := takeI_some hg
    obtain ⟨v1_3, xs, rfl, hg⟩ := hg
    replace hg := takeI_some hg
    obtain ⟨v1_4, xs, rfl, hg⟩ := hg
    replace hg := takeI_some hg
    obtain ⟨v1_5, xs, rfl, hg⟩ := hg
    replace hg := takeI_some hg
    obtain ⟨v1_6, xs, rfl, hg⟩ := hg
    replace hg := takeI_some hg
    obtain ⟨v1_7, xs, rfl, hg⟩ := hg
    replace hg := takeI_some hg
    obtain ⟨v1_8, xs, rfl, hg⟩ := hg
    replace hg := takeI_some hg
    obtain ⟨v1_9, xs, rfl, hg⟩ := hg
    replace hg := takeI_some hg
    obtain ⟨v2_1, xs, rfl, hg⟩ := hg
    replace hg := takeI_some hg
    obtain ⟨v2_2, xs, rfl, hg⟩ := hg
    replace hg := takeB_some hg
    obtain ⟨v5, xs, rfl, hg⟩ := hg
    replace hg := takeI_some hg
    obtain ⟨v38, xs, rfl, hg⟩ := hg
    replace hg := takeI_some hg
    obtain ⟨v39, xs, rfl, hg⟩ := hg
    replace hg := takeE_some hg
    obtain ⟨rfl, hg⟩ := hg
    simp only [Option.some.injEq, Prod.mk.injEq] at hg
    obtain ⟨h1, rfl, rfl, rfl⟩ := hg
    rw [pat_check] at hb
    simp only [Option.some.injEq] at hb
    subst hb
    exact main_check _ _ _ _ _ _ _ _ _ _ _ _ _ _ _ _ h1
  · cases hg
set_option maxHeartbeats 0 in
theorem p50 : Prog Try.prog (fun _ => True) k50 := Prog.addL (cfg := k49) (f := 51) (p := 58) (keep := keep_check) (kx := kx_check) (m := 3) (mv := sp_check.mv) (Q := P_check) (g := g_check) p49 Try.func51 (by kernel_rfl) code_check (by kernel_rfl) rfl (by decide) loop_check

theorem p51 : Prog Try.prog (fun _ => True) k51 := p50.addLoop (.of Try.func51 (by kernel_rfl) (by kernel_rfl)) (fun x h => run_cycle_check x.1 x.2.1 h)

theorem p52 : Prog Try.prog (fun _ => True) k52 := p51.addLoop (.of Try.func52 (by kernel_rfl) (by kernel_rfl)) (fun x h => run_cycle_length x.1 x.2.1 h)

theorem p53 : Prog Try.prog (fun _ => True) k53 := p52.addLoop (.of Try.func25 (by kernel_rfl) (by kernel_rfl)) (fun x h => run_cycle_Length x.1 x.2.1 h)

theorem p54 : Prog Try.prog (fun _ => True) k54 := p53.addLoop (.of Try.func57 (by kernel_rfl) (by kernel_rfl)) (fun x h => run_cycle_First x.1 x.2.1 h)

set_option maxHeartbeats 0 in
theorem loop_wride : ∀ ls os xs l e s' s, bSt P_wride ls os xs = some s → g_wride ls os xs = some (true, l, e, s') → ∃ fuel d, runL k54 fuel d 88 193342 { keep := keep_wride, m := 13, mv := sp_wride.mv } kx_wride c_wride s = some (altK Prod.mk l e s') := by
  intro ls os xs l e s' s hb hg
  unfold g_wride at hg
  split at hg
  · replace hg := takeI_some hg
    obtain ⟨v1_0, xs, rfl, hg⟩ := hg
    replace hg := takeI_some hg
    obtain ⟨v1_1, xs, rfl, hg⟩ := hg
    replace hg := takeI_some hg
    obtain ⟨v1_2, xs, rfl, hg⟩ := hg
    replace hg := takeI_some hg
    obtain ⟨v1_3, xs, rfl, hg⟩ := hg
    replace hg := takeI_some hg
    obtain ⟨v1_4, xs, rfl, hg⟩ := hg
    replace hg := takeI_some hg
    obtain ⟨v1_5, xs, rfl, hg⟩ := hg
    replace hg := takeI_some hg
    obtain ⟨v1_6, xs, rfl, hg⟩ := hg
    replace hg := takeI_some hg
    obtain ⟨v1_7, xs, rfl, hg⟩ := hg
    replace hg := takeI_some hg
    obtain ⟨v1_8, xs, rfl, hg⟩ := hg
    replace hg := takeI_some hg
    obtain ⟨v1_9, xs, rfl, hg⟩ := hg
    replace hg := takeI_some hg
    obtain ⟨v2_1, xs, rfl, hg⟩ := hg
    replace hg := takeI_some hg
    obtain ⟨v2_2, xs, rfl, hg⟩ := hg
    replace hg := takeI_some hg
    obtain ⟨v3_0, xs, rfl, hg⟩ := hg
    replace hg := takeI_some hg
    obtain ⟨v4_0, xs, rfl, hg⟩ := hg
    replace hg := takeI_some hg
    obtain ⟨v4_1, xs, rfl, hg⟩ := hg
    replace hg := takeI_some hg
    obtain ⟨v4_2, xs, rfl, hg⟩ := hg
    replace hg := takeI_some hg
    obtain ⟨v5_0, xs, rfl, hg⟩ := hg
    replace hg := takeI_some hg
    obtain ⟨v6_0, xs, rfl, hg⟩ := hg
    replace hg := takeI_some hg
    obtain ⟨v7_0, xs, rfl, hg⟩ := hg
    replace hg := takeI_some hg
    obtain ⟨v7_1, xs, rfl, hg⟩ := hg
    replace hg := takeI_some hg
    obtain ⟨v7_2, xs, rfl, hg⟩ := hg
    replace hg := takeI_some hg
    obtain ⟨v7_3, xs, rfl, hg⟩ := hg
    replace hg := takeI_some hg
    obtain ⟨v7_4, xs, rfl, hg⟩ := hg
    replace hg := takeI_some hg
    obtain ⟨v7_5, xs, rfl, hg⟩ := hg
    replace hg := takeI_some hg
    obtain ⟨v7_6, xs, rfl, hg⟩ := hg
    replace hg := takeI_some hg
    obtain ⟨v7_7, xs, rfl, hg⟩ := hg
    replace hg := takeI_some hg
    obtain ⟨v7_8, xs, rfl, hg⟩ := hg
    replace hg := takeI_some hg
    obtain ⟨v7_9, xs, rfl, hg⟩ := hg
    replace hg := takeI_some hg
    obtain ⟨v8_1, xs, rfl, hg⟩ := hg
    replace hg := takeI_some hg
    obtain ⟨v8_2, xs, rfl, hg⟩ := hg
    replace hg := takeI_some hg
    obtain ⟨v12_0, xs, rfl, hg⟩ := hg
    replace hg := takeI_some hg
    obtain ⟨v12_1, xs, rfl, hg⟩ := hg
    replace hg := takeI_some hg
    obtain ⟨v12_2, xs, rfl, hg⟩ := hg
    replace hg := takeI_some hg
    obtain ⟨v5, xs, rfl, hg⟩ := hg
    replace hg := takeI_some hg
    obtain ⟨v6, xs, rfl, hg⟩ := hg
    replace hg := takeI_some hg
    obtain ⟨v8, xs, rfl, hg⟩ := hg
    replace hg := takeI_some hg
    obtain ⟨v9, xs, rfl, hg⟩ := hg
    replace hg := takeI_some hg
    obtain ⟨v10, xs, rfl, hg⟩ := hg
    replace hg := takeI_some hg
    obtain ⟨v18, xs, rfl, hg⟩ := hg
    replace hg := takeI_some hg
    obtain ⟨v19, xs, rfl, hg⟩ := hg
    replace hg := takeE_some hg
    obtain ⟨rfl, hg⟩ := hg
    simp only [Option.some.injEq, Prod.mk.injEq] at hg
    obtain ⟨h1, rfl, rfl, rfl⟩ := hg
    rw [pat_wride] at hb
    simp only [Option.some.injEq] at hb
    subst hb
    exact main_wride _ _ _ _ _ _ _ _ _ _ _ _ _ _ _ _ _ _ _ _ _ _ _ _ _ _ _ _ _ _ _ _ _ _ _ _ _ _ _ _ _ _ h1
  · cases hg
set_option maxHeartbeats 0 in
theorem p55 : Prog Try.prog (fun _ => True) k55 := Prog.addL (cfg := k54) (f := 88) (p := 193342) (cx := 1) (keep := keep_wride) (kx := kx_wride) (m := 13) (mv := sp_wride.mv) (Q := P_wride) (g := g_wride) p54 Try.func88 (by kernel_rfl) code_wride (by kernel_rfl) rfl (by decide) loop_wride

set_option maxHeartbeats 0 in
theorem loop_wstop : ∀ ls os xs l e s' s, bSt P_wstop ls os xs = some s → g_wstop ls os xs = some (true, l, e, s') → ∃ fuel d, runL k55 fuel d 88 94 { keep := keep_wstop, m := 12, mv := sp_wstop.mv } kx_wstop c_wstop s = some (altK Prod.mk l e s') := by
  intro ls os xs l e s' s hb hg
  unfold g_wstop at hg
  split at hg
  · replace hg := takeI_some hg
    obtain ⟨v1_0, xs, rfl, hg⟩ := hg
    replace hg := takeI_some hg
    obtain ⟨v1_1, xs, rfl, hg⟩ := hg
    replace hg := takeI_some hg
    obtain ⟨v1_2, xs, rfl, hg⟩ := hg
    replace hg := takeI_some hg
    obtain ⟨v1_3, xs, rfl, hg⟩ := hg
    replace hg := takeI_some hg
    obtain ⟨v1_4, xs, rfl, hg⟩ := hg
    replace hg := takeI_some hg
    obtain ⟨v1_5, xs, rfl, hg⟩ := hg
    replace hg := takeI_some hg
    obtain ⟨v1_6, xs, rfl, hg⟩ := hg
    replace hg := takeI_some hg
    obtain ⟨v1_7, xs, rfl, hg⟩ := hg
    replace hg := takeI_some hg
    obtain ⟨v1_8, xs, rfl, hg⟩ := hg
    replace hg := takeI_some hg
    obtain ⟨v1_9, xs, rfl, hg⟩ := hg
    replace hg := takeI_some hg
    obtain ⟨v2_1, xs, rfl, hg⟩ := hg
    replace hg := takeI_some hg
    obtain ⟨v2_2, xs, rfl, hg⟩ := hg
    replace hg := takeI_some hg
    obtain ⟨v3_0, xs, rfl, hg⟩ := hg
    replace hg := takeI_some hg
    obtain ⟨v4_0, xs, rfl, hg⟩ := hg
    replace hg := takeI_some hg
    obtain ⟨v4_1, xs, rfl, hg⟩ := hg
    replace hg := takeI_some hg
    obtain ⟨v4_2, xs, rfl, hg⟩ := hg
    replace hg := takeI_some hg
    obtain ⟨v5_0, xs, rfl, hg⟩ := hg
    replace hg := takeI_some hg
    obtain ⟨v6_0, xs, rfl, hg⟩ := hg
    replace hg := takeI_some hg
    obtain ⟨v7_0, xs, rfl, hg⟩ := hg
    replace hg := takeI_some hg
    obtain ⟨v7_1, xs, rfl, hg⟩ := hg
    replace hg := takeI_some hg
    obtain ⟨v7_2, xs, rfl, hg⟩ := hg
    replace hg := takeI_some hg
    obtain ⟨v7_3, xs, rfl, hg⟩ := hg
    replace hg := takeI_some hg
    obtain ⟨v7_4, xs, rfl, hg⟩ := hg
    replace hg := takeI_some hg
    obtain ⟨v7_5, xs, rfl, hg⟩ := hg
    replace hg := takeI_some hg
    obtain ⟨v7_6, xs, rfl, hg⟩ := hg
    replace hg := takeI_some hg
    obtain ⟨v7_7, xs, rfl, hg⟩ := hg
    replace hg := takeI_some hg
    obtain ⟨v7_8, xs, rfl, hg⟩ := hg
    replace hg := takeI_some hg
    obtain ⟨v7_9, xs, rfl, hg⟩ := hg
    replace hg := takeI_some hg
    obtain ⟨v8_1, xs, rfl, hg⟩ := hg
    replace hg := takeI_some hg
    obtain ⟨v8_2, xs, rfl, hg⟩ := hg
    replace hg := takeI_some hg
    obtain ⟨v5, xs, rfl, hg⟩ := hg
    replace hg := takeI_some hg
    obtain ⟨v6, xs, rfl, hg⟩ := hg
    replace hg := takeI_some hg
    obtain ⟨v18, xs, rfl, hg⟩ := hg
    replace hg := takeI_some hg
    obtain ⟨v19, xs, rfl, hg⟩ := hg
    replace hg := takeE_some hg
    obtain ⟨rfl, hg⟩ := hg
    simp only [Option.some.injEq, Prod.mk.injEq] at hg
    obtain ⟨h1, rfl, rfl, rfl⟩ := hg
    rw [pat_wstop] at hb
    simp only [Option.some.injEq] at hb
    subst hb
    exact main_wstop _ _ _ _ _ _ _ _ _ _ _ _ _ _ _ _ _ _ _ _ _ _ _ _ _ _ _ _ _ _ _ _ _ _ _ _ h1
  · cases hg
set_option maxHeartbeats 0 in
theorem p56 : Prog Try.prog (fun _ => True) k56 := Prog.addL (cfg := k55) (f := 88) (p := 94) (cx := 1) (keep := keep_wstop) (kx := kx_wstop) (m := 12) (mv := sp_wstop.mv) (Q := P_wstop) (g := g_wstop) p55 Try.func88 (by kernel_rfl) code_wstop (by kernel_rfl) rfl (by decide) loop_wstop

theorem p57 : Prog Try.prog (fun _ => True) k57 := p56.addLoop (.of Try.func53 (by kernel_rfl) (by kernel_rfl)) (fun x h => run_cycle_within x.1 x.2.1 x.2.2.1 h)

theorem p58 : Prog Try.prog (fun _ => True) k58 := p57.addLoop (.of Try.func26 (by kernel_rfl) (by kernel_rfl)) (fun x h => run_cycle_At x.1 x.2.1 x.2.2.1 h)

theorem p59 : Prog Try.prog (fun _ => True) k59 := p58.addLoop (.of Try.func65 (by kernel_rfl) (by kernel_rfl)) (fun x h => run_cycle_Cmd x.1 x.2.1 x.2.2.1 h)

theorem p60 : Prog Try.prog (fun _ => True) k60 := p59.addLoop (.of Try.func61 (by kernel_rfl) (by kernel_rfl)) (fun x h => run_newelref22_Many x.1 h)

theorem p61 : Prog Try.prog (fun _ => True) k61 := p60.addLoop (.of Try.func37 (by kernel_rfl) (by kernel_rfl)) (fun x h => run_newelref22_Stop x.1 x.2.1 h)

theorem p62 : Prog Try.prog (fun _ => True) k62 := p61.addLoop (.of Try.func38 (by kernel_rfl) (by kernel_rfl)) (fun x h => run_newelref22_Place x.1 h)

theorem p63 : Prog Try.prog (fun _ => True) k63 := p62.addLoop (.of Try.func11 (by kernel_rfl) (by kernel_rfl)) (fun x h => run_auto_Gear x.1 x.2.1 h)

set_option maxHeartbeats 0 in
theorem loop_aplan : ∀ ls os xs l e s' s, bSt P_aplan ls os xs = some s → g_aplan ls os xs = some (true, l, e, s') → ∃ fuel d, runL k63 fuel d 56 3770 { keep := keep_aplan, m := 5, mv := sp_aplan.mv } kx_aplan c_aplan s = some (altK Prod.mk l e s') := by
  intro ls os xs l e s' s hb hg
  unfold g_aplan at hg
  split at hg
  · replace hg := takeI_some hg
    obtain ⟨v2_0, xs, rfl, hg⟩ := hg
    replace hg := takeI_some hg
    obtain ⟨v2_1, xs, rfl, hg⟩ := hg
    replace hg := takeI_some hg
    obtain ⟨v2_2, xs, rfl, hg⟩ := hg
    replace hg := takeI_some hg
    obtain ⟨v2_4, xs, rfl, hg⟩ := hg
    replace hg := takeI_some hg
    obtain ⟨v2_5, xs, rfl, hg⟩ := hg
    replace hg := takeI_some hg
    obtain ⟨v2_6, xs, rfl, hg⟩ := hg
    replace hg := takeI_some hg
    obtain ⟨v2_7, xs, rfl, hg⟩ := hg
    replace hg := takeI_some hg
    obtain ⟨v2_8, xs, rfl, hg⟩ := hg
    replace hg := takeI_some hg
    obtain ⟨v2_9, xs, rfl, hg⟩ := hg
    replace hg := takeI_some hg
    obtain ⟨v2_10, xs, rfl, hg⟩ := hg
    replace hg := takeI_some hg
    obtain ⟨v2_11, xs, rfl, hg⟩ := hg
    replace hg := takeI_some hg
    obtain ⟨v2_12, xs, rfl, hg⟩ := hg
    replace hg := takeI_some hg
    obtain ⟨v2_13, xs, rfl, hg⟩ := hg
    replace hg := takeI_some hg
    obtain ⟨v2_14, xs, rfl, hg⟩ := hg
    replace hg := takeI_some hg
    obtain ⟨v2_15, xs, rfl, hg⟩ := hg
    replace hg := takeI_some hg
    obtain ⟨v2_16, xs, rfl, hg⟩ := hg
    replace hg := takeI_some hg
    obtain ⟨v2_17, xs, rfl, hg⟩ := hg
    replace hg := takeI_some hg
    obtain ⟨v2_18, xs, rfl, hg⟩ := hg
    replace hg := takeI_some hg
    obtain ⟨v2_19, xs, rfl, hg⟩ := hg
    replace hg := takeI_some hg
    obtain ⟨v2_20, xs, rfl, hg⟩ := hg
    replace hg := takeI_some hg
    obtain ⟨v2_21, xs, rfl, hg⟩ := hg
    replace hg := takeI_some hg
    obtain ⟨v2_22, xs, rfl, hg⟩ := hg
    replace hg := takeI_some hg
    obtain ⟨v2_23, xs, rfl, hg⟩ := hg
    replace hg := takeI_some hg
    obtain ⟨v2_24, xs, rfl, hg⟩ := hg
    replace hg := takeI_some hg
    obtain ⟨v2_25, xs, rfl, hg⟩ := hg
    replace hg := takeI_some hg
    obtain ⟨v2_26, xs, rfl, hg⟩ := hg
    replace hg := takeI_some hg
    obtain ⟨v2_27, xs, rfl, hg⟩ := hg
    replace hg := takeI_some hg
    obtain ⟨v2_28, xs, rfl, hg⟩ := hg
    replace hg := takeI_some hg
    obtain ⟨v2_29, xs, rfl, hg⟩ := hg
    replace hg := takeI_some hg
    obtain ⟨v2_30, xs, rfl, hg⟩ := hg
    replace hg := takeI_some hg
    obtain ⟨v2_31, xs, rfl, hg⟩ := hg
    replace hg := takeI_some hg
    obtain ⟨v2_32, xs, rfl, hg⟩ := hg
    replace hg := takeI_some hg
    obtain ⟨v2_33, xs, rfl, hg⟩ := hg
    replace hg := takeI_some hg
    obtain ⟨v2_34, xs, rfl, hg⟩ := hg
    replace hg := takeB_some hg
    obtain ⟨v2_35, xs, rfl, hg⟩ := hg
    replace hg := takeI_some hg
    obtain ⟨v3_1, xs, rfl, hg⟩ := hg
    replace hg := takeI_some hg
    obtain ⟨v3_2, xs, rfl, hg⟩ := hg
    replace hg := takeI_some hg
    obtain ⟨v4_1, xs, rfl, hg⟩ := hg
    replace hg := takeI_some hg
    obtain ⟨v4_2, xs, rfl, hg⟩ := hg
    replace hg := takeI_some hg
    obtain ⟨v26, xs, rfl, hg⟩ := hg
    replace hg := takeI_some hg
    obtain ⟨v27, xs, rfl, hg⟩ := hg
    replace hg := takeE_some hg
    obtain ⟨rfl, hg⟩ := hg
    simp only [Option.some.injEq, Prod.mk.injEq] at hg
    obtain ⟨h1, rfl, rfl, rfl⟩ := hg
    rw [pat_aplan] at hb
    simp only [Option.some.injEq] at hb
    subst hb
    exact main_aplan _ _ _ _ _ _ _ _ _ _ _ _ _ _ _ _ _ _ _ _ _ _ _ _ _ _ _ _ _ _ _ _ _ _ _ _ _ _ _ _ _ _ _ _ h1
  · cases hg
set_option maxHeartbeats 0 in
theorem p64 : Prog Try.prog (fun _ => True) k64 := Prog.addL (cfg := k63) (f := 56) (p := 3770) (keep := keep_aplan) (kx := kx_aplan) (m := 5) (mv := sp_aplan.mv) (Q := P_aplan) (g := g_aplan) p63 Try.func56 (by kernel_rfl) code_aplan (by kernel_rfl) rfl (by decide) loop_aplan

theorem p65 : Prog Try.prog (fun _ => True) k65 := p64.addH (.of Try.func56 (by kernel_rfl) (by kernel_rfl)) (fun x h => run_auto_plan x.1 x.2.1 x.2.2.1 h)

theorem p66 : Prog Try.prog (fun _ => True) k66 := p65.addLoop (.of Try.func29 (by kernel_rfl) (by kernel_rfl)) (fun x h => run_auto_settle x.1 h)

theorem p67 : Prog Try.prog (fun _ => True) k67 := p66.addH (.of Try.func30 (by kernel_rfl) (by kernel_rfl)) (fun x h => run_auto_of x.1 x.2.1 x.2.2.1 h)

theorem p68 : Prog Try.prog (fun _ => True) k68 := p67.addH (.of Try.func14 (by kernel_rfl) (by kernel_rfl)) (fun x h => run_auto_Home x.1 x.2.1 x.2.2.1 h)

theorem p69 : Prog Try.prog (fun _ => True) k69 := p68.addLoop (.of Try.func13 (by kernel_rfl) (by kernel_rfl)) (fun x h => run_auto_Settle x.1 h)

theorem p70 : Prog Try.prog (fun _ => True) k70 := p69.addLoop (.of Try.func39 (by kernel_rfl) (by kernel_rfl)) (fun x h => run_auto_check x.1 h)

theorem p71 : Prog Try.prog (fun _ => True) k71 := p70.addLoop (.of Try.func42 (by kernel_rfl) (by kernel_rfl)) (fun x h => run_auto_tick x.1 x.2.1 h)

theorem p72 : Prog Try.prog (fun _ => True) k72 := p71.addLoop (.of Try.func41 (by kernel_rfl) (by kernel_rfl)) (fun x h => run_auto_told x.1 x.2.1 x.2.2.1 h)

theorem p73 : Prog Try.prog (fun _ => True) k73 := p72.addLoop (.of Try.func23 (by kernel_rfl) (by kernel_rfl)) (fun x h => run_auto_InStep x.1 h)

theorem p74 : Prog Try.prog (fun _ => True) k74 := p73.addLoop (.of Try.func21 (by kernel_rfl) (by kernel_rfl)) (fun x h => run_auto_Step x.1 x.2.1 h)

theorem p75 : Prog Try.prog (fun _ => True) k75 := p74.addH (.of Try.func22 (by kernel_rfl) (by kernel_rfl)) (fun x h => run_newellaw23_own x.1 h)

theorem run_newellaw23_awake : ∃ F d, run k75 F d 10 Try.f10 s_newellaw23_awake (()) = some (r_newellaw23_awake.enc (true)) := ⟨200, 6, by kernel_rfl⟩
theorem p76 : Prog Try.prog (fun _ => True) k76 := p75.addLoop (.of Try.func10 (by kernel_rfl) (by kernel_rfl)) (fun x h => run_newellaw23_awake )

theorem run_newelref23_Planned (a0 : Int) : ∃ F d, run k76 F d 36 Try.f36 s_newelref23_Planned (a0, ()) = some (r_newelref23_Planned.enc (plannedM a0)) := ⟨200, 6, by kernel_rfl⟩
theorem p77 : Prog Try.prog (fun _ => True) k77 := p76.addLoop (.of Try.func36 (by kernel_rfl) (by kernel_rfl)) (fun x h => run_newelref23_Planned x.1)

theorem p78 : Prog Try.prog (fun _ => True) k78 := p77.addLoop (.of Try.func17 (by kernel_rfl) (by kernel_rfl)) (fun x h => run_newelref23_Gear x.1 x.2.1)

theorem p79 : Prog Try.prog (fun _ => True) k79 := p78.addLoop (.of Try.func16 (by kernel_rfl) (by kernel_rfl)) (fun x h => run_newelref23_Settle x.1 h)

set_option maxHeartbeats 0 in
theorem loop_rhome : ∀ ls os xs l e s' s, bSt P_rhome ls os xs = some s → g_rhome ls os xs = some (true, l, e, s') → ∃ fuel d, runL k79 fuel d 18 250 { keep := keep_rhome, m := 5, mv := sp_rhome.mv } kx_rhome c_rhome s = some (altK Prod.mk l e s') := by
  intro ls os xs l e s' s hb hg
  unfold g_rhome at hg
  split at hg
  · replace hg := takeI_some hg
    obtain ⟨v2_0, xs, rfl, hg⟩ := hg
    replace hg := takeI_some hg
    obtain ⟨v2_1, xs, rfl, hg⟩ := hg
    replace hg := takeI_some hg
    obtain ⟨v2_2, xs, rfl, hg⟩ := hg
    replace hg := takeI_some hg
    obtain ⟨v2_4, xs, rfl, hg⟩ := hg
    replace hg := takeI_some hg
    obtain ⟨v2_5, xs, rfl, hg⟩ := hg
    replace hg := takeI_some hg
    obtain ⟨v2_6, xs, rfl, hg⟩ := hg
    replace hg := takeI_some hg
    obtain ⟨v2_7, xs, rfl, hg⟩ := hg
    replace hg := takeI_some hg
    obtain ⟨v2_8, xs, rfl, hg⟩ := hg
    replace hg := takeI_some hg
    obtain ⟨v2_9, xs, rfl, hg⟩ := hg
    replace hg := takeI_some hg
    obtain ⟨v2_10, xs, rfl, hg⟩ := hg
    replace hg := takeI_some hg
    obtain ⟨v2_11, xs, rfl, hg⟩ := hg
    replace hg := takeI_some hg
    obtain ⟨v2_12, xs, rfl, hg⟩ := hg
    replace hg := takeI_some hg
    obtain ⟨v2_13, xs, rfl, hg⟩ := hg
    replace hg := takeI_some hg
    obtain ⟨v2_14, xs, rfl, hg⟩ := hg
    replace hg := takeI_some hg
    obtain ⟨v2_15, xs, rfl, hg⟩ := hg
    replace hg := takeI_some hg
    obtain ⟨v2_16, xs, rfl, hg⟩ := hg
    replace hg := takeI_some hg
    obtain ⟨v2_17, xs, rfl, hg⟩ := hg
    replace hg := takeI_some hg
    obtain ⟨v2_18, xs, rfl, hg⟩ := hg
    replace hg := takeI_some hg
    obtain ⟨v2_19, xs, rfl, hg⟩ := hg
    replace hg := takeI_some hg
    obtain ⟨v2_20, xs, rfl, hg⟩ := hg
    replace hg := takeI_some hg
    obtain ⟨v2_21, xs, rfl, hg⟩ := hg
    replace hg := takeI_some hg
    obtain ⟨v2_22, xs, rfl, hg⟩ := hg
    replace hg := takeI_some hg
    obtain ⟨v2_23, xs, rfl, hg⟩ := hg
    replace hg := takeI_some hg
    obtain ⟨v2_24, xs, rfl, hg⟩ := hg
    replace hg := takeI_some hg
    obtain ⟨v2_25, xs, rfl, hg⟩ := hg
    replace hg := takeI_some hg
    obtain ⟨v2_26, xs, rfl, hg⟩ := hg
    replace hg := takeI_some hg
    obtain ⟨v2_27, xs, rfl, hg⟩ := hg
    replace hg := takeI_some hg
    obtain ⟨v2_28, xs, rfl, hg⟩ := hg
    replace hg := takeI_some hg
    obtain ⟨v2_29, xs, rfl, hg⟩ := hg
    replace hg := takeI_some hg
    obtain ⟨v2_30, xs, rfl, hg⟩ := hg
    replace hg := takeI_some hg
    obtain ⟨v2_31, xs, rfl, hg⟩ := hg
    replace hg := takeI_some hg
    obtain ⟨v2_32, xs, rfl, hg⟩ := hg
    replace hg := takeI_some hg
    obtain ⟨v2_33, xs, rfl, hg⟩ := hg
    replace hg := takeI_some hg
    obtain ⟨v2_34, xs, rfl, hg⟩ := hg
    replace hg := takeB_some hg
    obtain ⟨v2_35, xs, rfl, hg⟩ := hg
    replace hg := takeI_some hg
    obtain ⟨v3_0, xs, rfl, hg⟩ := hg
    replace hg := takeI_some hg
    obtain ⟨v3_1, xs, rfl, hg⟩ := hg
    replace hg := takeI_some hg
    obtain ⟨v3_2, xs, rfl, hg⟩ := hg
    replace hg := takeI_some hg
    obtain ⟨v3_4, xs, rfl, hg⟩ := hg
    replace hg := takeI_some hg
    obtain ⟨v3_5, xs, rfl, hg⟩ := hg
    replace hg := takeI_some hg
    obtain ⟨v3_6, xs, rfl, hg⟩ := hg
    replace hg := takeI_some hg
    obtain ⟨v3_7, xs, rfl, hg⟩ := hg
    replace hg := takeI_some hg
    obtain ⟨v3_8, xs, rfl, hg⟩ := hg
    replace hg := takeI_some hg
    obtain ⟨v3_9, xs, rfl, hg⟩ := hg
    replace hg := takeI_some hg
    obtain ⟨v3_10, xs, rfl, hg⟩ := hg
    replace hg := takeI_some hg
    obtain ⟨v3_11, xs, rfl, hg⟩ := hg
    replace hg := takeI_some hg
    obtain ⟨v3_12, xs, rfl, hg⟩ := hg
    replace hg := takeI_some hg
    obtain ⟨v3_13, xs, rfl, hg⟩ := hg
    replace hg := takeI_some hg
    obtain ⟨v3_14, xs, rfl, hg⟩ := hg
    replace hg := takeI_some hg
    obtain ⟨v3_15, xs, rfl, hg⟩ := hg
    replace hg := takeI_some hg
    obtain ⟨v3_16, xs, rfl, hg⟩ := hg
    replace hg := takeI_some hg
    obtain ⟨v3_17, xs, rfl, hg⟩ := hg
    replace hg := takeI_some hg
    obtain ⟨v3_18, xs, rfl, hg⟩ := hg
    replace hg := takeI_some hg
    obtain ⟨v3_19, xs, rfl, hg⟩ := hg
    replace hg := takeI_some hg
    obtain ⟨v3_20, xs, rfl, hg⟩ := hg
    replace hg := takeI_some hg
    obtain ⟨v3_21, xs, rfl, hg⟩ := hg
    replace hg := takeI_some hg
    obtain ⟨v3_22, xs, rfl, hg⟩ := hg
    replace hg := takeI_some hg
    obtain ⟨v3_23, xs, rfl, hg⟩ := hg
    replace hg := takeI_some hg
    obtain ⟨v3_24, xs, rfl, hg⟩ := hg
    replace hg := takeI_some hg
    obtain ⟨v3_25, xs, rfl, hg⟩ := hg
    replace hg := takeI_some hg
    obtain ⟨v3_26, xs, rfl, hg⟩ := hg
    replace hg := takeI_some hg
    obtain ⟨v3_27, xs, rfl, hg⟩ := hg
    replace hg := takeI_some hg
    obtain ⟨v3_28, xs, rfl, hg⟩ := hg
    replace hg := takeI_some hg
    obtain ⟨v3_29, xs, rfl, hg⟩ := hg
    replace hg := takeI_some hg
    obtain ⟨v3_30, xs, rfl, hg⟩ := hg
    replace hg := takeI_some hg
    obtain ⟨v3_31, xs, rfl, hg⟩ := hg
    replace hg := takeI_some hg
    obtain ⟨v3_32, xs, rfl, hg⟩ := hg
    replace hg := takeI_some hg
    obtain ⟨v3_33, xs, rfl, hg⟩ := hg
    replace hg := takeI_some hg
    obtain ⟨v3_34, xs, rfl, hg⟩ := hg
    replace hg := takeB_some hg
    obtain ⟨v3_35, xs, rfl, hg⟩ := hg
    replace hg := takeI_some hg
    obtain ⟨v4_1, xs, rfl, hg⟩ := hg
    replace hg := takeI_some hg
    obtain ⟨v4_2, xs, rfl, hg⟩ := hg
    replace hg := takeI_some hg
    obtain ⟨v2, xs, rfl, hg⟩ := hg
    replace hg := takeI_some hg
    obtain ⟨v8, xs, rfl, hg⟩ := hg
    replace hg := takeE_some hg
    obtain ⟨rfl, hg⟩ := hg
    simp only [Option.some.injEq, Prod.mk.injEq] at hg
    obtain ⟨h1, rfl, rfl, rfl⟩ := hg
    rw [pat_rhome] at hb
    simp only [Option.some.injEq] at hb
    subst hb
    exact main_rhome _ _ _ _ _ _ _ _ _ _ _ _ _ _ _ _ _ _ _ _ _ _ _ _ _ _ _ _ _ _ _ _ _ _ _ _ _ _ _ _ _ _ _ _ _ _ _ _ _ _ _ _ _ _ _ _ _ _ _ _ _ _ _ _ _ _ _ _ _ _ _ _ _ _ _ _ _ h1
  · cases hg
set_option maxHeartbeats 0 in
theorem p80 : Prog Try.prog (fun _ => True) k80 := Prog.addL (cfg := k79) (f := 18) (p := 250) (cx := 1005) (keep := keep_rhome) (kx := kx_rhome) (m := 5) (mv := sp_rhome.mv) (Q := P_rhome) (g := g_rhome) p79 Try.func18 (by kernel_rfl) code_rhome (by kernel_rfl) rfl (by decide) loop_rhome

theorem p81 : Prog Try.prog (fun _ => True) k81 := p80.addLoop (.of Try.func19 (by kernel_rfl) (by kernel_rfl)) (fun x h => run_newelref23_Home x.1 x.2.1 x.2.2.1 h)

set_option maxHeartbeats 0 in
theorem loop_settles : ∀ ls os xs l e s' s, bSt P_settles ls os xs = some s → g_settles ls os xs = some (true, l, e, s') → ∃ fuel d, runL k81 fuel d 6 1018 { keep := keep_settles, m := 8, mv := sp_settles.mv } kx_settles c_settles s = some (altK Prod.mk l e s') := by
  intro ls os xs l e s' s hb hg
  unfold g_settles at hg
  split at hg
  · replace hg := takeI_some hg
    obtain ⟨v3_0, xs, rfl, hg⟩ := hg
    replace hg := takeI_some hg
    obtain ⟨v3_1, xs, rfl, hg⟩ := hg
    replace hg := takeI_some hg
    obtain ⟨v3_2, xs, rfl, hg⟩ := hg
    replace hg := takeI_some hg
    obtain ⟨v3_4, xs, rfl, hg⟩ := hg
    replace hg := takeI_some hg
    obtain ⟨v3_5, xs, rfl, hg⟩ := hg
    replace hg := takeI_some hg
    obtain ⟨v3_6, xs, rfl, hg⟩ := hg
    replace hg := takeI_some hg
    obtain ⟨v3_7, xs, rfl, hg⟩ := hg
    replace hg := takeI_some hg
    obtain ⟨v3_8, xs, rfl, hg⟩ := hg
    replace hg := takeI_some hg
    obtain ⟨v3_9, xs, rfl, hg⟩ := hg
    replace hg := takeI_some hg
    obtain ⟨v3_10, xs, rfl, hg⟩ := hg
    replace hg := takeI_some hg
    obtain ⟨v3_11, xs, rfl, hg⟩ := hg
    replace hg := takeI_some hg
    obtain ⟨v3_12, xs, rfl, hg⟩ := hg
    replace hg := takeI_some hg
    obtain ⟨v3_13, xs, rfl, hg⟩ := hg
    replace hg := takeI_some hg
    obtain ⟨v3_14, xs, rfl, hg⟩ := hg
    replace hg := takeI_some hg
    obtain ⟨v3_15, xs, rfl, hg⟩ := hg
    replace hg := takeI_some hg
    obtain ⟨v3_16, xs, rfl, hg⟩ := hg
    replace hg := takeI_some hg
    obtain ⟨v3_17, xs, rfl, hg⟩ := hg
    replace hg := takeI_some hg
    obtain ⟨v3_18, xs, rfl, hg⟩ := hg
    replace hg := takeI_some hg
    obtain ⟨v3_19, xs, rfl, hg⟩ := hg
    replace hg := takeI_some hg
    obtain ⟨v3_20, xs, rfl, hg⟩ := hg
    replace hg := takeI_some hg
    obtain ⟨v3_21, xs, rfl, hg⟩ := hg
    replace hg := takeI_some hg
    obtain ⟨v3_22, xs, rfl, hg⟩ := hg
    replace hg := takeI_some hg
    obtain ⟨v3_23, xs, rfl, hg⟩ := hg
    replace hg := takeI_some hg
    obtain ⟨v3_24, xs, rfl, hg⟩ := hg
    replace hg := takeI_some hg
    obtain ⟨v3_25, xs, rfl, hg⟩ := hg
    replace hg := takeI_some hg
    obtain ⟨v3_26, xs, rfl, hg⟩ := hg
    replace hg := takeI_some hg
    obtain ⟨v3_27, xs, rfl, hg⟩ := hg
    replace hg := takeI_some hg
    obtain ⟨v3_28, xs, rfl, hg⟩ := hg
    replace hg := takeI_some hg
    obtain ⟨v3_29, xs, rfl, hg⟩ := hg
    replace hg := takeI_some hg
    obtain ⟨v3_30, xs, rfl, hg⟩ := hg
    replace hg := takeI_some hg
    obtain ⟨v3_31, xs, rfl, hg⟩ := hg
    replace hg := takeI_some hg
    obtain ⟨v3_32, xs, rfl, hg⟩ := hg
    replace hg := takeI_some hg
    obtain ⟨v3_33, xs, rfl, hg⟩ := hg
    replace hg := takeI_some hg
    obtain ⟨v3_34, xs, rfl, hg⟩ := hg
    replace hg := takeB_some hg
    obtain ⟨v3_35, xs, rfl, hg⟩ := hg
    replace hg := takeI_some hg
    obtain ⟨v3_37, xs, rfl, hg⟩ := hg
    replace hg := takeI_some hg
    obtain ⟨v3_38, xs, rfl, hg⟩ := hg
    replace hg := takeI_some hg
    obtain ⟨v3_39, xs, rfl, hg⟩ := hg
    replace hg := takeI_some hg
    obtain ⟨v3_40, xs, rfl, hg⟩ := hg
    replace hg := takeI_some hg
    obtain ⟨v3_41, xs, rfl, hg⟩ := hg
    replace hg := takeI_some hg
    obtain ⟨v3_42, xs, rfl, hg⟩ := hg
    replace hg := takeI_some hg
    obtain ⟨v3_43, xs, rfl, hg⟩ := hg
    replace hg := takeI_some hg
    obtain ⟨v3_44, xs, rfl, hg⟩ := hg
    replace hg := takeI_some hg
    obtain ⟨v3_45, xs, rfl, hg⟩ := hg
    replace hg := takeI_some hg
    obtain ⟨v3_46, xs, rfl, hg⟩ := hg
    replace hg := takeI_some hg
    obtain ⟨v5, xs, rfl, hg⟩ := hg
    replace hg := takeI_some hg
    obtain ⟨v9, xs, rfl, hg⟩ := hg
    replace hg := takeE_some hg
    obtain ⟨rfl, hg⟩ := hg
    simp only [Option.some.injEq, Prod.mk.injEq] at hg
    obtain ⟨h1, rfl, rfl, rfl⟩ := hg
    rw [pat_settles] at hb
    simp only [Option.some.injEq] at hb
    subst hb
    exact main_settles _ _ _ _ _ _ _ _ _ _ _ _ _ _ _ _ _ _ _ _ _ _ _ _ _ _ _ _ _ _ _ _ _ _ _ _ _ _ _ _ _ _ _ _ _ _ _ _ _ _ _ _ _ _ h1
  · cases hg
set_option maxHeartbeats 0 in
theorem p82 : Prog Try.prog (fun _ => True) k82 := Prog.addL (cfg := k81) (f := 6) (p := 1018) (keep := keep_settles) (kx := kx_settles) (m := 8) (mv := sp_settles.mv) (Q := P_settles) (g := g_settles) p81 Try.func6 (by kernel_rfl) code_settles (by kernel_rfl) rfl (by decide) loop_settles

theorem law_newellaw23_AutoSettles : ∀ x, s_newellaw23_AutoSettles.wf x → ∃ fuel d, run k82 fuel d 6 Try.f6 s_newellaw23_AutoSettles x = some (.bool true) := fun x hx => run_newellaw23_AutoSettles x.1 x.2.1 hx
theorem p83 : Prog Try.prog (fun _ => True) k83 := p82

end Go.Proofs.Ytdpdmjjpdebpeaa.Px.PxQ
