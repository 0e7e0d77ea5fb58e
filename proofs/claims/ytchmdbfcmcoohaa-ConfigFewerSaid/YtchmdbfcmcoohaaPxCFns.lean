/- A seat's functions are what their contracts say. -/
import Derived.Test.YtchmdbfcmcoohaaPxCSteps
import Derived.Test.YtchmdbfcmcoohaaPxCProofs
import Derived.Test.YtchmdbfcmcoohaaPxCProofs2
import Derived.Test.YtchmdbfcmcoohaaPxCProofs3
import Derived.Test.YtchmdbfcmcoohaaPxCProofs5
import Derived.Test.YtchmdbfcmcoohaaPxCProofs7
set_option linter.unusedVariables false
set_option linter.unusedSimpArgs false
namespace Go.Proofs.Ytchmdbfcmcoohaa.Px.PxC
open Go Go.Proofs

theorem run_config_within (a0 : Int) (a1 : Int) (a2 : Int) : ∃ F d, run k0 F d 20 Try.f20 s_config_within (a0, a1, a2, ()) = some (r_config_within.enc (inB a0 a1 a2)) := ⟨200, 6, by kernel_rfl⟩
theorem p1 : Prog Try.prog (fun _ => True) k1 := p0.addLoop (.of Try.func20 (by kernel_rfl) (by kernel_rfl)) (fun x h => run_config_within x.1 x.2.1 x.2.2.1)

theorem run_zone_within (a0 : Int) (a1 : Int) (a2 : Int) : ∃ F d, run k1 F d 38 Try.f38 s_zone_within (a0, a1, a2, ()) = some (r_zone_within.enc (inB a0 a1 a2)) := ⟨200, 6, by kernel_rfl⟩
theorem p2 : Prog Try.prog (fun _ => True) k2 := p1.addLoop (.of Try.func38 (by kernel_rfl) (by kernel_rfl)) (fun x h => run_zone_within x.1 x.2.1 x.2.2.1)

theorem p3 : Prog Try.prog (fun _ => True) k3 := p2.addLoop (.of Try.func36 (by kernel_rfl) (by kernel_rfl)) (fun x h => run_config_must x.1 x.2.1)

theorem p4 : Prog Try.prog (fun _ => True) k4 := p3.addLoop (.of Try.func11 (by kernel_rfl) (by kernel_rfl)) (fun x h => run_config_Window x.1)

theorem p5 : Prog Try.prog (fun _ => True) k5 := p4.addLoop (.of Try.func21 (by kernel_rfl) (by kernel_rfl)) (fun x h => run_config_size x.1)

set_option maxHeartbeats 0 in
theorem loop_stops : ∀ ls os xs l e s' s, bSt P_stops ls os xs = some s → g_stops ls os xs = some (true, l, e, s') → ∃ fuel d, runL k5 fuel d 22 58 { keep := keep_stops, m := 3, mv := sp_stops.mv } kx_stops c_stops s = some (altK Prod.mk l e s') := by
  intro ls os xs l e s' s hb hg
  unfold g_stops at hg
  split at hg
  · replace hg := takeI_some hg
    obtain ⟨v2_0, xs, rfl, hg⟩ := hg
    replace hg := takeI_some hg
    obtain ⟨v2_1, xs, rfl, hg⟩ := hg
    replace hg := takeI_some hg
    obtain ⟨v2_2, xs, rfl, hg⟩ := hg
    replace hg := takeI_some hg
    obtain ⟨v2_4, xs, rfl, hg⟩ := hg
    replace hg := takeI_some hg
    obtain ⟨v2_5, xs, rfl, hg⟩ := hg
    replace hg := takeI_some hg
    obtain ⟨v2_6, xs, rfl, hg⟩ := hg
    replace hg := takeI_some hg
    obtain ⟨v2_7, xs, rfl, hg⟩ := hg
    replace hg := takeI_some hg
    obtain ⟨v2_8, xs, rfl, hg⟩ := hg
    replace hg := takeI_some hg
    obtain ⟨v2_9, xs, rfl, hg⟩ := hg
    replace hg := takeI_some hg
    obtain ⟨v2_10, xs, rfl, hg⟩ := hg
    replace hg := takeI_some hg
    obtain ⟨v2_11, xs, rfl, hg⟩ := hg
    replace hg := takeI_some hg
    obtain ⟨v2_12, xs, rfl, hg⟩ := hg
    replace hg := takeI_some hg
    obtain ⟨v2_13, xs, rfl, hg⟩ := hg
    replace hg := takeI_some hg
    obtain ⟨v2_14, xs, rfl, hg⟩ := hg
    replace hg := takeI_some hg
    obtain ⟨v2_15, xs, rfl, hg⟩ := hg
    replace hg := takeI_some hg
    obtain ⟨v2_16, xs, rfl, hg⟩ := hg
    replace hg := takeI_some hg
    obtain ⟨v2_17, xs, rfl, hg⟩ := hg
    replace hg := takeI_some hg
    obtain ⟨v2_18, xs, rfl, hg⟩ := hg
    replace hg := takeI_some hg
    obtain ⟨v2_19, xs, rfl, hg⟩ := hg
    replace hg := takeI_some hg
    obtain ⟨v2_20, xs, rfl, hg⟩ := hg
    replace hg := takeI_some hg
    obtain ⟨v2_21, xs, rfl, hg⟩ := hg
    replace hg := takeI_some hg
    obtain ⟨v2_22, xs, rfl, hg⟩ := hg
    replace hg := takeI_some hg
    obtain ⟨v2_23, xs, rfl, hg⟩ := hg
    replace hg := takeI_some hg
    obtain ⟨v2_24, xs, rfl, hg⟩ := hg
    replace hg := takeI_some hg
    obtain ⟨v2_25, xs, rfl, hg⟩ := hg
    replace hg := takeI_some hg
    obtain ⟨v2_26, xs, rfl, hg⟩ := hg
    replace hg := takeI_some hg
    obtain ⟨v2_27, xs, rfl, hg⟩ := hg
    replace hg := takeI_some hg
    obtain ⟨v2_28, xs, rfl, hg⟩ := hg
    replace hg := takeI_some hg
    obtain ⟨v2_29, xs, rfl, hg⟩ := hg
    replace hg := takeI_some hg
    obtain ⟨v2_30, xs, rfl, hg⟩ := hg
    replace hg := takeI_some hg
    obtain ⟨v2_31, xs, rfl, hg⟩ := hg
    replace hg := takeI_some hg
    obtain ⟨v2_32, xs, rfl, hg⟩ := hg
    replace hg := takeI_some hg
    obtain ⟨v2_33, xs, rfl, hg⟩ := hg
    replace hg := takeI_some hg
    obtain ⟨v2_34, xs, rfl, hg⟩ := hg
    replace hg := takeB_some hg
    obtain ⟨v2_35, xs, rfl, hg⟩ := hg
    replace hg := takeI_some hg
    obtain ⟨v2, xs, rfl, hg⟩ := hg
    replace hg := takeB_some hg
    obtain ⟨v3, xs, rfl, hg⟩ := hg
    replace hg := takeI_some hg
    obtain ⟨v12, xs, rfl, hg⟩ := hg
    replace hg := takeI_some hg
    obtain ⟨v13, xs, rfl, hg⟩ := hg
    replace hg := takeE_some hg
    obtain ⟨rfl, hg⟩ := hg
    simp only [Option.some.injEq, Prod.mk.injEq] at hg
    obtain ⟨h1, rfl, rfl, rfl⟩ := hg
    rw [pat_stops] at hb
    simp only [Option.some.injEq] at hb
    subst hb
    exact main_stops _ _ _ _ _ _ _ _ _ _ _ _ _ _ _ _ _ _ _ _ _ _ _ _ _ _ _ _ _ _ _ _ _ _ _ _ _ _ _ _ _ h1
  · cases hg
set_option maxHeartbeats 0 in
theorem p6 : Prog Try.prog (fun _ => True) k6 := Prog.addL (cfg := k5) (f := 22) (p := 58) (keep := keep_stops) (kx := kx_stops) (m := 3) (mv := sp_stops.mv) (Q := P_stops) (g := g_stops) p5 Try.func22 (by kernel_rfl) code_stops (by kernel_rfl) rfl (by decide) loop_stops

theorem p7 : Prog Try.prog (fun _ => True) k7 := p6.addLoop (.of Try.func22 (by kernel_rfl) (by kernel_rfl)) (fun x h => run_config_stops x.1 h)

theorem p8 : Prog Try.prog (fun _ => True) k8 := p7.addLoop (.of Try.func23 (by kernel_rfl) (by kernel_rfl)) (fun x h => run_config_times x.1)

theorem p9 : Prog Try.prog (fun _ => True) k9 := p8.addLoop (.of Try.func25 (by kernel_rfl) (by kernel_rfl)) (fun x h => run_zone_Check x.1)

theorem p10 : Prog Try.prog (fun _ => True) k10 := p9.addLoop (.of Try.func27 (by kernel_rfl) (by kernel_rfl)) (fun x h => run_sunset_Check x.1)

set_option maxHeartbeats 0 in
theorem loop_wins : ∀ ls os xs l e s' s, bSt P_wins ls os xs = some s → g_wins ls os xs = some (true, l, e, s') → ∃ fuel d, runL k10 fuel d 46 26 { keep := keep_wins, m := 3, mv := sp_wins.mv } kx_wins c_wins s = some (altK Prod.mk l e s') := by
  intro ls os xs l e s' s hb hg
  unfold g_wins at hg
  split at hg
  · replace hg := takeI_some hg
    obtain ⟨v2_0, xs, rfl, hg⟩ := hg
    replace hg := takeI_some hg
    obtain ⟨v2_1, xs, rfl, hg⟩ := hg
    replace hg := takeI_some hg
    obtain ⟨v2_2, xs, rfl, hg⟩ := hg
    replace hg := takeI_some hg
    obtain ⟨v2_4, xs, rfl, hg⟩ := hg
    replace hg := takeI_some hg
    obtain ⟨v2_5, xs, rfl, hg⟩ := hg
    replace hg := takeI_some hg
    obtain ⟨v2_6, xs, rfl, hg⟩ := hg
    replace hg := takeI_some hg
    obtain ⟨v2_7, xs, rfl, hg⟩ := hg
    replace hg := takeI_some hg
    obtain ⟨v2_8, xs, rfl, hg⟩ := hg
    replace hg := takeI_some hg
    obtain ⟨v2_9, xs, rfl, hg⟩ := hg
    replace hg := takeI_some hg
    obtain ⟨v2_10, xs, rfl, hg⟩ := hg
    replace hg := takeI_some hg
    obtain ⟨v2_11, xs, rfl, hg⟩ := hg
    replace hg := takeI_some hg
    obtain ⟨v2_12, xs, rfl, hg⟩ := hg
    replace hg := takeI_some hg
    obtain ⟨v2_13, xs, rfl, hg⟩ := hg
    replace hg := takeI_some hg
    obtain ⟨v2_14, xs, rfl, hg⟩ := hg
    replace hg := takeI_some hg
    obtain ⟨v2_15, xs, rfl, hg⟩ := hg
    replace hg := takeI_some hg
    obtain ⟨v2_16, xs, rfl, hg⟩ := hg
    replace hg := takeI_some hg
    obtain ⟨v2_17, xs, rfl, hg⟩ := hg
    replace hg := takeI_some hg
    obtain ⟨v2_18, xs, rfl, hg⟩ := hg
    replace hg := takeI_some hg
    obtain ⟨v2_19, xs, rfl, hg⟩ := hg
    replace hg := takeI_some hg
    obtain ⟨v2_20, xs, rfl, hg⟩ := hg
    replace hg := takeI_some hg
    obtain ⟨v2_21, xs, rfl, hg⟩ := hg
    replace hg := takeI_some hg
    obtain ⟨v2_22, xs, rfl, hg⟩ := hg
    replace hg := takeI_some hg
    obtain ⟨v2_23, xs, rfl, hg⟩ := hg
    replace hg := takeI_some hg
    obtain ⟨v2_24, xs, rfl, hg⟩ := hg
    replace hg := takeI_some hg
    obtain ⟨v2_25, xs, rfl, hg⟩ := hg
    replace hg := takeI_some hg
    obtain ⟨v2_26, xs, rfl, hg⟩ := hg
    replace hg := takeI_some hg
    obtain ⟨v2_27, xs, rfl, hg⟩ := hg
    replace hg := takeI_some hg
    obtain ⟨v2_28, xs, rfl, hg⟩ := hg
    replace hg := takeI_some hg
    obtain ⟨v2_29, xs, rfl, hg⟩ := hg
    replace hg := takeI_some hg
    obtain ⟨v2_30, xs, rfl, hg⟩ := hg
    replace hg := takeI_some hg
    obtain ⟨v2_31, xs, rfl, hg⟩ := hg
    replace hg := takeI_some hg
    obtain ⟨v2_32, xs, rfl, hg⟩ := hg
    replace hg := takeI_some hg
    obtain ⟨v2_33, xs, rfl, hg⟩ := hg
    replace hg := takeI_some hg
    obtain ⟨v2_34, xs, rfl, hg⟩ := hg
    replace hg := takeB_some hg
    obtain ⟨v2_35, xs, rfl, hg⟩ := hg
    replace hg := takeI_some hg
    obtain ⟨v4, xs, rfl, hg⟩ := hg
    replace hg := takeI_some hg
    obtain ⟨v7, xs, rfl, hg⟩ := hg
    replace hg := takeI_some hg
    obtain ⟨v8, xs, rfl, hg⟩ := hg
    replace hg := takeE_some hg
    obtain ⟨rfl, hg⟩ := hg
    simp only [Option.some.injEq, Prod.mk.injEq] at hg
    obtain ⟨h1, rfl, rfl, rfl⟩ := hg
    rw [pat_wins] at hb
    simp only [Option.some.injEq] at hb
    subst hb
    exact main_wins _ _ _ _ _ _ _ _ _ _ _ _ _ _ _ _ _ _ _ _ _ _ _ _ _ _ _ _ _ _ _ _ _ _ _ _ _ _ _ _ h1
  · cases hg
set_option maxHeartbeats 0 in
theorem p11 : Prog Try.prog (fun _ => True) k11 := Prog.addL (cfg := k10) (f := 46) (p := 26) (keep := keep_wins) (kx := kx_wins) (m := 3) (mv := sp_wins.mv) (Q := P_wins) (g := g_wins) p10 Try.func46 (by kernel_rfl) code_wins (by kernel_rfl) rfl (by decide) loop_wins

theorem p12 : Prog Try.prog (fun _ => True) k12 := p11.addLoop (.of Try.func28 (by kernel_rfl) (by kernel_rfl)) (fun x h => run_config_windows x.1 h)

theorem p13 : Prog Try.prog (fun _ => True) k13 := p12.addLoop (.of Try.func12 (by kernel_rfl) (by kernel_rfl)) (fun x h => run_config_Check x.1 h)

set_option maxHeartbeats 0 in
theorem loop_eqI : ∀ ls os xs l e s' s, bSt P_eqI ls os xs = some s → g_eqI ls os xs = some (true, l, e, s') → ∃ fuel d, runL k13 fuel d 34 58 { keep := keep_eqI, m := 2, mv := sp_eqI.mv } kx_eqI c_eqI s = some (altK Prod.mk l e s') := by
  intro ls os xs l e s' s hb hg
  unfold g_eqI at hg
  split at hg
  · replace hg := takeB_some hg
    obtain ⟨v4, xs, rfl, hg⟩ := hg
    replace hg := takeI_some hg
    obtain ⟨v12, xs, rfl, hg⟩ := hg
    replace hg := takeI_some hg
    obtain ⟨v13, xs, rfl, hg⟩ := hg
    replace hg := takeE_some hg
    obtain ⟨rfl, hg⟩ := hg
    simp only [Option.some.injEq, Prod.mk.injEq] at hg
    obtain ⟨h1, rfl, rfl, rfl⟩ := hg
    rw [pat_eqI] at hb
    simp only [Option.some.injEq] at hb
    subst hb
    exact main_eqI _ _ _ _ _ h1
  · cases hg
set_option maxHeartbeats 0 in
theorem p14 : Prog Try.prog (fun _ => True) k14 := Prog.addL (cfg := k13) (f := 34) (p := 58) (keep := keep_eqI) (kx := kx_eqI) (m := 2) (mv := sp_eqI.mv) (Q := P_eqI) (g := g_eqI) p13 Try.func34 (by kernel_rfl) code_eqI (by kernel_rfl) rfl (by decide) loop_eqI

theorem p15 : Prog Try.prog (fun _ => True) k15 := p14.addLoop (.of Try.func34 (by kernel_rfl) (by kernel_rfl)) (fun x h => run_equalI x.1 x.2.1 h)

set_option maxHeartbeats 0 in
theorem loop_eqW : ∀ ls os xs l e s' s, bSt P_eqW ls os xs = some s → g_eqW ls os xs = some (true, l, e, s') → ∃ fuel d, runL k15 fuel d 35 58 { keep := keep_eqW, m := 2, mv := sp_eqW.mv } kx_eqW c_eqW s = some (altK Prod.mk l e s') := by
  intro ls os xs l e s' s hb hg
  unfold g_eqW at hg
  split at hg
  · replace hg := takeB_some hg
    obtain ⟨v4, xs, rfl, hg⟩ := hg
    replace hg := takeI_some hg
    obtain ⟨v12, xs, rfl, hg⟩ := hg
    replace hg := takeI_some hg
    obtain ⟨v13, xs, rfl, hg⟩ := hg
    replace hg := takeE_some hg
    obtain ⟨rfl, hg⟩ := hg
    simp only [Option.some.injEq, Prod.mk.injEq] at hg
    obtain ⟨h1, rfl, rfl, rfl⟩ := hg
    rw [pat_eqW] at hb
    simp only [Option.some.injEq] at hb
    subst hb
    exact main_eqW _ _ _ _ _ h1
  · cases hg
set_option maxHeartbeats 0 in
theorem p16 : Prog Try.prog (fun _ => True) k16 := Prog.addL (cfg := k15) (f := 35) (p := 58) (keep := keep_eqW) (kx := kx_eqW) (m := 2) (mv := sp_eqW.mv) (Q := P_eqW) (g := g_eqW) p15 Try.func35 (by kernel_rfl) code_eqW (by kernel_rfl) rfl (by decide) loop_eqW

theorem p17 : Prog Try.prog (fun _ => True) k17 := p16.addLoop (.of Try.func35 (by kernel_rfl) (by kernel_rfl)) (fun x h => run_equalW x.1 x.2.1 h)

theorem p18 : Prog Try.prog (fun _ => True) k18 := p17.addLoop (.of Try.func16 (by kernel_rfl) (by kernel_rfl)) (fun x h => run_config_Same x.1 x.2.1 h)

theorem p19 : Prog Try.prog (fun _ => True) k19 := p18.addLoop (.of Try.func18 (by kernel_rfl) (by kernel_rfl)) (fun x h => run_config_Fits x.1 x.2.1 h)

theorem p20 : Prog Try.prog (fun _ => True) k20 := p19.addLoop (.of Try.func9 (by kernel_rfl) (by kernel_rfl)) (fun x h => run_newelref10_Few x.1)

theorem p21 : Prog Try.prog (fun _ => True) k21 := p20.addH (.of Try.func13 (by kernel_rfl) (by kernel_rfl)) (fun x h => run_newellaw10_Own x.1 h)

theorem run_newellaw10_awake : ∃ F d, run k21 F d 10 Try.f10 s_newellaw10_awake (()) = some (r_newellaw10_awake.enc (true)) := ⟨200, 6, by kernel_rfl⟩
theorem p22 : Prog Try.prog (fun _ => True) k22 := p21.addLoop (.of Try.func10 (by kernel_rfl) (by kernel_rfl)) (fun x h => run_newellaw10_awake )

set_option maxHeartbeats 0 in
theorem loop_more : ∀ ls os xs l e s' s, bSt P_more ls os xs = some s → g_more ls os xs = some (true, l, e, s') → ∃ fuel d, runL k22 fuel d 5 58 { keep := keep_more, m := 6, mv := sp_more.mv } kx_more c_more s = some (altK Prod.mk l e s') := by
  intro ls os xs l e s' s hb hg
  unfold g_more at hg
  split at hg
  · replace hg := takeI_some hg
    obtain ⟨v2_0, xs, rfl, hg⟩ := hg
    replace hg := takeI_some hg
    obtain ⟨v2_1, xs, rfl, hg⟩ := hg
    replace hg := takeI_some hg
    obtain ⟨v2_2, xs, rfl, hg⟩ := hg
    replace hg := takeI_some hg
    obtain ⟨v2_4, xs, rfl, hg⟩ := hg
    replace hg := takeI_some hg
    obtain ⟨v2_5, xs, rfl, hg⟩ := hg
    replace hg := takeI_some hg
    obtain ⟨v2_6, xs, rfl, hg⟩ := hg
    replace hg := takeI_some hg
    obtain ⟨v2_7, xs, rfl, hg⟩ := hg
    replace hg := takeI_some hg
    obtain ⟨v2_8, xs, rfl, hg⟩ := hg
    replace hg := takeI_some hg
    obtain ⟨v2_9, xs, rfl, hg⟩ := hg
    replace hg := takeI_some hg
    obtain ⟨v2_10, xs, rfl, hg⟩ := hg
    replace hg := takeI_some hg
    obtain ⟨v2_11, xs, rfl, hg⟩ := hg
    replace hg := takeI_some hg
    obtain ⟨v2_12, xs, rfl, hg⟩ := hg
    replace hg := takeI_some hg
    obtain ⟨v2_13, xs, rfl, hg⟩ := hg
    replace hg := takeI_some hg
    obtain ⟨v2_14, xs, rfl, hg⟩ := hg
    replace hg := takeI_some hg
    obtain ⟨v2_15, xs, rfl, hg⟩ := hg
    replace hg := takeI_some hg
    obtain ⟨v2_16, xs, rfl, hg⟩ := hg
    replace hg := takeI_some hg
    obtain ⟨v2_17, xs, rfl, hg⟩ := hg
    replace hg := takeI_some hg
    obtain ⟨v2_18, xs, rfl, hg⟩ := hg
    replace hg := takeI_some hg
    obtain ⟨v2_19, xs, rfl, hg⟩ := hg
    replace hg := takeI_some hg
    obtain ⟨v2_20, xs, rfl, hg⟩ := hg
    replace hg := takeI_some hg
    obtain ⟨v2_21, xs, rfl, hg⟩ := hg
    replace hg := takeI_some hg
    obtain ⟨v2_22, xs, rfl, hg⟩ := hg
    replace hg := takeI_some hg
    obtain ⟨v2_23, xs, rfl, hg⟩ := hg
    replace hg := takeI_some hg
    obtain ⟨v2_24, xs, rfl, hg⟩ := hg
    replace hg := takeI_some hg
    obtain ⟨v2_25, xs, rfl, hg⟩ := hg
    replace hg := takeI_some hg
    obtain ⟨v2_26, xs, rfl, hg⟩ := hg
    replace hg := takeI_some hg
    obtain ⟨v2_27, xs, rfl, hg⟩ := hg
    replace hg := takeI_some hg
    obtain ⟨v2_28, xs, rfl, hg⟩ := hg
    replace hg := takeI_some hg
    obtain ⟨v2_29, xs, rfl, hg⟩ := hg
    replace hg := takeI_some hg
    obtain ⟨v2_30, xs, rfl, hg⟩ := hg
    replace hg := takeI_some hg
    obtain ⟨v2_31, xs, rfl, hg⟩ := hg
    replace hg := takeI_some hg
    obtain ⟨v2_32, xs, rfl, hg⟩ := hg
    replace hg := takeI_some hg
    obtain ⟨v2_33, xs, rfl, hg⟩ := hg
    replace hg := takeI_some hg
    obtain ⟨v2_34, xs, rfl, hg⟩ := hg
    replace hg := takeB_some hg
    obtain ⟨v2_35, xs, rfl, hg⟩ := hg
    replace hg := takeI_some hg
    obtain ⟨v3_0, xs, rfl, hg⟩ := hg
    replace hg := takeI_some hg
    obtain ⟨v3_1, xs, rfl, hg⟩ := hg
    replace hg := takeI_some hg
    obtain ⟨v3_2, xs, rfl, hg⟩ := hg
    replace hg := takeI_some hg
    obtain ⟨v3_3, xs, rfl, hg⟩ := hg
    replace hg := takeI_some hg
    obtain ⟨v3_4, xs, rfl, hg⟩ := hg
    replace hg := takeI_some hg
    obtain ⟨v3_5, xs, rfl, hg⟩ := hg
    replace hg := takeI_some hg
    obtain ⟨v3_6, xs, rfl, hg⟩ := hg
    replace hg := takeB_some hg
    obtain ⟨v4, xs, rfl, hg⟩ := hg
    replace hg := takeI_some hg
    obtain ⟨v5, xs, rfl, hg⟩ := hg
    replace hg := takeE_some hg
    obtain ⟨rfl, hg⟩ := hg
    simp only [Option.some.injEq, Prod.mk.injEq] at hg
    obtain ⟨h1, rfl, rfl, rfl⟩ := hg
    rw [pat_more] at hb
    simp only [Option.some.injEq] at hb
    subst hb
    exact main_more _ _ _ _ _ _ _ _ _ _ _ _ _ _ _ _ _ _ _ _ _ _ _ _ _ _ _ _ _ _ _ _ _ _ _ _ _ _ _ _ _ _ _ _ _ _ _ _ h1
  · cases hg
set_option maxHeartbeats 0 in
theorem p23 : Prog Try.prog (fun _ => True) k23 := Prog.addL (cfg := k22) (f := 5) (p := 58) (keep := keep_more) (kx := kx_more) (m := 6) (mv := sp_more.mv) (Q := P_more) (g := g_more) p22 Try.func5 (by kernel_rfl) code_more (by kernel_rfl) rfl (by decide) loop_more

theorem p24 : Prog Try.prog (fun _ => True) k24 := p23.addLoop (.of Try.func33 (by kernel_rfl) (by kernel_rfl)) (fun x h => run_newelref10_timed x.1)

theorem p25 : Prog Try.prog (fun _ => True) k25 := p24.addLoop (.of Try.func43 (by kernel_rfl) (by kernel_rfl)) (fun x h => run_newelref10_tick x.1)

theorem p26 : Prog Try.prog (fun _ => True) k26 := p25.addLoop (.of Try.func44 (by kernel_rfl) (by kernel_rfl)) (fun x h => run_newelref06_turn x.1)

theorem p27 : Prog Try.prog (fun _ => True) k27 := p26.addLoop (.of Try.func15 (by kernel_rfl) (by kernel_rfl)) (fun x h => run_newelref10_Window x.1)

theorem p28 : Prog Try.prog (fun _ => True) k28 := p27.addLoop (.of Try.func31 (by kernel_rfl) (by kernel_rfl)) (fun x h => run_newelref06_Check x.1)

theorem p29 : Prog Try.prog (fun _ => True) k29 := p28.addLoop (.of Try.func32 (by kernel_rfl) (by kernel_rfl)) (fun x h => run_newelref07_Check x.1)

theorem p30 : Prog Try.prog (fun _ => True) k30 := p29.addLoop (.of Try.func30 (by kernel_rfl) (by kernel_rfl)) (fun x h => run_newelref10_times x.1)

set_option maxHeartbeats 0 in
theorem loop_rstops : ∀ ls os xs l e s' s, bSt P_rstops ls os xs = some s → g_rstops ls os xs = some (true, l, e, s') → ∃ fuel d, runL k30 fuel d 29 26 { keep := keep_rstops, m := 3, mv := sp_rstops.mv } kx_rstops c_rstops s = some (altK Prod.mk l e s') := by
  intro ls os xs l e s' s hb hg
  unfold g_rstops at hg
  split at hg
  · replace hg := takeI_some hg
    obtain ⟨v2_0, xs, rfl, hg⟩ := hg
    replace hg := takeI_some hg
    obtain ⟨v2_1, xs, rfl, hg⟩ := hg
    replace hg := takeI_some hg
    obtain ⟨v2_2, xs, rfl, hg⟩ := hg
    replace hg := takeI_some hg
    obtain ⟨v2_4, xs, rfl, hg⟩ := hg
    replace hg := takeI_some hg
    obtain ⟨v2_5, xs, rfl, hg⟩ := hg
    replace hg := takeI_some hg
    obtain ⟨v2_6, xs, rfl, hg⟩ := hg
    replace hg := takeI_some hg
    obtain ⟨v2_7, xs, rfl, hg⟩ := hg
    replace hg := takeI_some hg
    obtain ⟨v2_8, xs, rfl, hg⟩ := hg
    replace hg := takeI_some hg
    obtain ⟨v2_9, xs, rfl, hg⟩ := hg
    replace hg := takeI_some hg
    obtain ⟨v2_10, xs, rfl, hg⟩ := hg
    replace hg := takeI_some hg
    obtain ⟨v2_11, xs, rfl, hg⟩ := hg
    replace hg := takeI_some hg
    obtain ⟨v2_12, xs, rfl, hg⟩ := hg
    replace hg := takeI_some hg
    obtain ⟨v2_13, xs, rfl, hg⟩ := hg
    replace hg := takeI_some hg
    obtain ⟨v2_14, xs, rfl, hg⟩ := hg
    replace hg := takeI_some hg
    obtain ⟨v2_15, xs, rfl, hg⟩ := hg
    replace hg := takeI_some hg
    obtain ⟨v2_16, xs, rfl, hg⟩ := hg
    replace hg := takeI_some hg
    obtain ⟨v2_17, xs, rfl, hg⟩ := hg
    replace hg := takeI_some hg
    obtain ⟨v2_18, xs, rfl, hg⟩ := hg
    replace hg := takeI_some hg
    obtain ⟨v2_19, xs, rfl, hg⟩ := hg
    replace hg := takeI_some hg
    obtain ⟨v2_20, xs, rfl, hg⟩ := hg
    replace hg := takeI_some hg
    obtain ⟨v2_21, xs, rfl, hg⟩ := hg
    replace hg := takeI_some hg
    obtain ⟨v2_22, xs, rfl, hg⟩ := hg
    replace hg := takeI_some hg
    obtain ⟨v2_23, xs, rfl, hg⟩ := hg
    replace hg := takeI_some hg
    obtain ⟨v2_24, xs, rfl, hg⟩ := hg
    replace hg := takeI_some hg
    obtain ⟨v2_25, xs, rfl, hg⟩ := hg
    replace hg := takeI_some hg
    obtain ⟨v2_26, xs, rfl, hg⟩ := hg
    replace hg := takeI_some hg
    obtain ⟨v2_27, xs, rfl, hg⟩ := hg
    replace hg := takeI_some hg
    obtain ⟨v2_28, xs, rfl, hg⟩ := hg
    replace hg := takeI_some hg
    obtain ⟨v2_29, xs, rfl, hg⟩ := hg
    replace hg := takeI_some hg
    obtain ⟨v2_30, xs, rfl, hg⟩ := hg
    replace hg := takeI_some hg
    obtain ⟨v2_31, xs, rfl, hg⟩ := hg
    replace hg := takeI_some hg
    obtain ⟨v2_32, xs, rfl, hg⟩ := hg
    replace hg := takeI_some hg
    obtain ⟨v2_33, xs, rfl, hg⟩ := hg
    replace hg := takeI_some hg
    obtain ⟨v2_34, xs, rfl, hg⟩ := hg
    replace hg := takeB_some hg
    obtain ⟨v2_35, xs, rfl, hg⟩ := hg
    replace hg := takeB_some hg
    obtain ⟨v2, xs, rfl, hg⟩ := hg
    replace hg := takeI_some hg
    obtain ⟨v3, xs, rfl, hg⟩ := hg
    replace hg := takeE_some hg
    obtain ⟨rfl, hg⟩ := hg
    simp only [Option.some.injEq, Prod.mk.injEq] at hg
    obtain ⟨h1, rfl, rfl, rfl⟩ := hg
    rw [pat_rstops] at hb
    simp only [Option.some.injEq] at hb
    subst hb
    exact main_rstops _ _ _ _ _ _ _ _ _ _ _ _ _ _ _ _ _ _ _ _ _ _ _ _ _ _ _ _ _ _ _ _ _ _ _ _ _ _ _ h1
  · cases hg
set_option maxHeartbeats 0 in
theorem p31 : Prog Try.prog (fun _ => True) k31 := Prog.addL (cfg := k30) (f := 29) (p := 26) (keep := keep_rstops) (kx := kx_rstops) (m := 3) (mv := sp_rstops.mv) (Q := P_rstops) (g := g_rstops) p30 Try.func29 (by kernel_rfl) code_rstops (by kernel_rfl) rfl (by decide) loop_rstops

theorem p32 : Prog Try.prog (fun _ => True) k32 := p31.addLoop (.of Try.func29 (by kernel_rfl) (by kernel_rfl)) (fun x h => run_newelref10_stops x.1 h)

set_option maxHeartbeats 0 in
theorem loop_rwins : ∀ ls os xs l e s' s, bSt P_rwins ls os xs = some s → g_rwins ls os xs = some (true, l, e, s') → ∃ fuel d, runL k32 fuel d 14 32762 { keep := keep_rwins, m := 3, mv := sp_rwins.mv } kx_rwins c_rwins s = some (altK Prod.mk l e s') := by
  intro ls os xs l e s' s hb hg
  unfold g_rwins at hg
  split at hg
  · replace hg := takeI_some hg
    obtain ⟨v2_0, xs, rfl, hg⟩ := hg
    replace hg := takeI_some hg
    obtain ⟨v2_1, xs, rfl, hg⟩ := hg
    replace hg := takeI_some hg
    obtain ⟨v2_2, xs, rfl, hg⟩ := hg
    replace hg := takeI_some hg
    obtain ⟨v2_4, xs, rfl, hg⟩ := hg
    replace hg := takeI_some hg
    obtain ⟨v2_5, xs, rfl, hg⟩ := hg
    replace hg := takeI_some hg
    obtain ⟨v2_6, xs, rfl, hg⟩ := hg
    replace hg := takeI_some hg
    obtain ⟨v2_7, xs, rfl, hg⟩ := hg
    replace hg := takeI_some hg
    obtain ⟨v2_8, xs, rfl, hg⟩ := hg
    replace hg := takeI_some hg
    obtain ⟨v2_9, xs, rfl, hg⟩ := hg
    replace hg := takeI_some hg
    obtain ⟨v2_10, xs, rfl, hg⟩ := hg
    replace hg := takeI_some hg
    obtain ⟨v2_11, xs, rfl, hg⟩ := hg
    replace hg := takeI_some hg
    obtain ⟨v2_12, xs, rfl, hg⟩ := hg
    replace hg := takeI_some hg
    obtain ⟨v2_13, xs, rfl, hg⟩ := hg
    replace hg := takeI_some hg
    obtain ⟨v2_14, xs, rfl, hg⟩ := hg
    replace hg := takeI_some hg
    obtain ⟨v2_15, xs, rfl, hg⟩ := hg
    replace hg := takeI_some hg
    obtain ⟨v2_16, xs, rfl, hg⟩ := hg
    replace hg := takeI_some hg
    obtain ⟨v2_17, xs, rfl, hg⟩ := hg
    replace hg := takeI_some hg
    obtain ⟨v2_18, xs, rfl, hg⟩ := hg
    replace hg := takeI_some hg
    obtain ⟨v2_19, xs, rfl, hg⟩ := hg
    replace hg := takeI_some hg
    obtain ⟨v2_20, xs, rfl, hg⟩ := hg
    replace hg := takeI_some hg
    obtain ⟨v2_21, xs, rfl, hg⟩ := hg
    replace hg := takeI_some hg
    obtain ⟨v2_22, xs, rfl, hg⟩ := hg
    replace hg := takeI_some hg
    obtain ⟨v2_23, xs, rfl, hg⟩ := hg
    replace hg := takeI_some hg
    obtain ⟨v2_24, xs, rfl, hg⟩ := hg
    replace hg := takeI_some hg
    obtain ⟨v2_25, xs, rfl, hg⟩ := hg
    replace hg := takeI_some hg
    obtain ⟨v2_26, xs, rfl, hg⟩ := hg
    replace hg := takeI_some hg
    obtain ⟨v2_27, xs, rfl, hg⟩ := hg
    replace hg := takeI_some hg
    obtain ⟨v2_28, xs, rfl, hg⟩ := hg
    replace hg := takeI_some hg
    obtain ⟨v2_29, xs, rfl, hg⟩ := hg
    replace hg := takeI_some hg
    obtain ⟨v2_30, xs, rfl, hg⟩ := hg
    replace hg := takeI_some hg
    obtain ⟨v2_31, xs, rfl, hg⟩ := hg
    replace hg := takeI_some hg
    obtain ⟨v2_32, xs, rfl, hg⟩ := hg
    replace hg := takeI_some hg
    obtain ⟨v2_33, xs, rfl, hg⟩ := hg
    replace hg := takeI_some hg
    obtain ⟨v2_34, xs, rfl, hg⟩ := hg
    replace hg := takeB_some hg
    obtain ⟨v2_35, xs, rfl, hg⟩ := hg
    replace hg := takeI_some hg
    obtain ⟨v2, xs, rfl, hg⟩ := hg
    replace hg := takeI_some hg
    obtain ⟨v7, xs, rfl, hg⟩ := hg
    replace hg := takeE_some hg
    obtain ⟨rfl, hg⟩ := hg
    simp only [Option.some.injEq, Prod.mk.injEq] at hg
    obtain ⟨h1, rfl, rfl, rfl⟩ := hg
    rw [pat_rwins] at hb
    simp only [Option.some.injEq] at hb
    subst hb
    exact main_rwins _ _ _ _ _ _ _ _ _ _ _ _ _ _ _ _ _ _ _ _ _ _ _ _ _ _ _ _ _ _ _ _ _ _ _ _ _ _ _ h1
  · cases hg
set_option maxHeartbeats 0 in
theorem p33 : Prog Try.prog (fun _ => True) k33 := Prog.addL (cfg := k32) (f := 14) (p := 32762) (keep := keep_rwins) (kx := kx_rwins) (m := 3) (mv := sp_rwins.mv) (Q := P_rwins) (g := g_rwins) p32 Try.func14 (by kernel_rfl) code_rwins (by kernel_rfl) rfl (by decide) loop_rwins

theorem p34 : Prog Try.prog (fun _ => True) k34 := p33.addLoop (.of Try.func14 (by kernel_rfl) (by kernel_rfl)) (fun x h => run_newelref10_Check x.1 h)

set_option maxHeartbeats 0 in
theorem loop_rs1 : ∀ ls os xs l e s' s, bSt P_rs1 ls os xs = some s → g_rs1 ls os xs = some (true, l, e, s') → ∃ fuel d, runL k34 fuel d 17 122 { keep := keep_rs1, m := 6, mv := sp_rs1.mv } kx_rs1 c_rs1 s = some (altK Prod.mk l e s') := by
  intro ls os xs l e s' s hb hg
  unfold g_rs1 at hg
  split at hg
  · replace hg := takeI_some hg
    obtain ⟨v4_0, xs, rfl, hg⟩ := hg
    replace hg := takeI_some hg
    obtain ⟨v4_1, xs, rfl, hg⟩ := hg
    replace hg := takeI_some hg
    obtain ⟨v4_2, xs, rfl, hg⟩ := hg
    replace hg := takeI_some hg
    obtain ⟨v4_4, xs, rfl, hg⟩ := hg
    replace hg := takeI_some hg
    obtain ⟨v4_5, xs, rfl, hg⟩ := hg
    replace hg := takeI_some hg
    obtain ⟨v4_6, xs, rfl, hg⟩ := hg
    replace hg := takeI_some hg
    obtain ⟨v4_7, xs, rfl, hg⟩ := hg
    replace hg := takeI_some hg
    obtain ⟨v4_8, xs, rfl, hg⟩ := hg
    replace hg := takeI_some hg
    obtain ⟨v4_9, xs, rfl, hg⟩ := hg
    replace hg := takeI_some hg
    obtain ⟨v4_10, xs, rfl, hg⟩ := hg
    replace hg := takeI_some hg
    obtain ⟨v4_11, xs, rfl, hg⟩ := hg
    replace hg := takeI_some hg
    obtain ⟨v4_12, xs, rfl, hg⟩ := hg
    replace hg := takeI_some hg
    obtain ⟨v4_13, xs, rfl, hg⟩ := hg
    replace hg := takeI_some hg
    obtain ⟨v4_14, xs, rfl, hg⟩ := hg
    replace hg := takeI_some hg
    obtain ⟨v4_15, xs, rfl, hg⟩ := hg
    replace hg := takeI_some hg
    obtain ⟨v4_16, xs, rfl, hg⟩ := hg
    replace hg := takeI_some hg
    obtain ⟨v4_17, xs, rfl, hg⟩ := hg
    replace hg := takeI_some hg
    obtain ⟨v4_18, xs, rfl, hg⟩ := hg
    replace hg := takeI_some hg
    obtain ⟨v4_19, xs, rfl, hg⟩ := hg
    replace hg := takeI_some hg
    obtain ⟨v4_20, xs, rfl, hg⟩ := hg
    replace hg := takeI_some hg
    obtain ⟨v4_21, xs, rfl, hg⟩ := hg
    replace hg := takeI_some hg
    obtain ⟨v4_22, xs, rfl, hg⟩ := hg
    replace hg := takeI_some hg
    obtain ⟨v4_23, xs, rfl, hg⟩ := hg
    replace hg := takeI_some hg
    obtain ⟨v4_24, xs, rfl, hg⟩ := hg
    replace hg := takeI_some hg
    obtain ⟨v4_25, xs, rfl, hg⟩ := hg
    replace hg := takeI_some hg
    obtain ⟨v4_26, xs, rfl, hg⟩ := hg
    replace hg := takeI_some hg
    obtain ⟨v4_27, xs, rfl, hg⟩ := hg
    replace hg := takeI_some hg
    obtain ⟨v4_28, xs, rfl, hg⟩ := hg
    replace hg := takeI_some hg
    obtain ⟨v4_29, xs, rfl, hg⟩ := hg
    replace hg := takeI_some hg
    obtain ⟨v4_30, xs, rfl, hg⟩ := hg
    replace hg := takeI_some hg
    obtain ⟨v4_31, xs, rfl, hg⟩ := hg
    replace hg := takeI_some hg
    obtain ⟨v4_32, xs, rfl, hg⟩ := hg
    replace hg := takeI_some hg
    obtain ⟨v4_33, xs, rfl, hg⟩ := hg
    replace hg := takeI_some hg
    obtain ⟨v4_34, xs, rfl, hg⟩ := hg
    replace hg := takeB_some hg
    obtain ⟨v4_35, xs, rfl, hg⟩ := hg
    replace hg := takeI_some hg
    obtain ⟨v5_0, xs, rfl, hg⟩ := hg
    replace hg := takeI_some hg
    obtain ⟨v5_1, xs, rfl, hg⟩ := hg
    replace hg := takeI_some hg
    obtain ⟨v5_2, xs, rfl, hg⟩ := hg
    replace hg := takeI_some hg
    obtain ⟨v5_4, xs, rfl, hg⟩ := hg
    replace hg := takeI_some hg
    obtain ⟨v5_5, xs, rfl, hg⟩ := hg
    replace hg := takeI_some hg
    obtain ⟨v5_6, xs, rfl, hg⟩ := hg
    replace hg := takeI_some hg
    obtain ⟨v5_7, xs, rfl, hg⟩ := hg
    replace hg := takeI_some hg
    obtain ⟨v5_8, xs, rfl, hg⟩ := hg
    replace hg := takeI_some hg
    obtain ⟨v5_9, xs, rfl, hg⟩ := hg
    replace hg := takeI_some hg
    obtain ⟨v5_10, xs, rfl, hg⟩ := hg
    replace hg := takeI_some hg
    obtain ⟨v5_11, xs, rfl, hg⟩ := hg
    replace hg := takeI_some hg
    obtain ⟨v5_12, xs, rfl, hg⟩ := hg
    replace hg := takeI_some hg
    obtain ⟨v5_13, xs, rfl, hg⟩ := hg
    replace hg := takeI_some hg
    obtain ⟨v5_14, xs, rfl, hg⟩ := hg
    replace hg := takeI_some hg
    obtain ⟨v5_15, xs, rfl, hg⟩ := hg
    replace hg := takeI_some hg
    obtain ⟨v5_16, xs, rfl, hg⟩ := hg
    replace hg := takeI_some hg
    obtain ⟨v5_17, xs, rfl, hg⟩ := hg
    replace hg := takeI_some hg
    obtain ⟨v5_18, xs, rfl, hg⟩ := hg
    replace hg := takeI_some hg
    obtain ⟨v5_19, xs, rfl, hg⟩ := hg
    replace hg := takeI_some hg
    obtain ⟨v5_20, xs, rfl, hg⟩ := hg
    replace hg := takeI_some hg
    obtain ⟨v5_21, xs, rfl, hg⟩ := hg
    replace hg := takeI_some hg
    obtain ⟨v5_22, xs, rfl, hg⟩ := hg
    replace hg := takeI_some hg
    obtain ⟨v5_23, xs, rfl, hg⟩ := hg
    replace hg := takeI_some hg
    obtain ⟨v5_24, xs, rfl, hg⟩ := hg
    replace hg := takeI_some hg
    obtain ⟨v5_25, xs, rfl, hg⟩ := hg
    replace hg := takeI_some hg
    obtain ⟨v5_26, xs, rfl, hg⟩ := hg
    replace hg := takeI_some hg
    obtain ⟨v5_27, xs, rfl, hg⟩ := hg
    replace hg := takeI_some hg
    obtain ⟨v5_28, xs, rfl, hg⟩ := hg
    replace hg := takeI_some hg
    obtain ⟨v5_29, xs, rfl, hg⟩ := hg
    replace hg := takeI_some hg
    obtain ⟨v5_30, xs, rfl, hg⟩ := hg
    replace hg := takeI_some hg
    obtain ⟨v5_31, xs, rfl, hg⟩ := hg
    replace hg := takeI_some hg
    obtain ⟨v5_32, xs, rfl, hg⟩ := hg
    replace hg := takeI_some hg
    obtain ⟨v5_33, xs, rfl, hg⟩ := hg
    replace hg := takeI_some hg
    obtain ⟨v5_34, xs, rfl, hg⟩ := hg
    replace hg := takeB_some hg
    obtain ⟨v5_35, xs, rfl, hg⟩ := hg
    replace hg := takeB_some hg
    obtain ⟨v4, xs, rfl, hg⟩ := hg
    replace hg := takeI_some hg
    obtain ⟨v5, xs, rfl, hg⟩ := hg
    replace hg := takeE_some hg
    obtain ⟨rfl, hg⟩ := hg
    simp only [Option.some.injEq, Prod.mk.injEq] at hg
    obtain ⟨h1, rfl, rfl, rfl⟩ := hg
    rw [pat_rs1] at hb
    simp only [Option.some.injEq] at hb
    subst hb
    exact main_rs1 _ _ _ _ _ _ _ _ _ _ _ _ _ _ _ _ _ _ _ _ _ _ _ _ _ _ _ _ _ _ _ _ _ _ _ _ _ _ _ _ _ _ _ _ _ _ _ _ _ _ _ _ _ _ _ _ _ _ _ _ _ _ _ _ _ _ _ _ _ _ _ _ _ _ _ _ h1
  · cases hg
set_option maxHeartbeats 0 in
theorem p35 : Prog Try.prog (fun _ => True) k35 := Prog.addL (cfg := k34) (f := 17) (p := 122) (keep := keep_rs1) (kx := kx_rs1) (m := 6) (mv := sp_rs1.mv) (Q := P_rs1) (g := g_rs1) p34 Try.func17 (by kernel_rfl) code_rs1 (by kernel_rfl) rfl (by decide) loop_rs1

set_option maxHeartbeats 0 in
theorem loop_rs2 : ∀ ls os xs l e s' s, bSt P_rs2 ls os xs = some s → g_rs2 ls os xs = some (true, l, e, s') → ∃ fuel d, runL k35 fuel d 17 250 { keep := keep_rs2, m := 6, mv := sp_rs2.mv } kx_rs2 c_rs2 s = some (altK Prod.mk l e s') := by
  intro ls os xs l e s' s hb hg
  unfold g_rs2 at hg
  split at hg
  · replace hg := takeI_some hg
    obtain ⟨v4_0, xs, rfl, hg⟩ := hg
    replace hg := takeI_some hg
    obtain ⟨v4_1, xs, rfl, hg⟩ := hg
    replace hg := takeI_some hg
    obtain ⟨v4_2, xs, rfl, hg⟩ := hg
    replace hg := takeI_some hg
    obtain ⟨v4_4, xs, rfl, hg⟩ := hg
    replace hg := takeI_some hg
    obtain ⟨v4_5, xs, rfl, hg⟩ := hg
    replace hg := takeI_some hg
    obtain ⟨v4_6, xs, rfl, hg⟩ := hg
    replace hg := takeI_some hg
    obtain ⟨v4_7, xs, rfl, hg⟩ := hg
    replace hg := takeI_some hg
    obtain ⟨v4_8, xs, rfl, hg⟩ := hg
    replace hg := takeI_some hg
    obtain ⟨v4_9, xs, rfl, hg⟩ := hg
    replace hg := takeI_some hg
    obtain ⟨v4_10, xs, rfl, hg⟩ := hg
    replace hg := takeI_some hg
    obtain ⟨v4_11, xs, rfl, hg⟩ := hg
    replace hg := takeI_some hg
    obtain ⟨v4_12, xs, rfl, hg⟩ := hg
    replace hg := takeI_some hg
    obtain ⟨v4_13, xs, rfl, hg⟩ := hg
    replace hg := takeI_some hg
    obtain ⟨v4_14, xs, rfl, hg⟩ := hg
    replace hg := takeI_some hg
    obtain ⟨v4_15, xs, rfl, hg⟩ := hg
    replace hg := takeI_some hg
    obtain ⟨v4_16, xs, rfl, hg⟩ := hg
    replace hg := takeI_some hg
    obtain ⟨v4_17, xs, rfl, hg⟩ := hg
    replace hg := takeI_some hg
    obtain ⟨v4_18, xs, rfl, hg⟩ := hg
    replace hg := takeI_some hg
    obtain ⟨v4_19, xs, rfl, hg⟩ := hg
    replace hg := takeI_some hg
    obtain ⟨v4_20, xs, rfl, hg⟩ := hg
    replace hg := takeI_some hg
    obtain ⟨v4_21, xs, rfl, hg⟩ := hg
    replace hg := takeI_some hg
    obtain ⟨v4_22, xs, rfl, hg⟩ := hg
    replace hg := takeI_some hg
    obtain ⟨v4_23, xs, rfl, hg⟩ := hg
    replace hg := takeI_some hg
    obtain ⟨v4_24, xs, rfl, hg⟩ := hg
    replace hg := takeI_some hg
    obtain ⟨v4_25, xs, rfl, hg⟩ := hg
    replace hg := takeI_some hg
    obtain ⟨v4_26, xs, rfl, hg⟩ := hg
    replace hg := takeI_some hg
    obtain ⟨v4_27, xs, rfl, hg⟩ := hg
    replace hg := takeI_some hg
    obtain ⟨v4_28, xs, rfl, hg⟩ := hg
    replace hg := takeI_some hg
    obtain ⟨v4_29, xs, rfl, hg⟩ := hg
    replace hg := takeI_some hg
    obtain ⟨v4_30, xs, rfl, hg⟩ := hg
    replace hg := takeI_some hg
    obtain ⟨v4_31, xs, rfl, hg⟩ := hg
    replace hg := takeI_some hg
    obtain ⟨v4_32, xs, rfl, hg⟩ := hg
    replace hg := takeI_some hg
    obtain ⟨v4_33, xs, rfl, hg⟩ := hg
    replace hg := takeI_some hg
    obtain ⟨v4_34, xs, rfl, hg⟩ := hg
    replace hg := takeB_some hg
    obtain ⟨v4_35, xs, rfl, hg⟩ := hg
    replace hg := takeI_some hg
    obtain ⟨v5_0, xs, rfl, hg⟩ := hg
    replace hg := takeI_some hg
    obtain ⟨v5_1, xs, rfl, hg⟩ := hg
    replace hg := takeI_some hg
    obtain ⟨v5_2, xs, rfl, hg⟩ := hg
    replace hg := takeI_some hg
    obtain ⟨v5_4, xs, rfl, hg⟩ := hg
    replace hg := takeI_some hg
    obtain ⟨v5_5, xs, rfl, hg⟩ := hg
    replace hg := takeI_some hg
    obtain ⟨v5_6, xs, rfl, hg⟩ := hg
    replace hg := takeI_some hg
    obtain ⟨v5_7, xs, rfl, hg⟩ := hg
    replace hg := takeI_some hg
    obtain ⟨v5_8, xs, rfl, hg⟩ := hg
    replace hg := takeI_some hg
    obtain ⟨v5_9, xs, rfl, hg⟩ := hg
    replace hg := takeI_some hg
    obtain ⟨v5_10, xs, rfl, hg⟩ := hg
    replace hg := takeI_some hg
    obtain ⟨v5_11, xs, rfl, hg⟩ := hg
    replace hg := takeI_some hg
    obtain ⟨v5_12, xs, rfl, hg⟩ := hg
    replace hg := takeI_some hg
    obtain ⟨v5_13, xs, rfl, hg⟩ := hg
    replace hg := takeI_some hg
    obtain ⟨v5_14, xs, rfl, hg⟩ := hg
    replace hg := takeI_some hg
    obtain ⟨v5_15, xs, rfl, hg⟩ := hg
    replace hg := takeI_some hg
    obtain ⟨v5_16, xs, rfl, hg⟩ := hg
    replace hg := takeI_some hg
    obtain ⟨v5_17, xs, rfl, hg⟩ := hg
    replace hg := takeI_some hg
    obtain ⟨v5_18, xs, rfl, hg⟩ := hg
    replace hg := takeI_some hg
    obtain ⟨v5_19, xs, rfl, hg⟩ := hg
    replace hg := takeI_some hg
    obtain ⟨v5_20, xs, rfl, hg⟩ := hg
    replace hg := takeI_some hg
    obtain ⟨v5_21, xs, rfl, hg⟩ := hg
    replace hg := takeI_some hg
    obtain ⟨v5_22, xs, rfl, hg⟩ := hg
    replace hg := takeI_some hg
    obtain ⟨v5_23, xs, rfl, hg⟩ := hg
    replace hg := takeI_some hg
    obtain ⟨v5_24, xs, rfl, hg⟩ := hg
    replace hg := takeI_some hg
    obtain ⟨v5_25, xs, rfl, hg⟩ := hg
    replace hg := takeI_some hg
    obtain ⟨v5_26, xs, rfl, hg⟩ := hg
    replace hg := takeI_some hg
    obtain ⟨v5_27, xs, rfl, hg⟩ := hg
    replace hg := takeI_some hg
    obtain ⟨v5_28, xs, rfl, hg⟩ := hg
    replace hg := takeI_some hg
    obtain ⟨v5_29, xs, rfl, hg⟩ := hg
    replace hg := takeI_some hg
    obtain ⟨v5_30, xs, rfl, hg⟩ := hg
    replace hg := takeI_some hg
    obtain ⟨v5_31, xs, rfl, hg⟩ := hg
    replace hg := takeI_some hg
    obtain ⟨v5_32, xs, rfl, hg⟩ := hg
    replace hg := takeI_some hg
    obtain ⟨v5_33, xs, rfl, hg⟩ := hg
    replace hg := takeI_some hg
    obtain ⟨v5_34, xs, rfl, hg⟩ := hg
    replace hg := takeB_some hg
    obtain ⟨v5_35, xs, rfl, hg⟩ := hg
    replace hg := takeB_some hg
    obtain ⟨v4, xs, rfl, hg⟩ := hg
    replace hg := takeI_some hg
    obtain ⟨v6, xs, rfl, hg⟩ := hg
    replace hg := takeE_some hg
    obtain ⟨rfl, hg⟩ := hg
    simp only [Option.some.injEq, Prod.mk.injEq] at hg
    obtain ⟨h1, rfl, rfl, rfl⟩ := hg
    rw [pat_rs2] at hb
    simp only [Option.some.injEq] at hb
    subst hb
    exact main_rs2 _ _ _ _ _ _ _ _ _ _ _ _ _ _ _ _ _ _ _ _ _ _ _ _ _ _ _ _ _ _ _ _ _ _ _ _ _ _ _ _ _ _ _ _ _ _ _ _ _ _ _ _ _ _ _ _ _ _ _ _ _ _ _ _ _ _ _ _ _ _ _ _ _ _ _ _ h1
  · cases hg
set_option maxHeartbeats 0 in
theorem p36 : Prog Try.prog (fun _ => True) k36 := Prog.addL (cfg := k35) (f := 17) (p := 250) (keep := keep_rs2) (kx := kx_rs2) (m := 6) (mv := sp_rs2.mv) (Q := P_rs2) (g := g_rs2) p35 Try.func17 (by kernel_rfl) code_rs2 (by kernel_rfl) rfl (by decide) loop_rs2

theorem p37 : Prog Try.prog (fun _ => True) k37 := p36.addLoop (.of Try.func17 (by kernel_rfl) (by kernel_rfl)) (fun x h => run_newelref10_Same x.1 x.2.1 h)

theorem law_newellaw10_ConfigFewer : ∀ x, s_newellaw10_ConfigFewer.wf x → ∃ fuel d, run k37 fuel d 6 Try.f6 s_newellaw10_ConfigFewer x = some (.bool true) := fun x hx => run_newellaw10_ConfigFewer x.1 x.2.1
theorem p38 : Prog Try.prog (fun _ => True) k38 := p37

end Go.Proofs.Ytchmdbfcmcoohaa.Px.PxC
