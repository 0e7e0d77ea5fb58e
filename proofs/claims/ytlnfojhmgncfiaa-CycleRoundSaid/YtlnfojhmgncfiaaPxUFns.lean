/- A seat's functions are what their contracts say. -/
import Derived.Test.YtlnfojhmgncfiaaPxUSteps
import Derived.Test.YtlnfojhmgncfiaaPxUAuto
import Derived.Test.YtlnfojhmgncfiaaPxUProofs
import Derived.Test.YtlnfojhmgncfiaaPxUProofs6
set_option linter.unusedVariables false
set_option linter.unusedSimpArgs false
namespace Go.Proofs.Ytlnfojhmgncfiaa.Px.PxU
open Go Go.Proofs

theorem p1 : Prog Try.prog (fun _ => True) k1 := p0.addLoop (.of Try.func59 (by kernel_rfl) (by kernel_rfl)) (fun x h => run_door_within x.1 x.2.1 x.2.2.1)

theorem p2 : Prog Try.prog (fun _ => True) k2 := p1.addLoop (.of Try.func36 (by kernel_rfl) (by kernel_rfl)) (fun x h => run_car_within x.1 x.2.1 x.2.2.1)

theorem p3 : Prog Try.prog (fun _ => True) k3 := p2.addLoop (.of Try.func56 (by kernel_rfl) (by kernel_rfl)) (fun x h => run_door_times x.1)

theorem p4 : Prog Try.prog (fun _ => True) k4 := p3.addLoop (.of Try.func54 (by kernel_rfl) (by kernel_rfl)) (fun x h => run_door_gear x.1)

theorem p5 : Prog Try.prog (fun _ => True) k5 := p4.addLoop (.of Try.func51 (by kernel_rfl) (by kernel_rfl)) (fun x h => run_newelref17_tick x.1)

theorem p6 : Prog Try.prog (fun _ => True) k6 := p5.addLoop (.of Try.func39 (by kernel_rfl) (by kernel_rfl)) (fun x h => run_newelref17_Times x.1)

theorem p7 : Prog Try.prog (fun _ => True) k7 := p6.addLoop (.of Try.func26 (by kernel_rfl) (by kernel_rfl)) (fun x h => run_newelref17_Gear x.1)

theorem p8 : Prog Try.prog (fun _ => True) k8 := p7.addLoop (.of Try.func53 (by kernel_rfl) (by kernel_rfl)) (fun x h => run_newelref17_Step x.1 x.2.1 x.2.2.1 h)

theorem p9 : Prog Try.prog (fun _ => True) k9 := p8.addLoop (.of Try.func62 (by kernel_rfl) (by kernel_rfl)) (fun x h => run_door_on x.1 x.2.1 x.2.2.1)

theorem p10 : Prog Try.prog (fun _ => True) k10 := p9.addLoop (.of Try.func60 (by kernel_rfl) (by kernel_rfl)) (fun x h => run_door_phases_1 x.1 x.2.1 x.2.2.1)

theorem p11 : Prog Try.prog (fun _ => True) k11 := p10.addLoop (.of Try.func61 (by kernel_rfl) (by kernel_rfl)) (fun x h => run_door_phases_2 x.1 x.2.1 x.2.2.1)

theorem p12 : Prog Try.prog (fun _ => True) k12 := p11.addLoop (.of Try.func63 (by kernel_rfl) (by kernel_rfl)) (fun x h => run_door_open x.1 x.2.1 x.2.2.1)

theorem p13 : Prog Try.prog (fun _ => True) k13 := p12.addLoop (.of Try.func64 (by kernel_rfl) (by kernel_rfl)) (fun x h => run_door_closing x.1 x.2.1 x.2.2.1)

theorem run_door_phases : ∃ F d, run k13 F d 57 Try.f57 s_door_phases (()) = some (r_door_phases.enc (())) := ⟨200, 6, by kernel_rfl⟩
theorem p14 : Prog Try.prog (fun _ => True) k14 := p13.addLoop (.of Try.func57 (by kernel_rfl) (by kernel_rfl)) (fun x h => run_door_phases )

theorem p15 : Prog Try.prog (fun _ => True) k15 := p14.addLoop (.of Try.func55 (by kernel_rfl) (by kernel_rfl)) (fun x h => run_door_Check x.1)

theorem p16 : Prog Try.prog (fun _ => True) k16 := p15.addLoop (.of Try.func49 (by kernel_rfl) (by kernel_rfl)) (fun x h => run_door_Ask x.1 x.2.1)

theorem p17 : Prog Try.prog (fun _ => True) k17 := p16.addLoop (.of Try.func50 (by kernel_rfl) (by kernel_rfl)) (fun x h => run_door_Step x.1 x.2.1 x.2.2.1)

theorem p18 : Prog Try.prog (fun _ => True) k18 := p17.addLoop (.of Try.func46 (by kernel_rfl) (by kernel_rfl)) (fun x h => run_door_Rest x.1 x.2.1)

theorem p19 : Prog Try.prog (fun _ => True) k19 := p18.addLoop (.of Try.func47 (by kernel_rfl) (by kernel_rfl)) (fun x h => run_car_Check x.1 x.2.1)

theorem p20 : Prog Try.prog (fun _ => True) k20 := p19.addLoop (.of Try.func35 (by kernel_rfl) (by kernel_rfl)) (fun x h => run_car_check x.1 x.2.1)

theorem p21 : Prog Try.prog (fun _ => True) k21 := p20.addLoop (.of Try.func23 (by kernel_rfl) (by kernel_rfl)) (fun x h => run_car_Step x.1 x.2.1 x.2.2.1)

theorem p22 : Prog Try.prog (fun _ => True) k22 := p21.addLoop (.of Try.func42 (by kernel_rfl) (by kernel_rfl)) (fun x h => run_car_Rest x.1 x.2.1)

theorem p23 : Prog Try.prog (fun _ => True) k23 := p22.addLoop (.of Try.func40 (by kernel_rfl) (by kernel_rfl)) (fun x h => run_newelref18_Step x.1 x.2.1 x.2.2.1 h)

theorem run_newellaw17_Plain : ∃ F d, run k23 F d 24 Try.f24 s_newellaw17_Plain (()) = some (r_newellaw17_Plain.enc (plainGear)) := ⟨200, 6, by kernel_rfl⟩
theorem p24 : Prog Try.prog (fun _ => True) k24 := p23.addLoop (.of Try.func24 (by kernel_rfl) (by kernel_rfl)) (fun x h => run_newellaw17_Plain )

theorem p25 : Prog Try.prog (fun _ => True) k25 := p24.addLoop (.of Try.func45 (by kernel_rfl) (by kernel_rfl)) (fun x h => run_cycle_sign x.1)

theorem p26 : Prog Try.prog (fun _ => True) k26 := p25.addLoop (.of Try.func43 (by kernel_rfl) (by kernel_rfl)) (fun x h => run_cycle_stop x.1 h)

set_option maxHeartbeats 0 in
theorem loop_row : ∀ ls os xs l e s' s, bSt P_row ls os xs = some s → g_row ls os xs = some (true, l, e, s') → ∃ fuel d, runL k26 fuel d 32 58 { keep := keep_row, m := 4, mv := sp_row.mv } kx_row c_row s = some (altK Prod.mk l e s') := by
  intro ls os xs l e s' s hb hg
  unfold g_row at hg
  split at hg
  · replace hg := takeI_some hg
    obtain ⟨v1_1, xs, rfl, hg⟩ := hg
    replace hg := takeI_some hg
    obtain ⟨v1_2, xs, rfl, hg⟩ := hg
    replace hg := takeI_some hg
    obtain ⟨v4, xs, rfl, hg⟩ := hg
    replace hg := takeE_some hg
    obtain ⟨rfl, hg⟩ := hg
    simp only [Option.some.injEq, Prod.mk.injEq] at hg
    obtain ⟨h1, rfl, rfl, rfl⟩ := hg
    rw [pat_row] at hb
    simp only [Option.some.injEq] at hb
    subst hb
    exact main_row _ _ _ _ _ h1
  · cases hg
set_option maxHeartbeats 0 in
theorem p27 : Prog Try.prog (fun _ => True) k27 := Prog.addL (cfg := k26) (f := 32) (p := 58) (keep := keep_row) (kx := kx_row) (m := 4) (mv := sp_row.mv) (Q := P_row) (g := g_row) p26 Try.func32 (by kernel_rfl) code_row (by kernel_rfl) rfl (by decide) loop_row

theorem p28 : Prog Try.prog (fun _ => True) k28 := p27.addH (.of Try.func32 (by kernel_rfl) (by kernel_rfl)) (fun x h => run_cycle_row x.1 h)

theorem p29 : Prog Try.prog (fun _ => True) k29 := p28.addLoop (.of Try.func33 (by kernel_rfl) (by kernel_rfl)) (fun x h => run_cycle_place x.1 x.2.1 h)

set_option maxHeartbeats 0 in
theorem loop_check : ∀ ls os xs l e s' s, bSt P_check ls os xs = some s → g_check ls os xs = some (true, l, e, s') → ∃ fuel d, runL k29 fuel d 30 58 { keep := keep_check, m := 3, mv := sp_check.mv } kx_check c_check s = some (altK Prod.mk l e s') := by
  intro ls os xs l e s' s hb hg
  unfold g_check at hg
  split at hg
  · replace hg := takeI_some hg
    obtain ⟨v1_0, xs, rfl, hg⟩ := hg
    replace hg := takeI_some hg
    obtain ⟨v1_1, xs, rfl, hg⟩ := hg
    replace hg := takeI_some hg
    obtain ⟨v1_2, xs, rfl, hg⟩ := hg
    replace hg := takeI_some hg
    obtain ⟨v1_3, xs, rfl, hg⟩ := hg
    replace hg := takeI_some hg
    obtain ⟨v1_4, xs, rfl, hg⟩ := hg
    replace hg := takeI_some hg
    obtain ⟨v1_5, xs, rfl, hg⟩ := hg
    replace hg := takeI_some hg
    obtain ⟨v1_6, xs, rfl, hg⟩ := hg
    replace hg := takeI_some hg
    obtain ⟨v1_7, xs, rfl, hg⟩ := hg
    replace hg := takeI_some hg
    obtain ⟨v1_8, xs, rfl, hg⟩ := hg
    replace hg := takeI_some hg
    obtain ⟨v1_9, xs, rfl, hg⟩ := hg
    replace hg := takeI_some hg
    obtain ⟨v2_1, xs, rfl, hg⟩ := hg
    replace hg := takeI_some hg
    obtain ⟨v2_2, xs, rfl, hg⟩ := hg
    replace hg := takeI_some hg
    obtain ⟨v4, xs, rfl, hg⟩ := hg
    replace hg := takeB_some hg
    obtain ⟨v5, xs, rfl, hg⟩ := hg
    replace hg := takeI_some hg
    obtain ⟨v38, xs, rfl, hg⟩ := hg
    replace hg := takeI_some hg
    obtain ⟨v39, xs, rfl, hg⟩ := hg
    replace hg := takeE_some hg
    obtain ⟨rfl, hg⟩ := hg
    simp only [Option.some.injEq, Prod.mk.injEq] at hg
    obtain ⟨h1, rfl, rfl, rfl⟩ := hg
    rw [pat_check] at hb
    simp only [Option.some.injEq] at hb
    subst hb
    exact main_check _ _ _ _ _ _ _ _ _ _ _ _ _ _ _ _ _ h1
  · cases hg
set_option maxHeartbeats 0 in
theorem p30 : Prog Try.prog (fun _ => True) k30 := Prog.addL (cfg := k29) (f := 30) (p := 58) (keep := keep_check) (kx := kx_check) (m := 3) (mv := sp_check.mv) (Q := P_check) (g := g_check) p29 Try.func30 (by kernel_rfl) code_check (by kernel_rfl) rfl (by decide) loop_check

theorem p31 : Prog Try.prog (fun _ => True) k31 := p30.addLoop (.of Try.func30 (by kernel_rfl) (by kernel_rfl)) (fun x h => run_cycle_check x.1 x.2.1 h)

theorem p32 : Prog Try.prog (fun _ => True) k32 := p31.addLoop (.of Try.func31 (by kernel_rfl) (by kernel_rfl)) (fun x h => run_cycle_length x.1 x.2.1 h)

theorem p33 : Prog Try.prog (fun _ => True) k33 := p32.addLoop (.of Try.func17 (by kernel_rfl) (by kernel_rfl)) (fun x h => run_cycle_Length x.1 x.2.1 h)

theorem p34 : Prog Try.prog (fun _ => True) k34 := p33.addLoop (.of Try.func18 (by kernel_rfl) (by kernel_rfl)) (fun x h => run_cycle_First x.1 x.2.1 h)

set_option maxHeartbeats 0 in
theorem loop_wride : ∀ ls os xs l e s' s, bSt P_wride ls os xs = some s → g_wride ls os xs = some (true, l, e, s') → ∃ fuel d, runL k34 fuel d 44 193342 { keep := keep_wride, m := 13, mv := sp_wride.mv } kx_wride c_wride s = some (altK Prod.mk l e s') := by
  intro ls os xs l e s' s hb hg
  unfold g_wride at hg
  split at hg
  · replace hg := takeI_some hg
    obtain ⟨v1_0, xs, rfl, hg⟩ := hg
    replace hg := takeI_some hg
    obtain ⟨v1_1, xs, rfl, hg⟩ := hg
    replace hg := takeI_some hg
    obtain ⟨v1_2, xs, rfl, hg⟩ := hg
    replace hg := takeI_some hg
    obtain ⟨v1_3, xs, rfl, hg⟩ := hg
    replace hg := takeI_some hg
    obtain ⟨v1_4, xs, rfl, hg⟩ := hg
    replace hg := takeI_some hg
    obtain ⟨v1_5, xs, rfl, hg⟩ := hg
    replace hg := takeI_some hg
    obtain ⟨v1_6, xs, rfl, hg⟩ := hg
    replace hg := takeI_some hg
    obtain ⟨v1_7, xs, rfl, hg⟩ := hg
    replace hg := takeI_some hg
    obtain ⟨v1_8, xs, rfl, hg⟩ := hg
    replace hg := takeI_some hg
    obtain ⟨v1_9, xs, rfl, hg⟩ := hg
    replace hg := takeI_some hg
    obtain ⟨v2_1, xs, rfl, hg⟩ := hg
    replace hg := takeI_some hg
    obtain ⟨v2_2, xs, rfl, hg⟩ := hg
    replace hg := takeI_some hg
    obtain ⟨v3_0, xs, rfl, hg⟩ := hg
    replace hg := takeI_some hg
    obtain ⟨v4_0, xs, rfl, hg⟩ := hg
    replace hg := takeI_some hg
    obtain ⟨v4_1, xs, rfl, hg⟩ := hg
    replace hg := takeI_some hg
    obtain ⟨v4_2, xs, rfl, hg⟩ := hg
    replace hg := takeI_some hg
    obtain ⟨v5_0, xs, rfl, hg⟩ := hg
    replace hg := takeI_some hg
    obtain ⟨v6_0, xs, rfl, hg⟩ := hg
    replace hg := takeI_some hg
    obtain ⟨v7_0, xs, rfl, hg⟩ := hg
    replace hg := takeI_some hg
    obtain ⟨v7_1, xs, rfl, hg⟩ := hg
    replace hg := takeI_some hg
    obtain ⟨v7_2, xs, rfl, hg⟩ := hg
    replace hg := takeI_some hg
    obtain ⟨v7_3, xs, rfl, hg⟩ := hg
    replace hg := takeI_some hg
    obtain ⟨v7_4, xs, rfl, hg⟩ := hg
    replace hg := takeI_some hg
    obtain ⟨v7_5, xs, rfl, hg⟩ := hg
    replace hg := takeI_some hg
    obtain ⟨v7_6, xs, rfl, hg⟩ := hg
    replace hg := takeI_some hg
    obtain ⟨v7_7, xs, rfl, hg⟩ := hg
    replace hg := takeI_some hg
    obtain ⟨v7_8, xs, rfl, hg⟩ := hg
    replace hg := takeI_some hg
    obtain ⟨v7_9, xs, rfl, hg⟩ := hg
    replace hg := takeI_some hg
    obtain ⟨v8_1, xs, rfl, hg⟩ := hg
    replace hg := takeI_some hg
    obtain ⟨v8_2, xs, rfl, hg⟩ := hg
    replace hg := takeI_some hg
    obtain ⟨v12_0, xs, rfl, hg⟩ := hg
    replace hg := takeI_some hg
    obtain ⟨v12_1, xs, rfl, hg⟩ := hg
    replace hg := takeI_some hg
    obtain ⟨v12_2, xs, rfl, hg⟩ := hg
    replace hg := takeI_some hg
    obtain ⟨v5, xs, rfl, hg⟩ := hg
    replace hg := takeI_some hg
    obtain ⟨v6, xs, rfl, hg⟩ := hg
    replace hg := takeI_some hg
    obtain ⟨v8, xs, rfl, hg⟩ := hg
    replace hg := takeI_some hg
    obtain ⟨v9, xs, rfl, hg⟩ := hg
    replace hg := takeI_some hg
    obtain ⟨v10, xs, rfl, hg⟩ := hg
    replace hg := takeI_some hg
    obtain ⟨v18, xs, rfl, hg⟩ := hg
    replace hg := takeI_some hg
    obtain ⟨v19, xs, rfl, hg⟩ := hg
    replace hg := takeE_some hg
    obtain ⟨rfl, hg⟩ := hg
    simp only [Option.some.injEq, Prod.mk.injEq] at hg
    obtain ⟨h1, rfl, rfl, rfl⟩ := hg
    rw [pat_wride] at hb
    simp only [Option.some.injEq] at hb
    subst hb
    exact main_wride _ _ _ _ _ _ _ _ _ _ _ _ _ _ _ _ _ _ _ _ _ _ _ _ _ _ _ _ _ _ _ _ _ _ _ _ _ _ _ _ _ _ h1
  · cases hg
set_option maxHeartbeats 0 in
theorem p35 : Prog Try.prog (fun _ => True) k35 := Prog.addL (cfg := k34) (f := 44) (p := 193342) (cx := 1) (keep := keep_wride) (kx := kx_wride) (m := 13) (mv := sp_wride.mv) (Q := P_wride) (g := g_wride) p34 Try.func44 (by kernel_rfl) code_wride (by kernel_rfl) rfl (by decide) loop_wride

set_option maxHeartbeats 0 in
theorem loop_wstop : ∀ ls os xs l e s' s, bSt P_wstop ls os xs = some s → g_wstop ls os xs = some (true, l, e, s') → ∃ fuel d, runL k35 fuel d 44 94 { keep := keep_wstop, m := 12, mv := sp_wstop.mv } kx_wstop c_wstop s = some (altK Prod.mk l e s') := by
  intro ls os xs l e s' s hb hg
  unfold g_wstop at hg
  split at hg
  · replace hg := takeI_some hg
    obtain ⟨v1_0, xs, rfl, hg⟩ := hg
    replace hg := takeI_some hg
    obtain ⟨v1_1, xs, rfl, hg⟩ := hg
    replace hg := takeI_some hg
    obtain ⟨v1_2, xs, rfl, hg⟩ := hg
    replace hg := takeI_some hg
    obtain ⟨v1_3, xs, rfl, hg⟩ := hg
    replace hg := takeI_some hg
    obtain ⟨v1_4, xs, rfl, hg⟩ := hg
    replace hg := takeI_some hg
    obtain ⟨v1_5, xs, rfl, hg⟩ := hg
    replace hg := takeI_some hg
    obtain ⟨v1_6, xs, rfl, hg⟩ := hg
    replace hg := takeI_some hg
    obtain ⟨v1_7, xs, rfl, hg⟩ := hg
    replace hg := takeI_some hg
    obtain ⟨v1_8, xs, rfl, hg⟩ := hg
    replace hg := takeI_some hg
    obtain ⟨v1_9, xs, rfl, hg⟩ := hg
    replace hg := takeI_some hg
    obtain ⟨v2_1, xs, rfl, hg⟩ := hg
    replace hg := takeI_some hg
    obtain ⟨v2_2, xs, rfl, hg⟩ := hg
    replace hg := takeI_some hg
    obtain ⟨v3_0, xs, rfl, hg⟩ := hg
    replace hg := takeI_some hg
    obtain ⟨v4_0, xs, rfl, hg⟩ := hg
    replace hg := takeI_some hg
    obtain ⟨v4_1, xs, rfl, hg⟩ := hg
    replace hg := takeI_some hg
    obtain ⟨v4_2, xs, rfl, hg⟩ := hg
    replace hg := takeI_some hg
    obtain ⟨v5_0, xs, rfl, hg⟩ := hg
    replace hg := takeI_some hg
    obtain ⟨v6_0, xs, rfl, hg⟩ := hg
    replace hg := takeI_some hg
    obtain ⟨v7_0, xs, rfl, hg⟩ := hg
    replace hg := takeI_some hg
    obtain ⟨v7_1, xs, rfl, hg⟩ := hg
    replace hg := takeI_some hg
    obtain ⟨v7_2, xs, rfl, hg⟩ := hg
    replace hg := takeI_some hg
    obtain ⟨v7_3, xs, rfl, hg⟩ := hg
    replace hg := takeI_some hg
    obtain ⟨v7_4, xs, rfl, hg⟩ := hg
    replace hg := takeI_some hg
    obtain ⟨v7_5, xs, rfl, hg⟩ := hg
    replace hg := takeI_some hg
    obtain ⟨v7_6, xs, rfl, hg⟩ := hg
    replace hg := takeI_some hg
    obtain ⟨v7_7, xs, rfl, hg⟩ := hg
    replace hg := takeI_some hg
    obtain ⟨v7_8, xs, rfl, hg⟩ := hg
    replace hg := takeI_some hg
    obtain ⟨v7_9, xs, rfl, hg⟩ := hg
    replace hg := takeI_some hg
    obtain ⟨v8_1, xs, rfl, hg⟩ := hg
    replace hg := takeI_some hg
    obtain ⟨v8_2, xs, rfl, hg⟩ := hg
    replace hg := takeI_some hg
    obtain ⟨v5, xs, rfl, hg⟩ := hg
    replace hg := takeI_some hg
    obtain ⟨v6, xs, rfl, hg⟩ := hg
    replace hg := takeI_some hg
    obtain ⟨v18, xs, rfl, hg⟩ := hg
    replace hg := takeI_some hg
    obtain ⟨v19, xs, rfl, hg⟩ := hg
    replace hg := takeE_some hg
    obtain ⟨rfl, hg⟩ := hg
    simp only [Option.some.injEq, Prod.mk.injEq] at hg
    obtain ⟨h1, rfl, rfl, rfl⟩ := hg
    rw [pat_wstop] at hb
    simp only [Option.some.injEq] at hb
    subst hb
    exact main_wstop _ _ _ _ _ _ _ _ _ _ _ _ _ _ _ _ _ _ _ _ _ _ _ _ _ _ _ _ _ _ _ _ _ _ _ _ h1
  · cases hg
set_option maxHeartbeats 0 in
theorem p36 : Prog Try.prog (fun _ => True) k36 := Prog.addL (cfg := k35) (f := 44) (p := 94) (cx := 1) (keep := keep_wstop) (kx := kx_wstop) (m := 12) (mv := sp_wstop.mv) (Q := P_wstop) (g := g_wstop) p35 Try.func44 (by kernel_rfl) code_wstop (by kernel_rfl) rfl (by decide) loop_wstop

theorem p37 : Prog Try.prog (fun _ => True) k37 := p36.addLoop (.of Try.func25 (by kernel_rfl) (by kernel_rfl)) (fun x h => run_cycle_within x.1 x.2.1 x.2.2.1 h)

theorem p38 : Prog Try.prog (fun _ => True) k38 := p37.addLoop (.of Try.func11 (by kernel_rfl) (by kernel_rfl)) (fun x h => run_cycle_At x.1 x.2.1 x.2.2.1 h)

theorem p39 : Prog Try.prog (fun _ => True) k39 := p38.addLoop (.of Try.func13 (by kernel_rfl) (by kernel_rfl)) (fun x h => run_cycle_Cmd x.1 x.2.1 x.2.2.1 h)

set_option maxHeartbeats 0 in
theorem loop_sride : ∀ ls os xs l e s' s, bSt P_sride ls os xs = some s → g_sride ls os xs = some (true, l, e, s') → ∃ fuel d, runL k39 fuel d 44 193342 { keep := keep_sride, m := 12, mv := sp_sride.mv } kx_sride c_sride s = some (altK Prod.mk l e s') := by
  intro ls os xs l e s' s hb hg
  unfold g_sride at hg
  split at hg
  · replace hg := takeI_some hg
    obtain ⟨v1_0, xs, rfl, hg⟩ := hg
    replace hg := takeI_some hg
    obtain ⟨v1_1, xs, rfl, hg⟩ := hg
    replace hg := takeI_some hg
    obtain ⟨v1_2, xs, rfl, hg⟩ := hg
    replace hg := takeI_some hg
    obtain ⟨v1_3, xs, rfl, hg⟩ := hg
    replace hg := takeI_some hg
    obtain ⟨v1_4, xs, rfl, hg⟩ := hg
    replace hg := takeI_some hg
    obtain ⟨v1_5, xs, rfl, hg⟩ := hg
    replace hg := takeI_some hg
    obtain ⟨v1_6, xs, rfl, hg⟩ := hg
    replace hg := takeI_some hg
    obtain ⟨v1_7, xs, rfl, hg⟩ := hg
    replace hg := takeI_some hg
    obtain ⟨v1_8, xs, rfl, hg⟩ := hg
    replace hg := takeI_some hg
    obtain ⟨v1_9, xs, rfl, hg⟩ := hg
    replace hg := takeI_some hg
    obtain ⟨v2_1, xs, rfl, hg⟩ := hg
    replace hg := takeI_some hg
    obtain ⟨v2_2, xs, rfl, hg⟩ := hg
    replace hg := takeI_some hg
    obtain ⟨v3_0, xs, rfl, hg⟩ := hg
    replace hg := takeI_some hg
    obtain ⟨v4_0, xs, rfl, hg⟩ := hg
    replace hg := takeI_some hg
    obtain ⟨v5_0, xs, rfl, hg⟩ := hg
    replace hg := takeI_some hg
    obtain ⟨v6_0, xs, rfl, hg⟩ := hg
    replace hg := takeI_some hg
    obtain ⟨v6_1, xs, rfl, hg⟩ := hg
    replace hg := takeI_some hg
    obtain ⟨v6_2, xs, rfl, hg⟩ := hg
    replace hg := takeI_some hg
    obtain ⟨v6_3, xs, rfl, hg⟩ := hg
    replace hg := takeI_some hg
    obtain ⟨v6_4, xs, rfl, hg⟩ := hg
    replace hg := takeI_some hg
    obtain ⟨v6_5, xs, rfl, hg⟩ := hg
    replace hg := takeI_some hg
    obtain ⟨v6_6, xs, rfl, hg⟩ := hg
    replace hg := takeI_some hg
    obtain ⟨v6_7, xs, rfl, hg⟩ := hg
    replace hg := takeI_some hg
    obtain ⟨v6_8, xs, rfl, hg⟩ := hg
    replace hg := takeI_some hg
    obtain ⟨v6_9, xs, rfl, hg⟩ := hg
    replace hg := takeI_some hg
    obtain ⟨v7_1, xs, rfl, hg⟩ := hg
    replace hg := takeI_some hg
    obtain ⟨v7_2, xs, rfl, hg⟩ := hg
    replace hg := takeI_some hg
    obtain ⟨v11_0, xs, rfl, hg⟩ := hg
    replace hg := takeI_some hg
    obtain ⟨v11_1, xs, rfl, hg⟩ := hg
    replace hg := takeI_some hg
    obtain ⟨v11_2, xs, rfl, hg⟩ := hg
    replace hg := takeI_some hg
    obtain ⟨v5, xs, rfl, hg⟩ := hg
    replace hg := takeI_some hg
    obtain ⟨v6, xs, rfl, hg⟩ := hg
    replace hg := takeI_some hg
    obtain ⟨v8, xs, rfl, hg⟩ := hg
    replace hg := takeI_some hg
    obtain ⟨v9, xs, rfl, hg⟩ := hg
    replace hg := takeI_some hg
    obtain ⟨v10, xs, rfl, hg⟩ := hg
    replace hg := takeI_some hg
    obtain ⟨v18, xs, rfl, hg⟩ := hg
    replace hg := takeI_some hg
    obtain ⟨v19, xs, rfl, hg⟩ := hg
    replace hg := takeE_some hg
    obtain ⟨rfl, hg⟩ := hg
    simp only [Option.some.injEq, Prod.mk.injEq] at hg
    obtain ⟨h1, rfl, rfl, rfl⟩ := hg
    rw [pat_sride] at hb
    simp only [Option.some.injEq] at hb
    subst hb
    exact main_sride _ _ _ _ _ _ _ _ _ _ _ _ _ _ _ _ _ _ _ _ _ _ _ _ _ _ _ _ _ _ _ _ _ _ _ _ _ _ _ h1
  · cases hg
set_option maxHeartbeats 0 in
theorem p40 : Prog Try.prog (fun _ => True) k40 := Prog.addL (cfg := k39) (f := 44) (p := 193342) (cx := 2) (keep := keep_sride) (kx := kx_sride) (m := 12) (mv := sp_sride.mv) (Q := P_sride) (g := g_sride) p39 Try.func44 (by kernel_rfl) code_sride (by kernel_rfl) rfl (by decide) loop_sride

set_option maxHeartbeats 0 in
theorem loop_sstop : ∀ ls os xs l e s' s, bSt P_sstop ls os xs = some s → g_sstop ls os xs = some (true, l, e, s') → ∃ fuel d, runL k40 fuel d 44 94 { keep := keep_sstop, m := 11, mv := sp_sstop.mv } kx_sstop c_sstop s = some (altK Prod.mk l e s') := by
  intro ls os xs l e s' s hb hg
  unfold g_sstop at hg
  split at hg
  · replace hg := takeI_some hg
    obtain ⟨v1_0, xs, rfl, hg⟩ := hg
    replace hg := takeI_some hg
    obtain ⟨v1_1, xs, rfl, hg⟩ := hg
    replace hg := takeI_some hg
    obtain ⟨v1_2, xs, rfl, hg⟩ := hg
    replace hg := takeI_some hg
    obtain ⟨v1_3, xs, rfl, hg⟩ := hg
    replace hg := takeI_some hg
    obtain ⟨v1_4, xs, rfl, hg⟩ := hg
    replace hg := takeI_some hg
    obtain ⟨v1_5, xs, rfl, hg⟩ := hg
    replace hg := takeI_some hg
    obtain ⟨v1_6, xs, rfl, hg⟩ := hg
    replace hg := takeI_some hg
    obtain ⟨v1_7, xs, rfl, hg⟩ := hg
    replace hg := takeI_some hg
    obtain ⟨v1_8, xs, rfl, hg⟩ := hg
    replace hg := takeI_some hg
    obtain ⟨v1_9, xs, rfl, hg⟩ := hg
    replace hg := takeI_some hg
    obtain ⟨v2_1, xs, rfl, hg⟩ := hg
    replace hg := takeI_some hg
    obtain ⟨v2_2, xs, rfl, hg⟩ := hg
    replace hg := takeI_some hg
    obtain ⟨v3_0, xs, rfl, hg⟩ := hg
    replace hg := takeI_some hg
    obtain ⟨v4_0, xs, rfl, hg⟩ := hg
    replace hg := takeI_some hg
    obtain ⟨v5_0, xs, rfl, hg⟩ := hg
    replace hg := takeI_some hg
    obtain ⟨v6_0, xs, rfl, hg⟩ := hg
    replace hg := takeI_some hg
    obtain ⟨v6_1, xs, rfl, hg⟩ := hg
    replace hg := takeI_some hg
    obtain ⟨v6_2, xs, rfl, hg⟩ := hg
    replace hg := takeI_some hg
    obtain ⟨v6_3, xs, rfl, hg⟩ := hg
    replace hg := takeI_some hg
    obtain ⟨v6_4, xs, rfl, hg⟩ := hg
    replace hg := takeI_some hg
    obtain ⟨v6_5, xs, rfl, hg⟩ := hg
    replace hg := takeI_some hg
    obtain ⟨v6_6, xs, rfl, hg⟩ := hg
    replace hg := takeI_some hg
    obtain ⟨v6_7, xs, rfl, hg⟩ := hg
    replace hg := takeI_some hg
    obtain ⟨v6_8, xs, rfl, hg⟩ := hg
    replace hg := takeI_some hg
    obtain ⟨v6_9, xs, rfl, hg⟩ := hg
    replace hg := takeI_some hg
    obtain ⟨v7_1, xs, rfl, hg⟩ := hg
    replace hg := takeI_some hg
    obtain ⟨v7_2, xs, rfl, hg⟩ := hg
    replace hg := takeI_some hg
    obtain ⟨v5, xs, rfl, hg⟩ := hg
    replace hg := takeI_some hg
    obtain ⟨v6, xs, rfl, hg⟩ := hg
    replace hg := takeI_some hg
    obtain ⟨v18, xs, rfl, hg⟩ := hg
    replace hg := takeI_some hg
    obtain ⟨v19, xs, rfl, hg⟩ := hg
    replace hg := takeE_some hg
    obtain ⟨rfl, hg⟩ := hg
    simp only [Option.some.injEq, Prod.mk.injEq] at hg
    obtain ⟨h1, rfl, rfl, rfl⟩ := hg
    rw [pat_sstop] at hb
    simp only [Option.some.injEq] at hb
    subst hb
    exact main_sstop _ _ _ _ _ _ _ _ _ _ _ _ _ _ _ _ _ _ _ _ _ _ _ _ _ _ _ _ _ _ _ _ _ h1
  · cases hg
set_option maxHeartbeats 0 in
theorem p41 : Prog Try.prog (fun _ => True) k41 := Prog.addL (cfg := k40) (f := 44) (p := 94) (cx := 2) (keep := keep_sstop) (kx := kx_sstop) (m := 11) (mv := sp_sstop.mv) (Q := P_sstop) (g := g_sstop) p40 Try.func44 (by kernel_rfl) code_sstop (by kernel_rfl) rfl (by decide) loop_sstop

theorem p42 : Prog Try.prog (fun _ => True) k42 := p41.addLoop (.of Try.func19 (by kernel_rfl) (by kernel_rfl)) (fun x h => run_cycle_Shift x.1 x.2.1 h)

theorem p43 : Prog Try.prog (fun _ => True) k43 := p42.addH (.of Try.func12 (by kernel_rfl) (by kernel_rfl)) (fun x h => run_newellaw22_own x.1 h)

theorem p44 : Prog Try.prog (fun _ => True) k44 := p43.addLoop (.of Try.func9 (by kernel_rfl) (by kernel_rfl)) (fun x h => run_newelref22_Few x.1)

theorem run_newellaw22_awake : ∃ F d, run k44 F d 10 Try.f10 s_newellaw22_awake (()) = some (r_newellaw22_awake.enc (true)) := ⟨200, 6, by kernel_rfl⟩
theorem p45 : Prog Try.prog (fun _ => True) k45 := p44.addLoop (.of Try.func10 (by kernel_rfl) (by kernel_rfl)) (fun x h => run_newellaw22_awake )

set_option maxHeartbeats 0 in
theorem loop_tick : ∀ ls os xs l e s' s, bSt P_tick ls os xs = some s → g_tick ls os xs = some (true, l, e, s') → ∃ fuel d, runL k45 fuel d 5 2042 { keep := keep_tick, m := 5, mv := sp_tick.mv } kx_tick c_tick s = some (altK Prod.mk l e s') := by
  intro ls os xs l e s' s hb hg
  unfold g_tick at hg
  split at hg
  · replace hg := takeI_some hg
    obtain ⟨v1_0, xs, rfl, hg⟩ := hg
    replace hg := takeI_some hg
    obtain ⟨v1_1, xs, rfl, hg⟩ := hg
    replace hg := takeI_some hg
    obtain ⟨v1_2, xs, rfl, hg⟩ := hg
    replace hg := takeI_some hg
    obtain ⟨v1_3, xs, rfl, hg⟩ := hg
    replace hg := takeI_some hg
    obtain ⟨v1_4, xs, rfl, hg⟩ := hg
    replace hg := takeI_some hg
    obtain ⟨v1_5, xs, rfl, hg⟩ := hg
    replace hg := takeI_some hg
    obtain ⟨v1_6, xs, rfl, hg⟩ := hg
    replace hg := takeI_some hg
    obtain ⟨v1_7, xs, rfl, hg⟩ := hg
    replace hg := takeI_some hg
    obtain ⟨v1_8, xs, rfl, hg⟩ := hg
    replace hg := takeI_some hg
    obtain ⟨v1_9, xs, rfl, hg⟩ := hg
    replace hg := takeI_some hg
    obtain ⟨v2_1, xs, rfl, hg⟩ := hg
    replace hg := takeI_some hg
    obtain ⟨v2_2, xs, rfl, hg⟩ := hg
    replace hg := takeI_some hg
    obtain ⟨v5, xs, rfl, hg⟩ := hg
    replace hg := takeI_some hg
    obtain ⟨v8, xs, rfl, hg⟩ := hg
    replace hg := takeI_some hg
    obtain ⟨v9, xs, rfl, hg⟩ := hg
    replace hg := takeI_some hg
    obtain ⟨v10, xs, rfl, hg⟩ := hg
    replace hg := takeE_some hg
    obtain ⟨rfl, hg⟩ := hg
    simp only [Option.some.injEq, Prod.mk.injEq] at hg
    obtain ⟨h1, rfl, rfl, rfl⟩ := hg
    rw [pat_tick] at hb
    simp only [Option.some.injEq] at hb
    subst hb
    exact main_tick _ _ _ _ _ _ _ _ _ _ _ _ _ _ _ _ _ _ _ h1
  · cases hg
set_option maxHeartbeats 0 in
theorem p46 : Prog Try.prog (fun _ => True) k46 := Prog.addL (cfg := k45) (f := 5) (p := 2042) (keep := keep_tick) (kx := kx_tick) (m := 5) (mv := sp_tick.mv) (Q := P_tick) (g := g_tick) p45 Try.func5 (by kernel_rfl) code_tick (by kernel_rfl) rfl (by decide) loop_tick

set_option maxHeartbeats 0 in
theorem loop_want : ∀ ls os xs l e s' s, bSt P_want ls os xs = some s → g_want ls os xs = some (true, l, e, s') → ∃ fuel d, runL k46 fuel d 5 4192842 { keep := keep_want, m := 5, mv := sp_want.mv } kx_want c_want s = some (altK Prod.mk l e s') := by
  intro ls os xs l e s' s hb hg
  unfold g_want at hg
  split at hg
  · replace hg := takeI_some hg
    obtain ⟨v1_0, xs, rfl, hg⟩ := hg
    replace hg := takeI_some hg
    obtain ⟨v1_1, xs, rfl, hg⟩ := hg
    replace hg := takeI_some hg
    obtain ⟨v1_2, xs, rfl, hg⟩ := hg
    replace hg := takeI_some hg
    obtain ⟨v1_3, xs, rfl, hg⟩ := hg
    replace hg := takeI_some hg
    obtain ⟨v1_4, xs, rfl, hg⟩ := hg
    replace hg := takeI_some hg
    obtain ⟨v1_5, xs, rfl, hg⟩ := hg
    replace hg := takeI_some hg
    obtain ⟨v1_6, xs, rfl, hg⟩ := hg
    replace hg := takeI_some hg
    obtain ⟨v1_7, xs, rfl, hg⟩ := hg
    replace hg := takeI_some hg
    obtain ⟨v1_8, xs, rfl, hg⟩ := hg
    replace hg := takeI_some hg
    obtain ⟨v1_9, xs, rfl, hg⟩ := hg
    replace hg := takeI_some hg
    obtain ⟨v2_1, xs, rfl, hg⟩ := hg
    replace hg := takeI_some hg
    obtain ⟨v2_2, xs, rfl, hg⟩ := hg
    replace hg := takeI_some hg
    obtain ⟨v8, xs, rfl, hg⟩ := hg
    replace hg := takeI_some hg
    obtain ⟨v9, xs, rfl, hg⟩ := hg
    replace hg := takeI_some hg
    obtain ⟨v13, xs, rfl, hg⟩ := hg
    replace hg := takeI_some hg
    obtain ⟨v14, xs, rfl, hg⟩ := hg
    replace hg := takeI_some hg
    obtain ⟨v15, xs, rfl, hg⟩ := hg
    replace hg := takeI_some hg
    obtain ⟨v16, xs, rfl, hg⟩ := hg
    replace hg := takeE_some hg
    obtain ⟨rfl, hg⟩ := hg
    simp only [Option.some.injEq, Prod.mk.injEq] at hg
    obtain ⟨h1, rfl, rfl, rfl⟩ := hg
    rw [pat_want] at hb
    simp only [Option.some.injEq] at hb
    subst hb
    exact main_want _ _ _ _ _ _ _ _ _ _ _ _ _ _ _ _ _ _ _ _ _ h1
  · cases hg
set_option maxHeartbeats 0 in
theorem p47 : Prog Try.prog (fun _ => True) k47 := Prog.addL (cfg := k46) (f := 5) (p := 4192842) (keep := keep_want) (kx := kx_want) (m := 5) (mv := sp_want.mv) (Q := P_want) (g := g_want) p46 Try.func5 (by kernel_rfl) code_want (by kernel_rfl) rfl (by decide) loop_want

set_option maxHeartbeats 0 in
theorem loop_floors : ∀ ls os xs l e s' s, bSt P_floors ls os xs = some s → g_floors ls os xs = some (true, l, e, s') → ∃ fuel d, runL k47 fuel d 5 16378 { keep := keep_floors, m := 5, mv := sp_floors.mv } kx_floors c_floors s = some (altK Prod.mk l e s') := by
  intro ls os xs l e s' s hb hg
  unfold g_floors at hg
  split at hg
  · replace hg := takeI_some hg
    obtain ⟨v1_0, xs, rfl, hg⟩ := hg
    replace hg := takeI_some hg
    obtain ⟨v1_1, xs, rfl, hg⟩ := hg
    replace hg := takeI_some hg
    obtain ⟨v1_2, xs, rfl, hg⟩ := hg
    replace hg := takeI_some hg
    obtain ⟨v1_3, xs, rfl, hg⟩ := hg
    replace hg := takeI_some hg
    obtain ⟨v1_4, xs, rfl, hg⟩ := hg
    replace hg := takeI_some hg
    obtain ⟨v1_5, xs, rfl, hg⟩ := hg
    replace hg := takeI_some hg
    obtain ⟨v1_6, xs, rfl, hg⟩ := hg
    replace hg := takeI_some hg
    obtain ⟨v1_7, xs, rfl, hg⟩ := hg
    replace hg := takeI_some hg
    obtain ⟨v1_8, xs, rfl, hg⟩ := hg
    replace hg := takeI_some hg
    obtain ⟨v1_9, xs, rfl, hg⟩ := hg
    replace hg := takeI_some hg
    obtain ⟨v2_1, xs, rfl, hg⟩ := hg
    replace hg := takeI_some hg
    obtain ⟨v2_2, xs, rfl, hg⟩ := hg
    replace hg := takeI_some hg
    obtain ⟨v8, xs, rfl, hg⟩ := hg
    replace hg := takeI_some hg
    obtain ⟨v9, xs, rfl, hg⟩ := hg
    replace hg := takeI_some hg
    obtain ⟨v13, xs, rfl, hg⟩ := hg
    replace hg := takeI_some hg
    obtain ⟨v14, xs, rfl, hg⟩ := hg
    replace hg := takeE_some hg
    obtain ⟨rfl, hg⟩ := hg
    simp only [Option.some.injEq, Prod.mk.injEq] at hg
    obtain ⟨h1, rfl, rfl, rfl⟩ := hg
    rw [pat_floors] at hb
    simp only [Option.some.injEq] at hb
    subst hb
    exact main_floors _ _ _ _ _ _ _ _ _ _ _ _ _ _ _ _ _ _ _ h1
  · cases hg
set_option maxHeartbeats 0 in
theorem p48 : Prog Try.prog (fun _ => True) k48 := Prog.addL (cfg := k47) (f := 5) (p := 16378) (keep := keep_floors) (kx := kx_floors) (m := 5) (mv := sp_floors.mv) (Q := P_floors) (g := g_floors) p47 Try.func5 (by kernel_rfl) code_floors (by kernel_rfl) rfl (by decide) loop_floors

theorem law_newellaw22_CycleRound : ∀ x, s_newellaw22_CycleRound.wf x → ∃ fuel d, run k48 fuel d 5 Try.f5 s_newellaw22_CycleRound x = some (.bool true) := fun x hx => run_newellaw22_CycleRound x.1 x.2.1
theorem p49 : Prog Try.prog (fun _ => True) k49 := p48

end Go.Proofs.Ytlnfojhmgncfiaa.Px.PxU
