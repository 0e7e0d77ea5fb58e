/- A seat's functions are what their contracts say. -/
import Derived.Test.YtlnfojhmgncfiaaPxUSteps
import Derived.Test.YtlnfojhmgncfiaaPxUAuto
import Derived.Test.YtlnfojhmgncfiaaPxUProofs
import Derived.Test.YtlnfojhmgncfiaaPxUProofs2
import Derived.Test.YtlnfojhmgncfiaaPxUProofs3
import Derived.Test.YtlnfojhmgncfiaaPxUProofs4
import Derived.Test.YtlnfojhmgncfiaaPxUProofs5
set_option linter.unusedVariables false
set_option linter.unusedSimpArgs false
namespace Go.Proofs.Ytlnfojhmgncfiaa.Px.PxU
open Go Go.Proofs

theorem p1 : Prog Try.prog (fun _ => True) k1 := p0.addLoop (.of Try.func59 (by kernel_rfl) (by kernel_rfl)) (fun x h => run_door_within x.1 x.2.1 x.2.2.1)

theorem p2 : Prog Try.prog (fun _ => True) k2 := p1.addLoop (.of Try.func36 (by kernel_rfl) (by kernel_rfl)) (fun x h => run_car_within x.1 x.2.1 x.2.2.1)

theorem p3 : Prog Try.prog (fun _ => True) k3 := p2.addLoop (.of Try.func56 (by kernel_rfl) (by kernel_rfl)) (fun x h => run_door_times x.1)

theorem p4 : Prog Try.prog (fun _ => True) k4 := p3.addLoop (.of Try.func54 (by kernel_rfl) (by kernel_rfl)) (fun x h => run_door_gear x.1)

theorem p5 : Prog Try.prog (fun _ => True) k5 := p4.addLoop (.of Try.func51 (by kernel_rfl) (by kernel_rfl)) (fun x h => run_newelref17_tick x.1)

theorem p6 : Prog Try.prog (fun _ => True) k6 := p5.addLoop (.of Try.func39 (by kernel_rfl) (by kernel_rfl)) (fun x h => run_newelref17_Times x.1)

theorem p7 : Prog Try.prog (fun _ => True) k7 := p6.addLoop (.of Try.func26 (by kernel_rfl) (by kernel_rfl)) (fun x h => run_newelref17_Gear x.1)

theorem p8 : Prog Try.prog (fun _ => True) k8 := p7.addLoop (.of Try.func53 (by kernel_rfl) (by kernel_rfl)) (fun x h => run_newelref17_Step x.1 x.2.1 x.2.2.1 h)

theorem p9 : Prog Try.prog (fun _ => True) k9 := p8.addLoop (.of Try.func62 (by kernel_rfl) (by kernel_rfl)) (fun x h => run_door_on x.1 x.2.1 x.2.2.1)

theorem p10 : Prog Try.prog (fun _ => True) k10 := p9.addLoop (.of Try.func60 (by kernel_rfl) (by kernel_rfl)) (fun x h => run_door_phases_1 x.1 x.2.1 x.2.2.1)

theorem p11 : Prog Try.prog (fun _ => True) k11 := p10.addLoop (.of Try.func61 (by kernel_rfl) (by kernel_rfl)) (fun x h => run_door_phases_2 x.1 x.2.1 x.2.2.1)

theorem p12 : Prog Try.prog (fun _ => True) k12 := p11.addLoop (.of Try.func63 (by kernel_rfl) (by kernel_rfl)) (fun x h => run_door_open x.1 x.2.1 x.2.2.1)

theorem p13 : Prog Try.prog (fun _ => True) k13 := p12.addLoop (.of Try.func64 (by kernel_rfl) (by kernel_rfl)) (fun x h => run_door_closing x.1 x.2.1 x.2.2.1)

theorem run_door_phases : ∃ F d, run k13 F d 57 Try.f57 s_door_phases (()) = some (r_door_phases.enc (())) := ⟨200, 6, by kernel_rfl⟩
theorem p14 : Prog Try.prog (fun _ => True) k14 := p13.addLoop (.of Try.func57 (by kernel_rfl) (by kernel_rfl)) (fun x h => run_door_phases )

theorem p15 : Prog Try.prog (fun _ => True) k15 := p14.addLoop (.of Try.func55 (by kernel_rfl) (by kernel_rfl)) (fun x h => run_door_Check x.1)

theorem p16 : Prog Try.prog (fun _ => True) k16 := p15.addLoop (.of Try.func49 (by kernel_rfl) (by kernel_rfl)) (fun x h => run_door_Ask x.1 x.2.1)

theorem p17 : Prog Try.prog (fun _ => True) k17 := p16.addLoop (.of Try.func50 (by kernel_rfl) (by kernel_rfl)) (fun x h => run_door_Step x.1 x.2.1 x.2.2.1)

theorem p18 : Prog Try.prog (fun _ => True) k18 := p17.addLoop (.of Try.func46 (by kernel_rfl) (by kernel_rfl)) (fun x h => run_door_Rest x.1 x.2.1)

theorem p19 : Prog Try.prog (fun _ => True) k19 := p18.addLoop (.of Try.func47 (by kernel_rfl) (by kernel_rfl)) (fun x h => run_car_Check x.1 x.2.1)

theorem p20 : Prog Try.prog (fun _ => True) k20 := p19.addLoop (.of Try.func35 (by kernel_rfl) (by kernel_rfl)) (fun x h => run_car_check x.1 x.2.1)

theorem p21 : Prog Try.prog (fun _ => True) k21 := p20.addLoop (.of Try.func23 (by kernel_rfl) (by kernel_rfl)) (fun x h => run_car_Step x.1 x.2.1 x.2.2.1)

theorem p22 : Prog Try.prog (fun _ => True) k22 := p21.addLoop (.of Try.func42 (by kernel_rfl) (by kernel_rfl)) (fun x h => run_car_Rest x.1 x.2.1)

theorem p23 : Prog Try.prog (fun _ => True) k23 := p22.addLoop (.of Try.func40 (by kernel_rfl) (by kernel_rfl)) (fun x h => run_newelref18_Step x.1 x.2.1 x.2.2.1 h)

theorem run_newellaw17_Plain : ∃ F d, run k23 F d 24 Try.f24 s_newellaw17_Plain (()) = some (r_newellaw17_Plain.enc (plainGear)) := ⟨200, 6, by kernel_rfl⟩
theorem p24 : Prog Try.prog (fun _ => True) k24 := p23.addLoop (.of Try.func24 (by kernel_rfl) (by kernel_rfl)) (fun x h => run_newellaw17_Plain )

theorem p25 : Prog Try.prog (fun _ => True) k25 := p24.addLoop (.of Try.func45 (by kernel_rfl) (by kernel_rfl)) (fun x h => run_cycle_sign x.1)

theorem p26 : Prog Try.prog (fun _ => True) k26 := p25.addLoop (.of Try.func43 (by kernel_rfl) (by kernel_rfl)) (fun x h => run_cycle_stop x.1 h)

set_option maxHeartbeats 0 in
theorem loop_row : ∀ ls os xs l e s' s, bSt P_row ls os xs = some s → g_row ls os xs = some (true, l, e, s') → ∃ fuel d, runL k26 fuel d 32 58 { keep := keep_row, m := 4, mv := sp_row.mv } kx_row c_row s = some (altK Prod.mk l e s') := by
  intro ls os xs l e s' s hb hg
  unfold g_row at hg
  split at hg
  · replace hg := takeI_some hg
    obtain ⟨v1_1, xs, rfl, hg⟩ := hg
    replace hg := takeI_some hg
    obtain ⟨v1_2, xs, rfl, hg⟩ := hg
    replace hg := takeI_some hg
    obtain ⟨v4, xs, rfl, hg⟩ := hg
    replace hg := takeE_some hg
    obtain ⟨rfl, hg⟩ := hg
    simp only [Option.some.injEq, Prod.mk.injEq] at hg
    obtain ⟨h1, rfl, rfl, rfl⟩ := hg
    rw [pat_row] at hb
    simp only [Option.some.injEq] at hb
    subst hb
    exact main_row _ _ _ _ _ h1
  · cases hg
set_option maxHeartbeats 0 in
theorem p27 : Prog Try.prog (fun _ => True) k27 := Prog.addL (cfg := k26) (f := 32) (p := 58) (keep := keep_row) (kx := kx_row) (m := 4) (mv := sp_row.mv) (Q := P_row) (g := g_row) p26 Try.func32 (by kernel_rfl) code_row (by kernel_rfl) rfl (by decide) loop_row

theorem p28 : Prog Try.prog (fun _ => True) k28 := p27.addH (.of Try.func32 (by kernel_rfl) (by kernel_rfl)) (fun x h => run_cycle_row x.1 h)

theorem p29 : Prog Try.prog (fun _ => True) k29 := p28.addLoop (.of Try.func33 (by kernel_rfl) (by kernel_rfl)) (fun x h => run_cycle_place x.1 x.2.1 h)

set_option maxHeartbeats 0 in
theorem loop_check : ∀ ls os xs l e s' s, bSt P_check ls os xs = some s → g_check ls os xs = some (true, l, e, s') → ∃ fuel d, runL k29 fuel d 30 58 { keep := keep_check, m := 3, mv := sp_check.mv } kx_check c_check s = some (altK Prod.mk l e s') := by
  intro ls os xs l e s' s hb hg
  unfold g_check at hg
  split at hg
  · replace hg := takeI_some hg
    obtain ⟨v1_0, xs, rfl, hg⟩ := hg
    replace hg := takeI_some hg
    obtain ⟨v1_1, xs, rfl, hg⟩ := hg
    replace hg := takeI_some hg
    obtain ⟨v1_2, xs, rfl, hg⟩ := hg
    replace hg := takeI_some hg
    obtain ⟨v1_3, xs, rfl, hg⟩ := hg
    replace hg := takeI_some hg
    obtain ⟨v1_4, xs, rfl, hg⟩ := hg
    replace hg := takeI_some hg
    obtain ⟨v1_5, xs, rfl, hg⟩ := hg
    replace hg := takeI_some hg
    obtain ⟨v1_6, xs, rfl, hg⟩ := hg
    replace hg := takeI_some hg
    obtain ⟨v1_7, xs, rfl, hg⟩ := hg
    replace hg := takeI_some hg
    obtain ⟨v1_8, xs, rfl, hg⟩ := hg
    replace hg := takeI_some hg
    obtain ⟨v1_9, xs, rfl, hg⟩ := hg
    replace hg := takeI_some hg
    obtain ⟨v2_1, xs, rfl, hg⟩ := hg
    replace hg := takeI_some hg
    obtain ⟨v2_2, xs, rfl, hg⟩ := hg
    replace hg := takeI_some hg
    obtain ⟨v4, xs, rfl, hg⟩ := hg
    replace hg := takeB_some hg
    obtain ⟨v5, xs, rfl, hg⟩ := hg
    replace hg := takeI_some hg
    obtain ⟨v38, xs, rfl, hg⟩ := hg
    replace hg := takeI_some hg
    obtain ⟨v39, xs, rfl, hg⟩ := hg
    replace hg := takeE_some hg
    obtain ⟨rfl, hg⟩ := hg
    simp only [Option.some.injEq, Prod.mk.injEq] at hg
    obtain ⟨h1, rfl, rfl, rfl⟩ := hg
    rw [pat_check] at hb
    simp only [Option.some.injEq] at hb
    subst hb
    exact main_check _ _ _ _ _ _ _ _ _ _ _ _ _ _ _ _ _ h1
  · cases hg
set_option maxHeartbeats 0 in
theorem p30 : Prog Try.prog (fun _ => True) k30 := Prog.addL (cfg := k29) (f := 30) (p := 58) (keep := keep_check) (kx := kx_check) (m := 3) (mv := sp_check.mv) (Q := P_check) (g := g_check) p29 Try.func30 (by kernel_rfl) code_check (by kernel_rfl) rfl (by decide) loop_check

theorem p31 : Prog Try.prog (fun _ => True) k31 := p30.addLoop (.of Try.func30 (by kernel_rfl) (by kernel_rfl)) (fun x h => run_cycle_check x.1 x.2.1 h)

theorem p32 : Prog Try.prog (fun _ => True) k32 := p31.addLoop (.of Try.func31 (by kernel_rfl) (by kernel_rfl)) (fun x h => run_cycle_length x.1 x.2.1 h)

theorem p33 : Prog Try.prog (fun _ => True) k33 := p32.addLoop (.of Try.func17 (by kernel_rfl) (by kernel_rfl)) (fun x h => run_cycle_Length x.1 x.2.1 h)

theorem p34 : Prog Try.prog (fun _ => True) k34 := p33.addLoop (.of Try.func18 (by kernel_rfl) (by kernel_rfl)) (fun x h => run_cycle_First x.1 x.2.1 h)

set_option maxHeartbeats 0 in
theorem loop_wride : ∀ ls os xs l e s' s, bSt P_wride ls os xs = some s → g_wride ls os xs = some (true, l, e, s') → ∃ fuel d, runL k34 fuel d 44 193342 { keep := keep_wride, m := 13, mv := sp_wride.mv } kx_wride c_wride s = some (altK Prod.mk l e s') := by
  intro ls os xs l e s' s hb hg
  unfold g_wride at hg
  split at hg
  · replace hg := takeI_some hg
    obtain ⟨v1_0, xs, rfl, hg⟩ := hg
    replace hg := takeI_some hg
    obtain ⟨v1_1, xs, rfl, hg⟩ := hg
    replace hg := takeI_some hg
    obtain ⟨v1_2, xs, rfl, hg⟩ := hg
    replace hg := takeI_some hg
    obtain ⟨v1_3, xs, rfl, hg⟩ := hg
    replace hg := takeI_some hg
    obtain ⟨v1_4, xs, rfl, hg⟩ := hg
    replace hg := takeI_some hg
    obtain ⟨v1_5, xs, rfl, hg⟩ := hg
    replace hg := takeI_some hg
    obtain ⟨v1_6, xs, rfl, hg⟩ := hg
    replace hg := takeI_some hg
    obtain ⟨v1_7, xs, rfl, hg⟩ := hg
    replace hg := takeI_some hg
    obtain ⟨v1_8, xs, rfl, hg⟩ := hg
    replace hg := takeI_some hg
    obtain ⟨v1_9, xs, rfl, hg⟩ := hg
    replace hg := takeI_some hg
    obtain ⟨v2_1, xs, rfl, hg⟩ := hg
    replace hg := takeI_some hg
    obtain ⟨v2_2, xs, rfl, hg⟩ := hg
    replace hg := takeI_some hg
    obtain ⟨v3_0, xs, rfl, hg⟩ := hg
    replace hg := takeI_some hg
    obtain ⟨v4_0, xs, rfl, hg⟩ := hg
    replace hg := takeI_some hg
    obtain ⟨v4_1, xs, rfl, hg⟩ := hg
    replace hg := takeI_some hg
    obtain ⟨v4_2, xs, rfl, hg⟩ := hg
    replace hg := takeI_some hg
    obtain ⟨v5_0, xs, rfl, hg⟩ := hg
    replace hg := takeI_some hg
    obtain ⟨v6_0, xs, rfl, hg⟩ := hg
    replace hg := takeI_some hg
    obtain ⟨v7_0, xs, rfl, hg⟩ := hg
    replace hg := takeI_some hg
    obtain ⟨v7_1, xs, rfl, hg⟩ := hg
    replace hg := takeI_some hg
    obtain ⟨v7_2, xs, rfl, hg⟩ := hg
    replace hg := takeI_some hg
    obtain ⟨v7_3, xs, rfl, hg⟩ := hg
    replace hg := takeI_some hg
    obtain ⟨v7_4, xs, rfl, hg⟩ := hg
    replace hg := takeI_some hg
    obtain ⟨v7_5, xs, rfl, hg⟩ := hg
    replace hg := takeI_some hg
    obtain ⟨v7_6, xs, rfl, hg⟩ := hg
    replace hg := takeI_some hg
    obtain ⟨v7_7, xs, rfl, hg⟩ := hg
    replace hg := takeI_some hg
    obtain ⟨v7_8, xs, rfl, hg⟩ := hg
    replace hg := takeI_some hg
    obtain ⟨v7_9, xs, rfl, hg⟩ := hg
    replace hg := takeI_some hg
    obtain ⟨v8_1, xs, rfl, hg⟩ := hg
    replace hg := takeI_some hg
    obtain ⟨v8_2, xs, rfl, hg⟩ := hg
    replace hg := takeI_some hg
    obtain ⟨v12_0, xs, rfl, hg⟩ := hg
    replace hg := takeI_some hg
    obtain ⟨v12_1, xs, rfl, hg⟩ := hg
    replace hg := takeI_some hg
    obtain ⟨v12_2, xs, rfl, hg⟩ := hg
    replace hg := takeI_some hg
    obtain ⟨v5, xs, rfl, hg⟩ := hg
    replace hg := takeI_some hg
    obtain ⟨v6, xs, rfl, hg⟩ := hg
    replace hg := takeI_some hg
    obtain ⟨v8, xs, rfl, hg⟩ := hg
    replace hg := takeI_some hg
    obtain ⟨v9, xs, rfl, hg⟩ := hg
    replace hg := takeI_some hg
    obtain ⟨v10, xs, rfl, hg⟩ := hg
    replace hg := takeI_some hg
    obtain ⟨v18, xs, rfl, hg⟩ := hg
    replace hg := takeI_some hg
    obtain ⟨v19, xs, rfl, hg⟩ := hg
    replace hg := takeE_some hg
    obtain ⟨rfl, hg⟩ := hg
    simp only [Option.some.injEq, Prod.mk.injEq] at hg
    obtain ⟨h1, rfl, rfl, rfl⟩ := hg
    rw [pat_wride] at hb
    simp only [Option.some.injEq] at hb
    subst hb
    exact main_wride _ _ _ _ _ _ _ _ _ _ _ _ _ _ _ _ _ _ _ _ _ _ _ _ _ _ _ _ _ _ _ _ _ _ _ _ _ _ _ _ _ _ h1
  · cases hg
set_option maxHeartbeats 0 in
theorem p35 : Prog Try.prog (fun _ => True) k35 := Prog.addL (cfg := k34) (f := 44) (p := 193342) (cx := 1) (keep := keep_wride) (kx := kx_wride) (m := 13) (mv := sp_wride.mv) (Q := P_wride) (g := g_wride) p34 Try.func44 (by kernel_rfl) code_wride (by kernel_rfl) rfl (by decide) loop_wride

set_option maxHeartbeats 0 in
theorem loop_wstop : ∀ ls os xs l e s' s, bSt P_wstop ls os xs = some s → g_wstop ls os xs = some (true, l, e, s') → ∃ fuel d, runL k35 fuel d 44 94 { keep := keep_wstop, m := 12, mv := sp_wstop.mv } kx_wstop c_wstop s = some (altK Prod.mk l e s') := by
  intro ls os xs l e s' s hb hg
  unfold g_wstop at hg
  split at hg
  · replace hg := takeI_some hg
    obtain ⟨v1_0, xs, rfl, hg⟩ := hg
    replace hg := takeI_some hg
    obtain ⟨v1_1, xs, rfl, hg⟩ := hg
    replace hg := takeI_some hg
    obtain ⟨v1_2, xs, rfl, hg⟩ := hg
    replace hg := takeI_some hg
    obtain ⟨v1_3, xs, rfl, hg⟩ := hg
    replace hg := takeI_some hg
    obtain ⟨v1_4, xs, rfl, hg⟩ := hg
    replace hg := takeI_some hg
    obtain ⟨v1_5, xs, rfl, hg⟩ := hg
    replace hg := takeI_some hg
    obtain ⟨v1_6, xs, rfl, hg⟩ := hg
    replace hg := takeI_some hg
    obtain ⟨v1_7, xs, rfl, hg⟩ := hg
    replace hg := takeI_some hg
    obtain ⟨v1_8, xs, rfl, hg⟩ := hg
    replace hg := takeI_some hg
    obtain ⟨v1_9, xs, rfl, hg⟩ := hg
    replace hg := takeI_some hg
    obtain ⟨v2_1, xs, rfl, hg⟩ := hg
    replace hg := takeI_some hg
    obtain ⟨v2_2, xs, rfl, hg⟩ := hg
    replace hg := takeI_some hg
    obtain ⟨v3_0, xs, rfl, hg⟩ := hg
    replace hg := takeI_some hg
    obtain ⟨v4_0, xs, rfl, hg⟩ := hg
    replace hg := takeI_some hg
    obtain ⟨v4_1, xs, rfl, hg⟩ := hg
    replace hg := takeI_some hg
    obtain ⟨v4_2, xs, rfl, hg⟩ := hg
    replace hg := takeI_some hg
    obtain ⟨v5_0, xs, rfl, hg⟩ := hg
    replace hg := takeI_some hg
    obtain ⟨v6_0, xs, rfl, hg⟩ := hg
    replace hg := takeI_some hg
    obtain ⟨v7_0, xs, rfl, hg⟩ := hg
    replace hg := takeI_some hg
    obtain ⟨v7_1, xs, rfl, hg⟩ := hg
    replace hg := takeI_some hg
    obtain ⟨v7_2, xs, rfl, hg⟩ := hg
    replace hg := takeI_some hg
    obtain ⟨v7_3, xs, rfl, hg⟩ := hg
    replace hg := takeI_some hg
    obtain ⟨v7_4, xs, rfl, hg⟩ := hg
    replace hg := takeI_some hg
    obtain ⟨v7_5, xs, rfl, hg⟩ := hg
    replace hg := takeI_some hg
    obtain ⟨v7_6, xs, rfl, hg⟩ := hg
    replace hg := takeI_some hg
    obtain ⟨v7_7, xs, rfl, hg⟩ := hg
    replace hg := takeI_some hg
    obtain ⟨v7_8, xs, rfl, hg⟩ := hg
    replace hg := takeI_some hg
    obtain ⟨v7_9, xs, rfl, hg⟩ := hg
    replace hg := takeI_some hg
    obtain ⟨v8_1, xs, rfl, hg⟩ := hg
    replace hg := takeI_some hg
    obtain ⟨v8_2, xs, rfl, hg⟩ := hg
    replace hg := takeI_some hg
    obtain ⟨v5, xs, rfl, hg⟩ := hg
    replace hg := takeI_some hg
    obtain ⟨v6, xs, rfl, hg⟩ := hg
    replace hg := takeI_some hg
    obtain ⟨v18, xs, rfl, hg⟩ := hg
    replace hg := takeI_some hg
    obtain ⟨v19, xs, rfl, hg⟩ := hg
    replace hg := takeE_some hg
    obtain ⟨rfl, hg⟩ := hg
    simp only [Option.some.injEq, Prod.mk.injEq] at hg
    obtain ⟨h1, rfl, rfl, rfl⟩ := hg
    rw [pat_wstop] at hb
    simp only [Option.some.injEq] at hb
    subst hb
    exact main_wstop _ _ _ _ _ _ _ _ _ _ _ _ _ _ _ _ _ _ _ _ _ _ _ _ _ _ _ _ _ _ _ _ _ _ _ _ h1
  · cases hg
set_option maxHeartbeats 0 in
theorem p36 : Prog Try.prog (fun _ => True) k36 := Prog.addL (cfg := k35) (f := 44) (p := 94) (cx := 1) (keep := keep_wstop) (kx := kx_wstop) (m := 12) (mv := sp_wstop.mv) (Q := P_wstop) (g := g_wstop) p35 Try.func44 (by kernel_rfl) code_wstop (by kernel_rfl) rfl (by decide) loop_wstop

theorem p37 : Prog Try.prog (fun _ => True) k37 := p36.addLoop (.of Try.func25 (by kernel_rfl) (by kernel_rfl)) (fun x h => run_cycle_within x.1 x.2.1 x.2.2.1 h)

theorem p38 : Prog Try.prog (fun _ => True) k38 := p37.addLoop (.of Try.func11 (by kernel_rfl) (by kernel_rfl)) (fun x h => run_cycle_At x.1 x.2.1 x.2.2.1 h)

theorem p39 : Prog Try.prog (fun _ => True) k39 := p38.addLoop (.of Try.func13 (by kernel_rfl) (by kernel_rfl)) (fun x h => run_cycle_Cmd x.1 x.2.1 x.2.2.1 h)

set_option maxHeartbeats 0 in
theorem loop_sride : ∀ ls os xs l e s' s, bSt P_sride ls os xs = some s → g_sride ls os xs = some (true, l, e, s') → ∃ fuel d, runL k39 fuel d 44 193342 { keep := keep_sride, m := 12, mv := sp_sride.mv } kx_sride c_sride s = some (altK Prod.mk l e s') := by
  intro ls os xs l e s' s hb hg
  unfold g_sride at hg
  split at hg
  · replace hg := takeI_some hg
    obtain ⟨v1_0, xs, rfl, hg⟩ := hg
    replace hg := takeI_some hg
    obtain ⟨v1_1, xs, rfl, hg⟩ := hg
    replace hg := takeI_some hg
    obtain ⟨v1_2, xs, rfl, hg⟩ := hg
    replace hg := takeI_some hg
    obtain ⟨v1_3, xs, rfl, hg⟩ := hg
    replace hg := takeI_some hg
    obtain ⟨v1_4, xs, rfl, hg⟩ := hg
    replace hg := takeI_some hg
    obtain ⟨v1_5, xs, rfl, hg⟩ := hg
    replace hg := takeI_some hg
    obtain ⟨v1_6, xs, rfl, hg⟩ := hg
    replace hg := takeI_some hg
    obtain ⟨v1_7, xs, rfl, hg⟩ := hg
    replace hg := takeI_some hg
    obtain ⟨v1_8, xs, rfl, hg⟩ := hg
    replace hg := takeI_some hg
    obtain ⟨v1_9, xs, rfl, hg⟩ := hg
    replace hg := takeI_some hg
    obtain ⟨v2_1, xs, rfl, hg⟩ := hg
    replace hg := takeI_some hg
    obtain ⟨v2_2, xs, rfl, hg⟩ := hg
    replace hg := takeI_some hg
    obtain ⟨v3_0, xs, rfl, hg⟩ := hg
    replace hg := takeI_some hg
    obtain ⟨v4_0, xs, rfl, hg⟩ := hg
    replace hg := takeI_some hg
    obtain ⟨v5_0, xs, rfl, hg⟩ := hg
    replace hg := takeI_some hg
    obtain ⟨v6_0, xs, rfl, hg⟩ := hg
    replace hg := takeI_some hg
    obtain ⟨v6_1, xs, rfl, hg⟩ := hg
    replace hg := takeI_some hg
    obtain ⟨v6_2, xs, rfl, hg⟩ := hg
    replace hg := takeI_some hg
    obtain ⟨v6_3, xs, rfl, hg⟩ := hg
    replace hg := takeI_some hg
    obtain ⟨v6_4, xs, rfl, hg⟩ := hg
    replace hg := takeI_some hg
    obtain ⟨v6_5, xs, rfl, hg⟩ := hg
    replace hg := takeI_some hg
    obtain ⟨v6_6, xs, rfl, hg⟩ := hg
    replace hg := takeI_some hg
    obtain ⟨v6_7, xs, rfl, hg⟩ := hg
    replace hg := takeI_some hg
    obtain ⟨v6_8, xs, rfl, hg⟩ := hg
    replace hg := takeI_some hg
    obtain ⟨v6_9, xs, rfl, hg⟩ := hg
    replace hg := takeI_some hg
    obtain ⟨v7_1, xs, rfl, hg⟩ := hg
    replace hg := takeI_some hg
    obtain ⟨v7_2, xs, rfl, hg⟩ := hg
    replace hg := takeI_some hg
    obtain ⟨v11_0, xs, rfl, hg⟩ := hg
    replace hg := takeI_some hg
    obtain ⟨v11_1, xs, rfl, hg⟩ := hg
    replace hg := takeI_some hg
    obtain ⟨v11_2, xs, rfl, hg⟩ := hg
    replace hg := takeI_some hg
    obtain ⟨v5, xs, rfl, hg⟩ := hg
    replace hg := takeI_some hg
    obtain ⟨v6, xs, rfl, hg⟩ := hg
    replace hg := takeI_some hg
    obtain ⟨v8, xs, rfl, hg⟩ := hg
    replace hg := takeI_some hg
    obtain ⟨v9, xs, rfl, hg⟩ := hg
    replace hg := takeI_some hg
    obtain ⟨v10, xs, rfl, hg⟩ := hg
    replace hg := takeI_some hg
    obtain ⟨v18, xs, rfl, hg⟩ := hg
    replace hg := takeI_some hg
    obtain ⟨v19, xs, rfl, hg⟩ := hg
    replace hg := takeE_some hg
    obtain ⟨rfl, hg⟩ := hg
    simp only [Option.some.injEq, Prod.mk.injEq] at hg
    obtain ⟨h1, rfl, rfl, rfl⟩ := hg
    rw [pat_sride] at hb
    simp only [Option.some.injEq] at hb
    subst hb
    exact main_sride _ _ _ _ _ _ _ _ _ _ _ _ _ _ _ _ _ _ _ _ _ _ _ _ _ _ _ _ _ _ _ _ _ _ _ _ _ _ _ h1
  · cases hg
set_option maxHeartbeats 0 in
theorem p40 : Prog Try.prog (fun _ => True) k40 := Prog.addL (cfg := k39) (f := 44) (p := 193342) (cx := 2) (keep := keep_sride) (kx := kx_sride) (m := 12) (mv := sp_sride.mv) (Q := P_sride) (g := g_sride) p39 Try.func44 (by kernel_rfl) code_sride (by kernel_rfl) rfl (by decide) loop_sride

set_option maxHeartbeats 0 in
theorem loop_sstop : ∀ ls os xs l e s' s, bSt P_sstop ls os xs = some s → g_sstop ls os xs = some (true, l, e, s') → ∃ fuel d, runL k40 fuel d 44 94 { keep := keep_sstop, m := 11, mv := sp_sstop.mv } kx_sstop c_sstop s = some (altK Prod.mk l e s') := by
  intro ls os xs l e s' s hb hg
  unfold g_sstop at hg
  split at hg
  · replace hg := takeI_some hg
    obtain ⟨v1_0, xs, rfl, hg⟩ := hg
    replace hg := takeI_some hg
    obtain ⟨v1_1, xs, rfl, hg⟩ := hg
    replace hg := takeI_some hg
    obtain ⟨v1_2, xs, rfl, hg⟩ := hg
    replace hg := takeI_some hg
    obtain ⟨v1_3, xs, rfl, hg⟩ := hg
    replace hg := takeI_some hg
    obtain ⟨v1_4, xs, rfl, hg⟩ := hg
    replace hg := takeI_some hg
    obtain ⟨v1_5, xs, rfl, hg⟩ := hg
    replace hg := takeI_some hg
    obtain ⟨v1_6, xs, rfl, hg⟩ := hg
    replace hg := takeI_some hg
    obtain ⟨v1_7, xs, rfl, hg⟩ := hg
    replace hg := takeI_some hg
    obtain ⟨v1_8, xs, rfl, hg⟩ := hg
    replace hg := takeI_some hg
    obtain ⟨v1_9, xs, rfl, hg⟩ := hg
    replace hg := takeI_some hg
    obtain ⟨v2_1, xs, rfl, hg⟩ := hg
    replace hg := takeI_some hg
    obtain ⟨v2_2, xs, rfl, hg⟩ := hg
    replace hg := takeI_some hg
    obtain ⟨v3_0, xs, rfl, hg⟩ := hg
    replace hg := takeI_some hg
    obtain ⟨v4_0, xs, rfl, hg⟩ := hg
    replace hg := takeI_some hg
    obtain ⟨v5_0, xs, rfl, hg⟩ := hg
    replace hg := takeI_some hg
    obtain ⟨v6_0, xs, rfl, hg⟩ := hg
    replace hg := takeI_some hg
    obtain ⟨v6_1, xs, rfl, hg⟩ := hg
    replace hg := takeI_some hg
    obtain ⟨v6_2, xs, rfl, hg⟩ := hg
    replace hg := takeI_some hg
    obtain ⟨v6_3, xs, rfl, hg⟩ := hg
    replace hg := takeI_some hg
    obtain ⟨v6_4, xs, rfl, hg⟩ := hg
    replace hg := takeI_some hg
    obtain ⟨v6_5, xs, rfl, hg⟩ := hg
    replace hg := takeI_some hg
    obtain ⟨v6_6, xs, rfl, hg⟩ := hg
    replace hg := takeI_some hg
    obtain ⟨v6_7, xs, rfl, hg⟩ := hg
    replace hg := takeI_some hg
    obtain ⟨v6_8, xs, rfl, hg⟩ := hg
    replace hg := takeI_some hg
    obtain ⟨v6_9, xs, rfl, hg⟩ := hg
    replace hg := takeI_some hg
    obtain ⟨v7_1, xs, rfl, hg⟩ := hg
    replace hg := takeI_some hg
    obtain ⟨v7_2, xs, rfl, hg⟩ := hg
    replace hg := takeI_some hg
    obtain ⟨v5, xs, rfl, hg⟩ := hg
    replace hg := takeI_some hg
    obtain ⟨v6, xs, rfl, hg⟩ := hg
    replace hg := takeI_some hg
    obtain ⟨v18, xs, rfl, hg⟩ := hg
    replace hg := takeI_some hg
    obtain ⟨v19, xs, rfl, hg⟩ := hg
    replace hg := takeE_some hg
    obtain ⟨rfl, hg⟩ := hg
    simp only [Option.some.injEq, Prod.mk.injEq] at hg
    obtain ⟨h1, rfl, rfl, rfl⟩ := hg
    rw [pat_sstop] at hb
    simp only [Option.some.injEq] at hb
    subst hb
    exact main_sstop _ _ _ _ _ _ _ _ _ _ _ _ _ _ _ _ _ _ _ _ _ _ _ _ _ _ _ _ _ _ _ _ _ h1
  · cases hg
set_option maxHeartbeats 0 in
theorem p41 : Prog Try.prog (fun _ => True) k41 := Prog.addL (cfg := k40) (f := 44) (p := 94) (cx := 2) (keep := keep_sstop) (kx := kx_sstop) (m := 11) (mv := sp_sstop.mv) (Q := P_sstop) (g := g_sstop) p40 Try.func44 (by kernel_rfl) code_sstop (by kernel_rfl) rfl (by decide) loop_sstop

theorem p42 : Prog Try.prog (fun _ => True) k42 := p41.addLoop (.of Try.func19 (by kernel_rfl) (by kernel_rfl)) (fun x h => run_cycle_Shift x.1 x.2.1 h)

theorem p43 : Prog Try.prog (fun _ => True) k43 := p42.addH (.of Try.func12 (by kernel_rfl) (by kernel_rfl)) (fun x h => run_newellaw22_own x.1 h)

theorem p44 : Prog Try.prog (fun _ => True) k44 := p43.addLoop (.of Try.func9 (by kernel_rfl) (by kernel_rfl)) (fun x h => run_newelref22_Few x.1)

theorem run_newellaw22_awake : ∃ F d, run k44 F d 10 Try.f10 s_newellaw22_awake (()) = some (r_newellaw22_awake.enc (true)) := ⟨200, 6, by kernel_rfl⟩
theorem p45 : Prog Try.prog (fun _ => True) k45 := p44.addLoop (.of Try.func10 (by kernel_rfl) (by kernel_rfl)) (fun x h => run_newellaw22_awake )

set_option maxHeartbeats 0 in
theorem loop_met : ∀ ls os xs l e s' s, bSt P_met ls os xs = some s → g_met ls os xs = some (true, l, e, s') → ∃ fuel d, runL k45 fuel d 7 2042 { keep := keep_met, m := 5, mv := sp_met.mv } kx_met c_met s = some (altK Prod.mk l e s') := by
  intro ls os xs l e s' s hb hg
  unfold g_met at hg
  split at hg
  · replace hg := takeI_some hg
    obtain ⟨v1_0, xs, rfl, hg⟩ := hg
    replace hg := takeI_some hg
    obtain ⟨v1_1, xs, rfl, hg⟩ := hg
    replace hg := takeI_some hg
    obtain ⟨v1_2, xs, rfl, hg⟩ := hg
    replace hg := takeI_some hg
    obtain ⟨v1_3, xs, rfl, hg⟩ := hg
    replace hg := takeI_some hg
    obtain ⟨v1_4, xs, rfl, hg⟩ := hg
    replace hg := takeI_some hg
    obtain ⟨v1_5, xs, rfl, hg⟩ := hg
    replace hg := takeI_some hg
    obtain ⟨v1_6, xs, rfl, hg⟩ := hg
    replace hg := takeI_some hg
    obtain ⟨v1_7, xs, rfl, hg⟩ := hg
    replace hg := takeI_some hg
    obtain ⟨v1_8, xs, rfl, hg⟩ := hg
    replace hg := takeI_some hg
    obtain ⟨v1_9, xs, rfl, hg⟩ := hg
    replace hg := takeI_some hg
    obtain ⟨v2_1, xs, rfl, hg⟩ := hg
    replace hg := takeI_some hg
    obtain ⟨v2_2, xs, rfl, hg⟩ := hg
    replace hg := takeI_some hg
    obtain ⟨v5, xs, rfl, hg⟩ := hg
    replace hg := takeI_some hg
    obtain ⟨v7, xs, rfl, hg⟩ := hg
    replace hg := takeI_some hg
    obtain ⟨v9, xs, rfl, hg⟩ := hg
    replace hg := takeB_some hg
    obtain ⟨v10, xs, rfl, hg⟩ := hg
    replace hg := takeI_some hg
    obtain ⟨v11, xs, rfl, hg⟩ := hg
    replace hg := takeE_some hg
    obtain ⟨rfl, hg⟩ := hg
    simp only [Option.some.injEq, Prod.mk.injEq] at hg
    obtain ⟨h1, rfl, rfl, rfl⟩ := hg
    rw [pat_met] at hb
    simp only [Option.some.injEq] at hb
    subst hb
    exact main_met _ _ _ _ _ _ _ _ _ _ _ _ _ _ _ _ _ _ _ _ h1
  · cases hg
set_option maxHeartbeats 0 in
theorem p46 : Prog Try.prog (fun _ => True) k46 := Prog.addL (cfg := k45) (f := 7) (p := 2042) (keep := keep_met) (kx := kx_met) (m := 5) (mv := sp_met.mv) (Q := P_met) (g := g_met) p45 Try.func7 (by kernel_rfl) code_met (by kernel_rfl) rfl (by decide) loop_met

theorem law_newellaw22_CycleFormula : ∀ x, s_newellaw22_CycleFormula.wf x → ∃ fuel d, run k46 fuel d 7 Try.f7 s_newellaw22_CycleFormula x = some (.bool true) := fun x _ => run_newellaw22_CycleFormula x.1 x.2.1
theorem p47 : Prog Try.prog (fun _ => True) k47 := p46

theorem law_newellaw22_CycleGoes : ∀ x, s_newellaw22_CycleGoes.wf x → ∃ fuel d, run k47 fuel d 8 Try.f8 s_newellaw22_CycleGoes x = some (.bool true) := fun x _ => run_newellaw22_CycleGoes x.1 x.2.1 x.2.2.1
theorem p48 : Prog Try.prog (fun _ => True) k48 := p47

theorem law_newellaw22_CycleShift : ∀ x, s_newellaw22_CycleShift.wf x → ∃ fuel d, run k48 fuel d 6 Try.f6 s_newellaw22_CycleShift x = some (.bool true) := fun x _ => run_newellaw22_CycleShift x.1 x.2.1 x.2.2.1
theorem p49 : Prog Try.prog (fun _ => True) k49 := p48

theorem p50 : Prog Try.prog (fun _ => True) k50 := p49.addLoop (.of Try.func27 (by kernel_rfl) (by kernel_rfl)) (fun x h => run_newelref22_Many x.1 h)

theorem p51 : Prog Try.prog (fun _ => True) k51 := p50.addLoop (.of Try.func20 (by kernel_rfl) (by kernel_rfl)) (fun x h => run_newelref22_Stop x.1 x.2.1 h)

theorem p52 : Prog Try.prog (fun _ => True) k52 := p51.addLoop (.of Try.func21 (by kernel_rfl) (by kernel_rfl)) (fun x h => run_newelref22_Place x.1 h)

theorem p53 : Prog Try.prog (fun _ => True) k53 := p52.addLoop (.of Try.func28 (by kernel_rfl) (by kernel_rfl)) (fun x h => run_newelref22_Begin x.1 h)

theorem p54 : Prog Try.prog (fun _ => True) k54 := p53.addLoop (.of Try.func41 (by kernel_rfl) (by kernel_rfl)) (fun x h => run_newelref22_told x.1 x.2.1 h)

theorem p55 : Prog Try.prog (fun _ => True) k55 := p54.addLoop (.of Try.func29 (by kernel_rfl) (by kernel_rfl)) (fun x h => run_newelref22_Step x.1 x.2.1 x.2.2.1 h)

set_option maxHeartbeats 0 in
theorem loop_may : ∀ ls os xs l e s' s, bSt P_may ls os xs = some s → g_may ls os xs = some (true, l, e, s') → ∃ fuel d, runL k55 fuel d 14 122 { keep := keep_may, m := 3, mv := sp_may.mv } kx_may c_may s = some (altK Prod.mk l e s') := by
  intro ls os xs l e s' s hb hg
  unfold g_may at hg
  split at hg
  · replace hg := takeI_some hg
    obtain ⟨v1_0, xs, rfl, hg⟩ := hg
    replace hg := takeI_some hg
    obtain ⟨v1_1, xs, rfl, hg⟩ := hg
    replace hg := takeI_some hg
    obtain ⟨v1_2, xs, rfl, hg⟩ := hg
    replace hg := takeI_some hg
    obtain ⟨v1_3, xs, rfl, hg⟩ := hg
    replace hg := takeI_some hg
    obtain ⟨v1_4, xs, rfl, hg⟩ := hg
    replace hg := takeI_some hg
    obtain ⟨v1_5, xs, rfl, hg⟩ := hg
    replace hg := takeI_some hg
    obtain ⟨v1_6, xs, rfl, hg⟩ := hg
    replace hg := takeI_some hg
    obtain ⟨v1_7, xs, rfl, hg⟩ := hg
    replace hg := takeI_some hg
    obtain ⟨v1_8, xs, rfl, hg⟩ := hg
    replace hg := takeI_some hg
    obtain ⟨v1_9, xs, rfl, hg⟩ := hg
    replace hg := takeI_some hg
    obtain ⟨v2_1, xs, rfl, hg⟩ := hg
    replace hg := takeI_some hg
    obtain ⟨v2_2, xs, rfl, hg⟩ := hg
    replace hg := takeI_some hg
    obtain ⟨v6, xs, rfl, hg⟩ := hg
    replace hg := takeE_some hg
    obtain ⟨rfl, hg⟩ := hg
    simp only [Option.some.injEq, Prod.mk.injEq] at hg
    obtain ⟨h1, rfl, rfl, rfl⟩ := hg
    rw [pat_may] at hb
    simp only [Option.some.injEq] at hb
    subst hb
    exact main_may _ _ _ _ _ _ _ _ _ _ _ _ _ _ h1
  · cases hg
set_option maxHeartbeats 0 in
theorem p56 : Prog Try.prog (fun _ => True) k56 := Prog.addL (cfg := k55) (f := 14) (p := 122) (keep := keep_may) (kx := kx_may) (m := 3) (mv := sp_may.mv) (Q := P_may) (g := g_may) p55 Try.func14 (by kernel_rfl) code_may (by kernel_rfl) rfl (by decide) loop_may

theorem p57 : Prog Try.prog (fun _ => True) k57 := p56.addLoop (.of Try.func14 (by kernel_rfl) (by kernel_rfl)) (fun x h => run_newelref22_May x.1 x.2.1 h)

set_option maxHeartbeats 0 in
theorem loop_rlen : ∀ ls os xs l e s' s, bSt P_rlen ls os xs = some s → g_rlen ls os xs = some (true, l, e, s') → ∃ fuel d, runL k57 fuel d 15 58 { keep := keep_rlen, m := 3, mv := sp_rlen.mv } kx_rlen c_rlen s = some (altK Prod.mk l e s') := by
  intro ls os xs l e s' s hb hg
  unfold g_rlen at hg
  split at hg
  · replace hg := takeI_some hg
    obtain ⟨v1_0, xs, rfl, hg⟩ := hg
    replace hg := takeI_some hg
    obtain ⟨v1_1, xs, rfl, hg⟩ := hg
    replace hg := takeI_some hg
    obtain ⟨v1_2, xs, rfl, hg⟩ := hg
    replace hg := takeI_some hg
    obtain ⟨v1_3, xs, rfl, hg⟩ := hg
    replace hg := takeI_some hg
    obtain ⟨v1_4, xs, rfl, hg⟩ := hg
    replace hg := takeI_some hg
    obtain ⟨v1_5, xs, rfl, hg⟩ := hg
    replace hg := takeI_some hg
    obtain ⟨v1_6, xs, rfl, hg⟩ := hg
    replace hg := takeI_some hg
    obtain ⟨v1_7, xs, rfl, hg⟩ := hg
    replace hg := takeI_some hg
    obtain ⟨v1_8, xs, rfl, hg⟩ := hg
    replace hg := takeI_some hg
    obtain ⟨v1_9, xs, rfl, hg⟩ := hg
    replace hg := takeI_some hg
    obtain ⟨v2_1, xs, rfl, hg⟩ := hg
    replace hg := takeI_some hg
    obtain ⟨v2_2, xs, rfl, hg⟩ := hg
    replace hg := takeI_some hg
    obtain ⟨v5, xs, rfl, hg⟩ := hg
    replace hg := takeI_some hg
    obtain ⟨v6, xs, rfl, hg⟩ := hg
    replace hg := takeE_some hg
    obtain ⟨rfl, hg⟩ := hg
    simp only [Option.some.injEq, Prod.mk.injEq] at hg
    obtain ⟨h1, rfl, rfl, rfl⟩ := hg
    rw [pat_rlen] at hb
    simp only [Option.some.injEq] at hb
    subst hb
    exact main_rlen _ _ _ _ _ _ _ _ _ _ _ _ _ _ _ h1
  · cases hg
set_option maxHeartbeats 0 in
theorem p58 : Prog Try.prog (fun _ => True) k58 := Prog.addL (cfg := k57) (f := 15) (p := 58) (keep := keep_rlen) (kx := kx_rlen) (m := 3) (mv := sp_rlen.mv) (Q := P_rlen) (g := g_rlen) p57 Try.func15 (by kernel_rfl) code_rlen (by kernel_rfl) rfl (by decide) loop_rlen

theorem p59 : Prog Try.prog (fun _ => True) k59 := p58.addLoop (.of Try.func15 (by kernel_rfl) (by kernel_rfl)) (fun x h => run_newelref22_Length x.1 x.2.1 h)

set_option maxHeartbeats 0 in
theorem loop_rat : ∀ ls os xs l e s' s, bSt P_rat ls os xs = some s → g_rat ls os xs = some (true, l, e, s') → ∃ fuel d, runL k59 fuel d 16 58 { keep := keep_rat, m := 5, mv := sp_rat.mv } kx_rat c_rat s = some (altK Prod.mk l e s') := by
  intro ls os xs l e s' s hb hg
  unfold g_rat at hg
  split at hg
  · replace hg := takeI_some hg
    obtain ⟨v1_0, xs, rfl, hg⟩ := hg
    replace hg := takeI_some hg
    obtain ⟨v1_1, xs, rfl, hg⟩ := hg
    replace hg := takeI_some hg
    obtain ⟨v1_2, xs, rfl, hg⟩ := hg
    replace hg := takeI_some hg
    obtain ⟨v1_3, xs, rfl, hg⟩ := hg
    replace hg := takeI_some hg
    obtain ⟨v1_4, xs, rfl, hg⟩ := hg
    replace hg := takeI_some hg
    obtain ⟨v1_5, xs, rfl, hg⟩ := hg
    replace hg := takeI_some hg
    obtain ⟨v1_6, xs, rfl, hg⟩ := hg
    replace hg := takeI_some hg
    obtain ⟨v1_7, xs, rfl, hg⟩ := hg
    replace hg := takeI_some hg
    obtain ⟨v1_8, xs, rfl, hg⟩ := hg
    replace hg := takeI_some hg
    obtain ⟨v1_9, xs, rfl, hg⟩ := hg
    replace hg := takeI_some hg
    obtain ⟨v2_1, xs, rfl, hg⟩ := hg
    replace hg := takeI_some hg
    obtain ⟨v2_2, xs, rfl, hg⟩ := hg
    replace hg := takeI_some hg
    obtain ⟨v3_0, xs, rfl, hg⟩ := hg
    replace hg := takeI_some hg
    obtain ⟨v3_1, xs, rfl, hg⟩ := hg
    replace hg := takeI_some hg
    obtain ⟨v3_2, xs, rfl, hg⟩ := hg
    replace hg := takeI_some hg
    obtain ⟨v3_3, xs, rfl, hg⟩ := hg
    replace hg := takeI_some hg
    obtain ⟨v3_4, xs, rfl, hg⟩ := hg
    replace hg := takeI_some hg
    obtain ⟨v3_5, xs, rfl, hg⟩ := hg
    replace hg := takeI_some hg
    obtain ⟨v3_6, xs, rfl, hg⟩ := hg
    replace hg := takeI_some hg
    obtain ⟨v3_7, xs, rfl, hg⟩ := hg
    replace hg := takeI_some hg
    obtain ⟨v3_8, xs, rfl, hg⟩ := hg
    replace hg := takeI_some hg
    obtain ⟨v4_0, xs, rfl, hg⟩ := hg
    replace hg := takeI_some hg
    obtain ⟨v4_1, xs, rfl, hg⟩ := hg
    replace hg := takeI_some hg
    obtain ⟨v4_2, xs, rfl, hg⟩ := hg
    replace hg := takeI_some hg
    obtain ⟨v4_3, xs, rfl, hg⟩ := hg
    replace hg := takeI_some hg
    obtain ⟨v4_4, xs, rfl, hg⟩ := hg
    replace hg := takeI_some hg
    obtain ⟨v4_5, xs, rfl, hg⟩ := hg
    replace hg := takeI_some hg
    obtain ⟨v4_6, xs, rfl, hg⟩ := hg
    replace hg := takeI_some hg
    obtain ⟨v4_7, xs, rfl, hg⟩ := hg
    replace hg := takeI_some hg
    obtain ⟨v4_8, xs, rfl, hg⟩ := hg
    replace hg := takeI_some hg
    obtain ⟨v2, xs, rfl, hg⟩ := hg
    replace hg := takeI_some hg
    obtain ⟨v8, xs, rfl, hg⟩ := hg
    replace hg := takeE_some hg
    obtain ⟨rfl, hg⟩ := hg
    simp only [Option.some.injEq, Prod.mk.injEq] at hg
    obtain ⟨h1, rfl, rfl, rfl⟩ := hg
    rw [pat_rat] at hb
    simp only [Option.some.injEq] at hb
    subst hb
    exact main_rat _ _ _ _ _ _ _ _ _ _ _ _ _ _ _ _ _ _ _ _ _ _ _ _ _ _ _ _ _ _ _ _ _ h1
  · cases hg
set_option maxHeartbeats 0 in
theorem p60 : Prog Try.prog (fun _ => True) k60 := Prog.addL (cfg := k59) (f := 16) (p := 58) (keep := keep_rat) (kx := kx_rat) (m := 5) (mv := sp_rat.mv) (Q := P_rat) (g := g_rat) p59 Try.func16 (by kernel_rfl) code_rat (by kernel_rfl) rfl (by decide) loop_rat

theorem p61 : Prog Try.prog (fun _ => True) k61 := p60.addLoop (.of Try.func16 (by kernel_rfl) (by kernel_rfl)) (fun x h => run_newelref22_At x.1 x.2.1 x.2.2.1 h)

set_option maxHeartbeats 0 in
theorem loop_rshift : ∀ ls os xs l e s' s, bSt P_rshift ls os xs = some s → g_rshift ls os xs = some (true, l, e, s') → ∃ fuel d, runL k61 fuel d 22 252 { keep := keep_rshift, m := 4, mv := sp_rshift.mv } kx_rshift c_rshift s = some (altK Prod.mk l e s') := by
  intro ls os xs l e s' s hb hg
  unfold g_rshift at hg
  split at hg
  · replace hg := takeI_some hg
    obtain ⟨v1_0, xs, rfl, hg⟩ := hg
    replace hg := takeI_some hg
    obtain ⟨v1_1, xs, rfl, hg⟩ := hg
    replace hg := takeI_some hg
    obtain ⟨v1_2, xs, rfl, hg⟩ := hg
    replace hg := takeI_some hg
    obtain ⟨v1_3, xs, rfl, hg⟩ := hg
    replace hg := takeI_some hg
    obtain ⟨v1_4, xs, rfl, hg⟩ := hg
    replace hg := takeI_some hg
    obtain ⟨v1_5, xs, rfl, hg⟩ := hg
    replace hg := takeI_some hg
    obtain ⟨v1_6, xs, rfl, hg⟩ := hg
    replace hg := takeI_some hg
    obtain ⟨v1_7, xs, rfl, hg⟩ := hg
    replace hg := takeI_some hg
    obtain ⟨v1_8, xs, rfl, hg⟩ := hg
    replace hg := takeI_some hg
    obtain ⟨v1_9, xs, rfl, hg⟩ := hg
    replace hg := takeI_some hg
    obtain ⟨v2_1, xs, rfl, hg⟩ := hg
    replace hg := takeI_some hg
    obtain ⟨v2_2, xs, rfl, hg⟩ := hg
    replace hg := takeI_some hg
    obtain ⟨v3_0, xs, rfl, hg⟩ := hg
    replace hg := takeI_some hg
    obtain ⟨v3_1, xs, rfl, hg⟩ := hg
    replace hg := takeI_some hg
    obtain ⟨v3_2, xs, rfl, hg⟩ := hg
    replace hg := takeI_some hg
    obtain ⟨v3_3, xs, rfl, hg⟩ := hg
    replace hg := takeI_some hg
    obtain ⟨v3_4, xs, rfl, hg⟩ := hg
    replace hg := takeI_some hg
    obtain ⟨v3_5, xs, rfl, hg⟩ := hg
    replace hg := takeI_some hg
    obtain ⟨v3_6, xs, rfl, hg⟩ := hg
    replace hg := takeI_some hg
    obtain ⟨v3_7, xs, rfl, hg⟩ := hg
    replace hg := takeI_some hg
    obtain ⟨v3_8, xs, rfl, hg⟩ := hg
    replace hg := takeI_some hg
    obtain ⟨v5, xs, rfl, hg⟩ := hg
    replace hg := takeI_some hg
    obtain ⟨v7, xs, rfl, hg⟩ := hg
    replace hg := takeE_some hg
    obtain ⟨rfl, hg⟩ := hg
    simp only [Option.some.injEq, Prod.mk.injEq] at hg
    obtain ⟨h1, rfl, rfl, rfl⟩ := hg
    rw [pat_rshift] at hb
    simp only [Option.some.injEq] at hb
    subst hb
    exact main_rshift _ _ _ _ _ _ _ _ _ _ _ _ _ _ _ _ _ _ _ _ _ _ _ _ h1
  · cases hg
set_option maxHeartbeats 0 in
theorem p62 : Prog Try.prog (fun _ => True) k62 := Prog.addL (cfg := k61) (f := 22) (p := 252) (keep := keep_rshift) (kx := kx_rshift) (m := 4) (mv := sp_rshift.mv) (Q := P_rshift) (g := g_rshift) p61 Try.func22 (by kernel_rfl) code_rshift (by kernel_rfl) rfl (by decide) loop_rshift

theorem p63 : Prog Try.prog (fun _ => True) k63 := p62.addLoop (.of Try.func22 (by kernel_rfl) (by kernel_rfl)) (fun x h => run_newelref22_Shift x.1 x.2.1 h)

theorem law_newellaw22_CycleLengths : ∀ x, s_newellaw22_CycleLengths.wf x → ∃ fuel d, run k63 fuel d 4 Try.f4 s_newellaw22_CycleLengths x = some (.bool true) := fun x _ => run_newellaw22_CycleLengths x.1 x.2.1
theorem p64 : Prog Try.prog (fun _ => True) k64 := p63

theorem law_newellaw22_CycleTells : ∀ x, s_newellaw22_CycleTells.wf x → ∃ fuel d, run k64 fuel d 3 Try.f3 s_newellaw22_CycleTells x = some (.bool true) := fun x _ => run_newellaw22_CycleTells x.1 x.2.1 x.2.2.1
theorem p65 : Prog Try.prog (fun _ => True) k65 := p64

end Go.Proofs.Ytlnfojhmgncfiaa.Px.PxU
