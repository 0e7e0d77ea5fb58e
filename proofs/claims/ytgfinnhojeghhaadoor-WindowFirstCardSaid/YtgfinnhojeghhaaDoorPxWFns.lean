/- A seat's functions are what their contracts say. -/
import Derived.Test.YtgfinnhojeghhaaDoorPxWSteps
import Derived.Test.YtgfinnhojeghhaaDoorPxWProofs
import Derived.Test.YtgfinnhojeghhaaDoorPxWProofs2
import Derived.Test.YtgfinnhojeghhaaDoorPxWProofs5
import Derived.Test.YtgfinnhojeghhaaDoorPxWProofs6
import Derived.Test.YtgfinnhojeghhaaDoorPxWProofs7
import Derived.Test.YtgfinnhojeghhaaDoorPxWProofs8
import Derived.Test.YtgfinnhojeghhaaDoorPxWLWindowFirst
set_option linter.unusedVariables false
set_option linter.unusedSimpArgs false
namespace Go.Proofs.YtgfinnhojeghhaaDoor.Px.PxW
open Go Go.Proofs

theorem run_zone_within (a0 : Int) (a1 : Int) (a2 : Int) : ∃ F d, run k0 F d 31 Tryd.f31 s_zone_within (a0, a1, a2, ()) = some (r_zone_within.enc (inB a0 a1 a2)) := ⟨200, 6, by kernel_rfl⟩
theorem p1 : Prog Tryd.prog (Globs gl) k1 := p0.addLoop (.of Tryd.func31 (by kernel_rfl) (by kernel_rfl)) (fun x h => run_zone_within x.1 x.2.1 x.2.2.1)

theorem p2 : Prog Tryd.prog (Globs gl) k2 := p1.addLoop (.of Tryd.func46 (by kernel_rfl) (by kernel_rfl)) (fun x h => run_divs_Div x.1 x.2.1 h)

theorem p3 : Prog Tryd.prog (Globs gl) k3 := p2.addLoop (.of Tryd.func59 (by kernel_rfl) (by kernel_rfl)) (fun x h => run_divs_Mod x.1 x.2.1 h)

theorem p4 : Prog Tryd.prog (Globs gl) k4 := p3.addLoop (.of Tryd.func74 (by kernel_rfl) (by kernel_rfl)) (fun x h => run_divs_Next x.1 x.2.1 x.2.2.1 h)

theorem p5 : Prog Tryd.prog (Globs gl) k5 := p4.addLoop (.of Tryd.func80 (by kernel_rfl) (by kernel_rfl)) (fun x h => run_greg_Leap x.1)

theorem p6 : Prog Tryd.prog (Globs gl) k6 := p5.addLoop (.of Tryd.func72 (by kernel_rfl) (by kernel_rfl)) (fun x h => run_greg_Days x.1 x.2.1)

theorem p7 : Prog Tryd.prog (Globs gl) k7 := p6.addLoop (.of Tryd.func61 (by kernel_rfl) (by kernel_rfl)) (fun x h => run_greg_ahead x.1)

theorem p8 : Prog Tryd.prog (Globs gl) k8 := p7.addLoop (.of Tryd.func81 (by kernel_rfl) (by kernel_rfl)) (fun x h => run_greg_before x.1 h)

theorem p9 : Prog Tryd.prog (Globs gl) k9 := p8.addLoop (.of Tryd.func73 (by kernel_rfl) (by kernel_rfl)) (fun x h => run_greg_Day x.1)

theorem p10 : Prog Tryd.prog (Globs gl) k10 := p9.addLoop (.of Tryd.func47 (by kernel_rfl) (by kernel_rfl)) (fun x h => run_greg_Of x.1)

theorem p11 : Prog Tryd.prog (Globs gl) k11 := p10.addLoop (.of Tryd.func62 (by kernel_rfl) (by kernel_rfl)) (fun x h => run_greg_Nth x.1 x.2.1 x.2.2.1 x.2.2.2.1)

theorem p12 : Prog Tryd.prog (Globs gl) k12 := p11.addLoop (.of Tryd.func19 (by kernel_rfl) (by kernel_rfl)) (fun x h => run_zone_Check x.1)

theorem p13 : Prog Tryd.prog (Globs gl) k13 := p12.addLoop (.of Tryd.func48 (by kernel_rfl) (by kernel_rfl)) (fun x h => run_zone_when x.1 x.2.1 x.2.2.1 h)

theorem p14 : Prog Tryd.prog (Globs gl) k14 := p13.addLoop (.of Tryd.func30 (by kernel_rfl) (by kernel_rfl)) (fun x h => run_zone_shift x.1 x.2.1 h)

theorem p15 : Prog Tryd.prog (Globs gl) k15 := p14.addH (.of Tryd.func18 (by kernel_rfl) (by kernel_rfl)) (fun x h => run_zone_Instants x.1 x.2.1 x.2.2.1)

theorem p16 : Prog Tryd.prog (Globs gl) k16 := p15.addLoop (.of Tryd.func64 (by kernel_rfl) (by kernel_rfl)) (fun x h => run_newelref01_Div x.1 x.2.1 h)

theorem p17 : Prog Tryd.prog (Globs gl) k17 := p16.addLoop (.of Tryd.func86 (by kernel_rfl) (by kernel_rfl)) (fun x h => run_newelref01_Mod x.1 x.2.1 h)

theorem p18 : Prog Tryd.prog (Globs gl) k18 := p17.addLoop (.of Tryd.func82 (by kernel_rfl) (by kernel_rfl)) (fun x h => run_newelref02_Leap x.1)

theorem p19 : Prog Tryd.prog (Globs gl) k19 := p18.addLoop (.of Tryd.func75 (by kernel_rfl) (by kernel_rfl)) (fun x h => run_newelref02_long x.1)

theorem p20 : Prog Tryd.prog (Globs gl) k20 := p19.addLoop (.of Tryd.func76 (by kernel_rfl) (by kernel_rfl)) (fun x h => run_newelref02_Days x.1 x.2.1)

set_option maxHeartbeats 0 in
theorem loop_yrs : ∀ ls os xs l e s' s, bSt P_yrs ls os xs = some s → g_yrs ls os xs = some (true, l, e, s') → ∃ fuel d, runL k20 fuel d 63 28 { keep := keep_yrs, m := 1, mv := sp_yrs.mv } kx_yrs c_yrs s = some (altK Prod.mk l e s') := by
  intro ls os xs l e s' s hb hg
  unfold g_yrs at hg
  split at hg
  · replace hg := takeI_some hg
    obtain ⟨v0_0, xs, rfl, hg⟩ := hg
    replace hg := takeI_some hg
    obtain ⟨v0_1, xs, rfl, hg⟩ := hg
    replace hg := takeI_some hg
    obtain ⟨v0_2, xs, rfl, hg⟩ := hg
    replace hg := takeI_some hg
    obtain ⟨v0, xs, rfl, hg⟩ := hg
    replace hg := takeI_some hg
    obtain ⟨v3, xs, rfl, hg⟩ := hg
    replace hg := takeE_some hg
    obtain ⟨rfl, hg⟩ := hg
    simp only [Option.some.injEq, Prod.mk.injEq] at hg
    obtain ⟨h1, rfl, rfl, rfl⟩ := hg
    rw [pat_yrs] at hb
    simp only [Option.some.injEq] at hb
    subst hb
    exact main_yrs _ _ _ _ _ h1
  · cases hg
set_option maxHeartbeats 0 in
theorem p21 : Prog Tryd.prog (Globs gl) k21 := Prog.addL (cfg := k20) (f := 63) (p := 28) (keep := keep_yrs) (kx := kx_yrs) (m := 1) (mv := sp_yrs.mv) (Q := P_yrs) (g := g_yrs) p20 Tryd.func63 (by kernel_rfl) code_yrs (by kernel_rfl) rfl (by decide) loop_yrs

set_option maxHeartbeats 0 in
theorem loop_mons : ∀ ls os xs l e s' s, bSt P_mons ls os xs = some s → g_mons ls os xs = some (true, l, e, s') → ∃ fuel d, runL k21 fuel d 63 124 { keep := keep_mons, m := 1, mv := sp_mons.mv } kx_mons c_mons s = some (altK Prod.mk l e s') := by
  intro ls os xs l e s' s hb hg
  unfold g_mons at hg
  split at hg
  · replace hg := takeI_some hg
    obtain ⟨v0_0, xs, rfl, hg⟩ := hg
    replace hg := takeI_some hg
    obtain ⟨v0_1, xs, rfl, hg⟩ := hg
    replace hg := takeI_some hg
    obtain ⟨v0_2, xs, rfl, hg⟩ := hg
    replace hg := takeI_some hg
    obtain ⟨v0, xs, rfl, hg⟩ := hg
    replace hg := takeI_some hg
    obtain ⟨v3, xs, rfl, hg⟩ := hg
    replace hg := takeI_some hg
    obtain ⟨v4, xs, rfl, hg⟩ := hg
    replace hg := takeE_some hg
    obtain ⟨rfl, hg⟩ := hg
    simp only [Option.some.injEq, Prod.mk.injEq] at hg
    obtain ⟨h1, rfl, rfl, rfl⟩ := hg
    rw [pat_mons] at hb
    simp only [Option.some.injEq] at hb
    subst hb
    exact main_mons _ _ _ _ _ _ h1
  · cases hg
set_option maxHeartbeats 0 in
theorem p22 : Prog Tryd.prog (Globs gl) k22 := Prog.addL (cfg := k21) (f := 63) (p := 124) (keep := keep_mons) (kx := kx_mons) (m := 1) (mv := sp_mons.mv) (Q := P_mons) (g := g_mons) p21 Tryd.func63 (by kernel_rfl) code_mons (by kernel_rfl) rfl (by decide) loop_mons

theorem p23 : Prog Tryd.prog (Globs gl) k23 := p22.addLoop (.of Tryd.func63 (by kernel_rfl) (by kernel_rfl)) (fun x h => run_newelref02_Of x.1 h)

set_option maxHeartbeats 0 in
theorem loop_dyrs : ∀ ls os xs l e s' s, bSt P_dyrs ls os xs = some s → g_dyrs ls os xs = some (true, l, e, s') → ∃ fuel d, runL k23 fuel d 83 58 { keep := keep_dyrs, m := 1, mv := sp_dyrs.mv } kx_dyrs c_dyrs s = some (altK Prod.mk l e s') := by
  intro ls os xs l e s' s hb hg
  unfold g_dyrs at hg
  split at hg
  · replace hg := takeI_some hg
    obtain ⟨v0_0, xs, rfl, hg⟩ := hg
    replace hg := takeI_some hg
    obtain ⟨v0_1, xs, rfl, hg⟩ := hg
    replace hg := takeI_some hg
    obtain ⟨v0_2, xs, rfl, hg⟩ := hg
    replace hg := takeI_some hg
    obtain ⟨v3, xs, rfl, hg⟩ := hg
    replace hg := takeI_some hg
    obtain ⟨v4, xs, rfl, hg⟩ := hg
    replace hg := takeE_some hg
    obtain ⟨rfl, hg⟩ := hg
    simp only [Option.some.injEq, Prod.mk.injEq] at hg
    obtain ⟨h1, rfl, rfl, rfl⟩ := hg
    rw [pat_dyrs] at hb
    simp only [Option.some.injEq] at hb
    subst hb
    exact main_dyrs _ _ _ _ _ h1
  · cases hg
set_option maxHeartbeats 0 in
theorem p24 : Prog Tryd.prog (Globs gl) k24 := Prog.addL (cfg := k23) (f := 83) (p := 58) (keep := keep_dyrs) (kx := kx_dyrs) (m := 1) (mv := sp_dyrs.mv) (Q := P_dyrs) (g := g_dyrs) p23 Tryd.func83 (by kernel_rfl) code_dyrs (by kernel_rfl) rfl (by decide) loop_dyrs

set_option maxHeartbeats 0 in
theorem loop_dmon : ∀ ls os xs l e s' s, bSt P_dmon ls os xs = some s → g_dmon ls os xs = some (true, l, e, s') → ∃ fuel d, runL k24 fuel d 83 122 { keep := keep_dmon, m := 1, mv := sp_dmon.mv } kx_dmon c_dmon s = some (altK Prod.mk l e s') := by
  intro ls os xs l e s' s hb hg
  unfold g_dmon at hg
  split at hg
  · replace hg := takeI_some hg
    obtain ⟨v0_0, xs, rfl, hg⟩ := hg
    replace hg := takeI_some hg
    obtain ⟨v0_1, xs, rfl, hg⟩ := hg
    replace hg := takeI_some hg
    obtain ⟨v0_2, xs, rfl, hg⟩ := hg
    replace hg := takeI_some hg
    obtain ⟨v3, xs, rfl, hg⟩ := hg
    replace hg := takeI_some hg
    obtain ⟨v5, xs, rfl, hg⟩ := hg
    replace hg := takeE_some hg
    obtain ⟨rfl, hg⟩ := hg
    simp only [Option.some.injEq, Prod.mk.injEq] at hg
    obtain ⟨h1, rfl, rfl, rfl⟩ := hg
    rw [pat_dmon] at hb
    simp only [Option.some.injEq] at hb
    subst hb
    exact main_dmon _ _ _ _ _ h1
  · cases hg
set_option maxHeartbeats 0 in
theorem p25 : Prog Tryd.prog (Globs gl) k25 := Prog.addL (cfg := k24) (f := 83) (p := 122) (keep := keep_dmon) (kx := kx_dmon) (m := 1) (mv := sp_dmon.mv) (Q := P_dmon) (g := g_dmon) p24 Tryd.func83 (by kernel_rfl) code_dmon (by kernel_rfl) rfl (by decide) loop_dmon

theorem p26 : Prog Tryd.prog (Globs gl) k26 := p25.addLoop (.of Tryd.func83 (by kernel_rfl) (by kernel_rfl)) (fun x h => run_newelref02_Day x.1 h)

theorem p27 : Prog Tryd.prog (Globs gl) k27 := p26.addLoop (.of Tryd.func84 (by kernel_rfl) (by kernel_rfl)) (fun x h => run_newelref02_Weekday x.1 h)

set_option maxHeartbeats 0 in
theorem loop_rnth : ∀ ls os xs l e s' s, bSt P_rnth ls os xs = some s → g_rnth ls os xs = some (true, l, e, s') → ∃ fuel d, runL k27 fuel d 77 1018 { keep := keep_rnth, m := 0, mv := sp_rnth.mv } kx_rnth c_rnth s = some (altK Prod.mk l e s') := by
  intro ls os xs l e s' s hb hg
  unfold g_rnth at hg
  split at hg
  · replace hg := takeI_some hg
    obtain ⟨v0, xs, rfl, hg⟩ := hg
    replace hg := takeI_some hg
    obtain ⟨v1, xs, rfl, hg⟩ := hg
    replace hg := takeI_some hg
    obtain ⟨v2, xs, rfl, hg⟩ := hg
    replace hg := takeI_some hg
    obtain ⟨v3, xs, rfl, hg⟩ := hg
    replace hg := takeI_some hg
    obtain ⟨v10, xs, rfl, hg⟩ := hg
    replace hg := takeI_some hg
    obtain ⟨v11, xs, rfl, hg⟩ := hg
    replace hg := takeI_some hg
    obtain ⟨v12, xs, rfl, hg⟩ := hg
    replace hg := takeI_some hg
    obtain ⟨v13, xs, rfl, hg⟩ := hg
    replace hg := takeE_some hg
    obtain ⟨rfl, hg⟩ := hg
    simp only [Option.some.injEq, Prod.mk.injEq] at hg
    obtain ⟨h1, rfl, rfl, rfl⟩ := hg
    rw [pat_rnth] at hb
    simp only [Option.some.injEq] at hb
    subst hb
    exact main_rnth _ _ _ _ _ _ _ _ h1
  · cases hg
set_option maxHeartbeats 0 in
theorem p28 : Prog Tryd.prog (Globs gl) k28 := Prog.addL (cfg := k27) (f := 77) (p := 1018) (keep := keep_rnth) (kx := kx_rnth) (m := 0) (mv := sp_rnth.mv) (Q := P_rnth) (g := g_rnth) p27 Tryd.func77 (by kernel_rfl) code_rnth (by kernel_rfl) rfl (by decide) loop_rnth

theorem p29 : Prog Tryd.prog (Globs gl) k29 := p28.addLoop (.of Tryd.func77 (by kernel_rfl) (by kernel_rfl)) (fun x h => run_newelref02_Nth x.1 x.2.1 x.2.2.1 x.2.2.2.1)

theorem p30 : Prog Tryd.prog (Globs gl) k30 := p29.addLoop (.of Tryd.func21 (by kernel_rfl) (by kernel_rfl)) (fun x h => run_newelref06_turn x.1)

theorem p31 : Prog Tryd.prog (Globs gl) k31 := p30.addLoop (.of Tryd.func9 (by kernel_rfl) (by kernel_rfl)) (fun x h => run_newelref06_Check x.1)

theorem p32 : Prog Tryd.prog (Globs gl) k32 := p31.addLoop (.of Tryd.func65 (by kernel_rfl) (by kernel_rfl)) (fun x h => run_newelref06_When x.1 x.2.1 x.2.2.1 h)

theorem p33 : Prog Tryd.prog (Globs gl) k33 := p32.addLoop (.of Tryd.func50 (by kernel_rfl) (by kernel_rfl)) (fun x h => run_newelref06_Summer x.1 x.2.1 h)

theorem p34 : Prog Tryd.prog (Globs gl) k34 := p33.addLoop (.of Tryd.func34 (by kernel_rfl) (by kernel_rfl)) (fun x h => run_newelref06_Told x.1 x.2.1 h)

theorem p35 : Prog Tryd.prog (Globs gl) k35 := p34.addH (.of Tryd.func23 (by kernel_rfl) (by kernel_rfl)) (fun x h => run_newelref06_Instants x.1 x.2.1 x.2.2.1 h)

theorem p36 : Prog Tryd.prog (Globs gl) k36 := p35.addLoop (.of Tryd.func10 (by kernel_rfl) (by kernel_rfl)) (fun x h => run_newelref14_Day x.1)

theorem run_window_reckoned (a0 : Int) : ∃ F d, run k36 F d 20 Tryd.f20 s_window_reckoned (a0, ()) = some (r_window_reckoned.enc (recG a0)) := ⟨200, 6, by kernel_rfl⟩
theorem p37 : Prog Tryd.prog (Globs gl) k37 := p36.addLoop (.of Tryd.func20 (by kernel_rfl) (by kernel_rfl)) (fun x h => run_window_reckoned x.1)

set_option maxHeartbeats 0 in
theorem loop_wmom : ∀ ls os xs l e s' s, bSt P_wmom ls os xs = some s → g_wmom ls os xs = some (true, l, e, s') → ∃ fuel d, runL k37 fuel d 8 62 { keep := keep_wmom, m := 1, mv := sp_wmom.mv } kx_wmom c_wmom s = some (altK Prod.mk l e s') := by
  intro ls os xs l e s' s hb hg
  unfold g_wmom at hg
  split at hg
  · replace hg := takeI_some hg
    obtain ⟨v0_0, xs, rfl, hg⟩ := hg
    replace hg := takeI_some hg
    obtain ⟨v0_1, xs, rfl, hg⟩ := hg
    replace hg := takeI_some hg
    obtain ⟨v0_2, xs, rfl, hg⟩ := hg
    replace hg := takeI_some hg
    obtain ⟨v0_3, xs, rfl, hg⟩ := hg
    replace hg := takeI_some hg
    obtain ⟨v0_4, xs, rfl, hg⟩ := hg
    replace hg := takeI_some hg
    obtain ⟨v0_5, xs, rfl, hg⟩ := hg
    replace hg := takeI_some hg
    obtain ⟨v0_6, xs, rfl, hg⟩ := hg
    replace hg := takeI_some hg
    obtain ⟨v0_7, xs, rfl, hg⟩ := hg
    replace hg := takeI_some hg
    obtain ⟨v0_8, xs, rfl, hg⟩ := hg
    replace hg := takeI_some hg
    obtain ⟨v0_9, xs, rfl, hg⟩ := hg
    replace hg := takeI_some hg
    obtain ⟨v9, xs, rfl, hg⟩ := hg
    replace hg := takeE_some hg
    obtain ⟨rfl, hg⟩ := hg
    simp only [Option.some.injEq, Prod.mk.injEq] at hg
    obtain ⟨h1, rfl, rfl, rfl⟩ := hg
    rw [pat_wmom] at hb
    simp only [Option.some.injEq] at hb
    subst hb
    exact main_wmom _ _ _ _ _ _ _ _ _ _ _ h1
  · cases hg
set_option maxHeartbeats 0 in
theorem p38 : Prog Tryd.prog (Globs gl) k38 := Prog.addL (cfg := k37) (f := 8) (p := 62) (keep := keep_wmom) (kx := kx_wmom) (m := 1) (mv := sp_wmom.mv) (Q := P_wmom) (g := g_wmom) p37 Tryd.func8 (by kernel_rfl) code_wmom (by kernel_rfl) rfl (by decide) loop_wmom

theorem p39 : Prog Tryd.prog (Globs gl) k39 := p38.addLoop (.of Tryd.func8 (by kernel_rfl) (by kernel_rfl)) (fun x h => run_window_Moment x.1 x.2.1 x.2.2.1)

set_option maxHeartbeats 0 in
theorem loop_rmom : ∀ ls os xs l e s' s, bSt P_rmom ls os xs = some s → g_rmom ls os xs = some (true, l, e, s') → ∃ fuel d, runL k39 fuel d 12 60 { keep := keep_rmom, m := 2, mv := sp_rmom.mv } kx_rmom c_rmom s = some (altK Prod.mk l e s') := by
  intro ls os xs l e s' s hb hg
  unfold g_rmom at hg
  split at hg
  · replace hg := takeI_some hg
    obtain ⟨v0_0, xs, rfl, hg⟩ := hg
    replace hg := takeI_some hg
    obtain ⟨v0_1, xs, rfl, hg⟩ := hg
    replace hg := takeI_some hg
    obtain ⟨v0_2, xs, rfl, hg⟩ := hg
    replace hg := takeI_some hg
    obtain ⟨v0_3, xs, rfl, hg⟩ := hg
    replace hg := takeI_some hg
    obtain ⟨v0_4, xs, rfl, hg⟩ := hg
    replace hg := takeI_some hg
    obtain ⟨v0_5, xs, rfl, hg⟩ := hg
    replace hg := takeI_some hg
    obtain ⟨v0_6, xs, rfl, hg⟩ := hg
    replace hg := takeI_some hg
    obtain ⟨v0_7, xs, rfl, hg⟩ := hg
    replace hg := takeI_some hg
    obtain ⟨v0_8, xs, rfl, hg⟩ := hg
    replace hg := takeI_some hg
    obtain ⟨v0_9, xs, rfl, hg⟩ := hg
    replace hg := takeI_some hg
    obtain ⟨v7, xs, rfl, hg⟩ := hg
    replace hg := takeE_some hg
    obtain ⟨rfl, hg⟩ := hg
    simp only [Option.some.injEq, Prod.mk.injEq] at hg
    obtain ⟨h1, rfl, rfl, rfl⟩ := hg
    rw [pat_rmom] at hb
    simp only [Option.some.injEq] at hb
    subst hb
    exact main_rmom _ _ _ _ _ _ _ _ _ _ _ _ h1
  · cases hg
set_option maxHeartbeats 0 in
theorem p40 : Prog Tryd.prog (Globs gl) k40 := Prog.addL (cfg := k39) (f := 12) (p := 60) (keep := keep_rmom) (kx := kx_rmom) (m := 2) (mv := sp_rmom.mv) (Q := P_rmom) (g := g_rmom) p39 Tryd.func12 (by kernel_rfl) code_rmom (by kernel_rfl) rfl (by decide) loop_rmom

theorem p41 : Prog Tryd.prog (Globs gl) k41 := p40.addLoop (.of Tryd.func12 (by kernel_rfl) (by kernel_rfl)) (fun x h => run_newelref14_Moment x.1 x.2.1 x.2.2.1 h)

theorem p42 : Prog Tryd.prog (Globs gl) k42 := p41.addLoop (.of Tryd.func26 (by kernel_rfl) (by kernel_rfl)) (fun x h => run_window_of x.1 h)

theorem p43 : Prog Tryd.prog (Globs gl) k43 := p42.addLoop (.of Tryd.func44 (by kernel_rfl) (by kernel_rfl)) (fun x h => run_greg_Weekday x.1 h)

theorem run_window_timed (a0 : Config) (a1 : Window) (a2 : Int) (a3 : Bool) : ∃ F d, run k43 F d 104 Tryd.f104 s_window_timed (a0, a1, a2, a3, ()) = some (r_window_timed.enc (timedG a0 a1 a2 a3)) := ⟨200, 6, by kernel_rfl⟩
theorem p44 : Prog Tryd.prog (Globs gl) k44 := p43.addLoop (.of Tryd.func104 (by kernel_rfl) (by kernel_rfl)) (fun x h => run_window_timed x.1 x.2.1 x.2.2.1 x.2.2.2.1)

theorem p45 : Prog Tryd.prog (Globs gl) k45 := p44.addLoop (.of Tryd.func103 (by kernel_rfl) (by kernel_rfl)) (fun x h => run_window_weekly_open x.1 x.2.1 x.2.2.1 x.2.2.2.1 h)

theorem p46 : Prog Tryd.prog (Globs gl) k46 := p45.addLoop (.of Tryd.func14 (by kernel_rfl) (by kernel_rfl)) (fun x h => run_window_Span x.1 x.2.1 x.2.2.1 h)

theorem run_newellaw14_awake : ∃ F d, run k46 F d 11 Tryd.f11 s_newellaw14_awake (()) = some (r_newellaw14_awake.enc (true)) := ⟨200, 6, by kernel_rfl⟩
theorem p47 : Prog Tryd.prog (Globs gl) k47 := p46.addLoop (.of Tryd.func11 (by kernel_rfl) (by kernel_rfl)) (fun x h => run_newellaw14_awake )

theorem p48 : Prog Tryd.prog (Globs gl) k48 := p47.addLoop (.of Tryd.func29 (by kernel_rfl) (by kernel_rfl)) (fun x h => run_zone_check x.1 x.2.1)

theorem p49 : Prog Tryd.prog (Globs gl) k49 := p48.addLoop (.of Tryd.func17 (by kernel_rfl) (by kernel_rfl)) (fun x h => run_zone_Local x.1 x.2.1)

theorem law_newellaw14_WindowFirst : ∀ x, s_newellaw14_WindowFirst.wf x → ∃ fuel d, run k49 fuel d 7 Tryd.f7 s_newellaw14_WindowFirst x = some (.bool true) := fun x hx => run_newellaw14_WindowFirst x.1 x.2.1 x.2.2.1
theorem p50 : Prog Tryd.prog (Globs gl) k50 := p49

end Go.Proofs.YtgfinnhojeghhaaDoor.Px.PxW
