/- A seat's functions are what their contracts say. -/
import Derived.Test.YtdadgkgkdgnihaaPxVSteps
import Derived.Test.YtdadgkgkdgnihaaPxVProofs
import Derived.Test.YtdadgkgkdgnihaaPxVProofs2
import Derived.Test.YtdadgkgkdgnihaaPxVLSpanResolves
set_option linter.unusedVariables false
set_option linter.unusedSimpArgs false
namespace Go.Proofs.Ytdadgkgkdgnihaa.Px.PxV
open Go Go.Proofs

theorem p1 : Prog Try.prog (fun _ => True) k1 := p0.addLoop (.of Try.func29 (by kernel_rfl) (by kernel_rfl)) (fun x h => run_span_within x.1 x.2.1)

theorem p2 : Prog Try.prog (fun _ => True) k2 := p1.addLoop (.of Try.func33 (by kernel_rfl) (by kernel_rfl)) (fun x h => run_lessS x.1 x.2.1)

theorem p3 : Prog Try.prog (fun _ => True) k3 := p2.addH (.of Try.func11 (by kernel_rfl) (by kernel_rfl)) (fun x h => run_newellaw13_own x.1 h)

set_option maxHeartbeats 0 in
theorem loop_same : ∀ ls os xs l e s' s, bSt P_same ls os xs = some s → g_same ls os xs = some (true, l, e, s') → ∃ fuel d, runL k3 fuel d 13 58 { keep := keep_same, m := 2, mv := sp_same.mv } kx_same c_same s = some (altK Prod.mk l e s') := by
  intro ls os xs l e s' s hb hg
  unfold g_same at hg
  split at hg
  · replace hg := takeI_some hg
    obtain ⟨v5, xs, rfl, hg⟩ := hg
    replace hg := takeE_some hg
    obtain ⟨rfl, hg⟩ := hg
    simp only [Option.some.injEq, Prod.mk.injEq] at hg
    obtain ⟨h1, rfl, rfl, rfl⟩ := hg
    rw [pat_same] at hb
    simp only [Option.some.injEq] at hb
    subst hb
    exact main_same _ _ _ h1
  · cases hg
set_option maxHeartbeats 0 in
theorem p4 : Prog Try.prog (fun _ => True) k4 := Prog.addL (cfg := k3) (f := 13) (p := 58) (keep := keep_same) (kx := kx_same) (m := 2) (mv := sp_same.mv) (Q := P_same) (g := g_same) p3 Try.func13 (by kernel_rfl) code_same (by kernel_rfl) rfl (by decide) loop_same

theorem p5 : Prog Try.prog (fun _ => True) k5 := p4.addLoop (.of Try.func13 (by kernel_rfl) (by kernel_rfl)) (fun x h => run_newelref13_Same x.1 x.2.1 h)

set_option maxHeartbeats 0 in
theorem loop_weight : ∀ ls os xs l e s' s, bSt P_weight ls os xs = some s → g_weight ls os xs = some (true, l, e, s') → ∃ fuel d, runL k5 fuel d 23 122 { keep := keep_weight, m := 1, mv := sp_weight.mv } kx_weight c_weight s = some (altK Prod.mk l e s') := by
  intro ls os xs l e s' s hb hg
  unfold g_weight at hg
  split at hg
  · replace hg := takeI_some hg
    obtain ⟨v1, xs, rfl, hg⟩ := hg
    replace hg := takeI_some hg
    obtain ⟨v5, xs, rfl, hg⟩ := hg
    replace hg := takeI_some hg
    obtain ⟨v10, xs, rfl, hg⟩ := hg
    replace hg := takeI_some hg
    obtain ⟨v11, xs, rfl, hg⟩ := hg
    replace hg := takeE_some hg
    obtain ⟨rfl, hg⟩ := hg
    simp only [Option.some.injEq, Prod.mk.injEq] at hg
    obtain ⟨h1, rfl, rfl, rfl⟩ := hg
    rw [pat_weight] at hb
    simp only [Option.some.injEq] at hb
    subst hb
    exact main_weight _ _ _ _ _ h1
  · cases hg
set_option maxHeartbeats 0 in
theorem p6 : Prog Try.prog (fun _ => True) k6 := Prog.addL (cfg := k5) (f := 23) (p := 122) (keep := keep_weight) (kx := kx_weight) (m := 1) (mv := sp_weight.mv) (Q := P_weight) (g := g_weight) p5 Try.func23 (by kernel_rfl) code_weight (by kernel_rfl) rfl (by decide) loop_weight

theorem p7 : Prog Try.prog (fun _ => True) k7 := p6.addLoop (.of Try.func23 (by kernel_rfl) (by kernel_rfl)) (fun x h => run_span_weightiest x.1 x.2.1 h)

set_option maxHeartbeats 0 in
theorem loop_atix : ∀ ls os xs l e s' s, bSt P_atix ls os xs = some s → g_atix ls os xs = some (true, l, e, s') → ∃ fuel d, runL k7 fuel d 27 26 { keep := keep_atix, m := 3, mv := sp_atix.mv } kx_atix c_atix s = some (altK Prod.mk l e s') := by
  intro ls os xs l e s' s hb hg
  unfold g_atix at hg
  split at hg
  · replace hg := takeI_some hg
    obtain ⟨v1_0, xs, rfl, hg⟩ := hg
    replace hg := takeI_some hg
    obtain ⟨v2_0, xs, rfl, hg⟩ := hg
    replace hg := takeI_some hg
    obtain ⟨v2_1, xs, rfl, hg⟩ := hg
    replace hg := takeI_some hg
    obtain ⟨v2_2, xs, rfl, hg⟩ := hg
    replace hg := takeI_some hg
    obtain ⟨v2_3, xs, rfl, hg⟩ := hg
    replace hg := takeI_some hg
    obtain ⟨v7, xs, rfl, hg⟩ := hg
    replace hg := takeI_some hg
    obtain ⟨v8, xs, rfl, hg⟩ := hg
    replace hg := takeE_some hg
    obtain ⟨rfl, hg⟩ := hg
    simp only [Option.some.injEq, Prod.mk.injEq] at hg
    obtain ⟨h1, rfl, rfl, rfl⟩ := hg
    rw [pat_atix] at hb
    simp only [Option.some.injEq] at hb
    subst hb
    exact main_atix _ _ _ _ _ _ _ _ h1
  · cases hg
set_option maxHeartbeats 0 in
theorem p8 : Prog Try.prog (fun _ => True) k8 := Prog.addL (cfg := k7) (f := 27) (p := 26) (cx := 1003) (keep := keep_atix) (kx := kx_atix) (m := 3) (mv := sp_atix.mv) (Q := P_atix) (g := g_atix) p7 Try.func27 (by kernel_rfl) code_atix (by kernel_rfl) rfl (by decide) loop_atix

theorem p9 : Prog Try.prog (fun _ => True) k9 := p8.addLoop (.of Try.func15 (by kernel_rfl) (by kernel_rfl)) (fun x h => run_span_At x.1 x.2.1 h)

set_option maxHeartbeats 0 in
theorem loop_rat : ∀ ls os xs l e s' s, bSt P_rat ls os xs = some s → g_rat ls os xs = some (true, l, e, s') → ∃ fuel d, runL k9 fuel d 16 26 { keep := keep_rat, m := 2, mv := sp_rat.mv } kx_rat c_rat s = some (altK Prod.mk l e s') := by
  intro ls os xs l e s' s hb hg
  unfold g_rat at hg
  split at hg
  · replace hg := takeI_some hg
    obtain ⟨v1_0, xs, rfl, hg⟩ := hg
    replace hg := takeI_some hg
    obtain ⟨v1_1, xs, rfl, hg⟩ := hg
    replace hg := takeI_some hg
    obtain ⟨v1_2, xs, rfl, hg⟩ := hg
    replace hg := takeI_some hg
    obtain ⟨v1_3, xs, rfl, hg⟩ := hg
    replace hg := takeI_some hg
    obtain ⟨v1, xs, rfl, hg⟩ := hg
    replace hg := takeI_some hg
    obtain ⟨v6, xs, rfl, hg⟩ := hg
    replace hg := takeE_some hg
    obtain ⟨rfl, hg⟩ := hg
    simp only [Option.some.injEq, Prod.mk.injEq] at hg
    obtain ⟨h1, rfl, rfl, rfl⟩ := hg
    rw [pat_rat] at hb
    simp only [Option.some.injEq] at hb
    subst hb
    exact main_rat _ _ _ _ _ _ _ h1
  · cases hg
set_option maxHeartbeats 0 in
theorem p10 : Prog Try.prog (fun _ => True) k10 := Prog.addL (cfg := k9) (f := 16) (p := 26) (keep := keep_rat) (kx := kx_rat) (m := 2) (mv := sp_rat.mv) (Q := P_rat) (g := g_rat) p9 Try.func16 (by kernel_rfl) code_rat (by kernel_rfl) rfl (by decide) loop_rat

theorem p11 : Prog Try.prog (fun _ => True) k11 := p10.addLoop (.of Try.func16 (by kernel_rfl) (by kernel_rfl)) (fun x h => run_newelref13_At x.1 x.2.1 h)

set_option maxHeartbeats 0 in
theorem loop_cut : ∀ ls os xs l e s' s, bSt P_cut ls os xs = some s → g_cut ls os xs = some (true, l, e, s') → ∃ fuel d, runL k11 fuel d 17 58 { keep := keep_cut, m := 1, mv := sp_cut.mv } kx_cut c_cut s = some (altK Prod.mk l e s') := by
  intro ls os xs l e s' s hb hg
  unfold g_cut at hg
  split at hg
  · replace hg := takeI_some hg
    obtain ⟨v1, xs, rfl, hg⟩ := hg
    replace hg := takeI_some hg
    obtain ⟨v2, xs, rfl, hg⟩ := hg
    replace hg := takeI_some hg
    obtain ⟨v11, xs, rfl, hg⟩ := hg
    replace hg := takeI_some hg
    obtain ⟨v12, xs, rfl, hg⟩ := hg
    replace hg := takeE_some hg
    obtain ⟨rfl, hg⟩ := hg
    simp only [Option.some.injEq, Prod.mk.injEq] at hg
    obtain ⟨h1, rfl, rfl, rfl⟩ := hg
    rw [pat_cut] at hb
    simp only [Option.some.injEq] at hb
    subst hb
    exact main_cut _ _ _ _ _ _ h1
  · cases hg
set_option maxHeartbeats 0 in
theorem p12 : Prog Try.prog (fun _ => True) k12 := Prog.addL (cfg := k11) (f := 17) (p := 58) (keep := keep_cut) (kx := kx_cut) (m := 1) (mv := sp_cut.mv) (Q := P_cut) (g := g_cut) p11 Try.func17 (by kernel_rfl) code_cut (by kernel_rfl) rfl (by decide) loop_cut

theorem p13 : Prog Try.prog (fun _ => True) k13 := p12.addH (.of Try.func17 (by kernel_rfl) (by kernel_rfl)) (fun x h => run_span_Cut x.1 x.2.1 x.2.2.1 h)

set_option maxHeartbeats 0 in
theorem loop_rcut : ∀ ls os xs l e s' s, bSt P_rcut ls os xs = some s → g_rcut ls os xs = some (true, l, e, s') → ∃ fuel d, runL k13 fuel d 18 58 { keep := keep_rcut, m := 1, mv := sp_rcut.mv } kx_rcut c_rcut s = some (altK Prod.mk l e s') := by
  intro ls os xs l e s' s hb hg
  unfold g_rcut at hg
  split at hg
  · replace hg := takeI_some hg
    obtain ⟨v1, xs, rfl, hg⟩ := hg
    replace hg := takeI_some hg
    obtain ⟨v2, xs, rfl, hg⟩ := hg
    replace hg := takeI_some hg
    obtain ⟨v8, xs, rfl, hg⟩ := hg
    replace hg := takeE_some hg
    obtain ⟨rfl, hg⟩ := hg
    simp only [Option.some.injEq, Prod.mk.injEq] at hg
    obtain ⟨h1, rfl, rfl, rfl⟩ := hg
    rw [pat_rcut] at hb
    simp only [Option.some.injEq] at hb
    subst hb
    exact main_rcut _ _ _ _ _ h1
  · cases hg
set_option maxHeartbeats 0 in
theorem p14 : Prog Try.prog (fun _ => True) k14 := Prog.addL (cfg := k13) (f := 18) (p := 58) (keep := keep_rcut) (kx := kx_rcut) (m := 1) (mv := sp_rcut.mv) (Q := P_rcut) (g := g_rcut) p13 Try.func18 (by kernel_rfl) code_rcut (by kernel_rfl) rfl (by decide) loop_rcut

theorem p15 : Prog Try.prog (fun _ => True) k15 := p14.addH (.of Try.func18 (by kernel_rfl) (by kernel_rfl)) (fun x h => run_newelref13_Cut x.1 x.2.1 x.2.2.1 h)

set_option maxHeartbeats 0 in
theorem loop_oddix : ∀ ls os xs l e s' s, bSt P_oddix ls os xs = some s → g_oddix ls os xs = some (true, l, e, s') → ∃ fuel d, runL k15 fuel d 27 26 { keep := keep_oddix, m := 2, mv := sp_oddix.mv } kx_oddix c_oddix s = some (altK Prod.mk l e s') := by
  intro ls os xs l e s' s hb hg
  unfold g_oddix at hg
  split at hg
  · replace hg := takeI_some hg
    obtain ⟨v7, xs, rfl, hg⟩ := hg
    replace hg := takeI_some hg
    obtain ⟨v8, xs, rfl, hg⟩ := hg
    replace hg := takeE_some hg
    obtain ⟨rfl, hg⟩ := hg
    simp only [Option.some.injEq, Prod.mk.injEq] at hg
    obtain ⟨h1, rfl, rfl, rfl⟩ := hg
    rw [pat_oddix] at hb
    simp only [Option.some.injEq] at hb
    subst hb
    exact main_oddix _ _ _ h1
  · cases hg
set_option maxHeartbeats 0 in
theorem p16 : Prog Try.prog (fun _ => True) k16 := Prog.addL (cfg := k15) (f := 27) (p := 26) (cx := 1002) (keep := keep_oddix) (kx := kx_oddix) (m := 2) (mv := sp_oddix.mv) (Q := P_oddix) (g := g_oddix) p15 Try.func27 (by kernel_rfl) code_oddix (by kernel_rfl) rfl (by decide) loop_oddix

set_option maxHeartbeats 0 in
theorem loop_ends : ∀ ls os xs l e s' s, bSt P_ends ls os xs = some s → g_ends ls os xs = some (true, l, e, s') → ∃ fuel d, runL k16 fuel d 22 58 { keep := keep_ends, m := 4, mv := sp_ends.mv } kx_ends c_ends s = some (altK Prod.mk l e s') := by
  intro ls os xs l e s' s hb hg
  unfold g_ends at hg
  split at hg
  · replace hg := takeI_some hg
    obtain ⟨v7, xs, rfl, hg⟩ := hg
    replace hg := takeI_some hg
    obtain ⟨v8, xs, rfl, hg⟩ := hg
    replace hg := takeE_some hg
    obtain ⟨rfl, hg⟩ := hg
    simp only [Option.some.injEq, Prod.mk.injEq] at hg
    obtain ⟨h1, rfl, rfl, rfl⟩ := hg
    rw [pat_ends] at hb
    simp only [Option.some.injEq] at hb
    subst hb
    exact main_ends _ _ _ _ h1
  · cases hg
set_option maxHeartbeats 0 in
theorem p17 : Prog Try.prog (fun _ => True) k17 := Prog.addL (cfg := k16) (f := 22) (p := 58) (keep := keep_ends) (kx := kx_ends) (m := 4) (mv := sp_ends.mv) (Q := P_ends) (g := g_ends) p16 Try.func22 (by kernel_rfl) code_ends (by kernel_rfl) rfl (by decide) loop_ends

set_option maxHeartbeats 0 in
theorem loop_pcs : ∀ ls os xs l e s' s, bSt P_pcs ls os xs = some s → g_pcs ls os xs = some (true, l, e, s') → ∃ fuel d, runL k17 fuel d 32 6 { keep := keep_pcs, m := 7, mv := sp_pcs.mv } kx_pcs c_pcs s = some (altK Prod.mk l e s') := by
  intro ls os xs l e s' s hb hg
  unfold g_pcs at hg
  split at hg
  · replace hg := takeI_some hg
    obtain ⟨v3, xs, rfl, hg⟩ := hg
    replace hg := takeE_some hg
    obtain ⟨rfl, hg⟩ := hg
    simp only [Option.some.injEq, Prod.mk.injEq] at hg
    obtain ⟨h1, rfl, rfl, rfl⟩ := hg
    rw [pat_pcs] at hb
    simp only [Option.some.injEq] at hb
    subst hb
    exact main_pcs _ _ _ _ h1
  · cases hg
set_option maxHeartbeats 0 in
theorem p18 : Prog Try.prog (fun _ => True) k18 := Prog.addL (cfg := k17) (f := 32) (p := 6) (cx := 1) (keep := keep_pcs) (kx := kx_pcs) (m := 7) (mv := sp_pcs.mv) (Q := P_pcs) (g := g_pcs) p17 Try.func32 (by kernel_rfl) code_pcs (by kernel_rfl) rfl (by decide) loop_pcs

theorem p19 : Prog Try.prog (fun _ => True) k19 := p18.addH (.of Try.func10 (by kernel_rfl) (by kernel_rfl)) (fun x h => run_span_Resolve x.1 h)

set_option maxHeartbeats 0 in
theorem loop_may : ∀ ls os xs l e s' s, bSt P_may ls os xs = some s → g_may ls os xs = some (true, l, e, s') → ∃ fuel d, runL k19 fuel d 12 26 { keep := keep_may, m := 1, mv := sp_may.mv } kx_may c_may s = some (altK Prod.mk l e s') := by
  intro ls os xs l e s' s hb hg
  unfold g_may at hg
  split at hg
  · replace hg := takeI_some hg
    obtain ⟨v3, xs, rfl, hg⟩ := hg
    replace hg := takeE_some hg
    obtain ⟨rfl, hg⟩ := hg
    simp only [Option.some.injEq, Prod.mk.injEq] at hg
    obtain ⟨h1, rfl, rfl, rfl⟩ := hg
    rw [pat_may] at hb
    simp only [Option.some.injEq] at hb
    subst hb
    exact main_may _ _ h1
  · cases hg
set_option maxHeartbeats 0 in
theorem p20 : Prog Try.prog (fun _ => True) k20 := Prog.addL (cfg := k19) (f := 12) (p := 26) (keep := keep_may) (kx := kx_may) (m := 1) (mv := sp_may.mv) (Q := P_may) (g := g_may) p19 Try.func12 (by kernel_rfl) code_may (by kernel_rfl) rfl (by decide) loop_may

theorem p21 : Prog Try.prog (fun _ => True) k21 := p20.addLoop (.of Try.func12 (by kernel_rfl) (by kernel_rfl)) (fun x h => run_newelref13_May x.1 h)

theorem p22 : Prog Try.prog (fun _ => True) k22 := p21.addLoop (.of Try.func34 (by kernel_rfl) (by kernel_rfl)) (fun x h => run_newelref13_over x.1 x.2.1)

set_option maxHeartbeats 0 in
theorem loop_rw : ∀ ls os xs l e s' s, bSt P_rw ls os xs = some s → g_rw ls os xs = some (true, l, e, s') → ∃ fuel d, runL k22 fuel d 26 58 { keep := keep_rw, m := 1, mv := sp_rw.mv } kx_rw c_rw s = some (altK Prod.mk l e s') := by
  intro ls os xs l e s' s hb hg
  unfold g_rw at hg
  split at hg
  · replace hg := takeI_some hg
    obtain ⟨v1, xs, rfl, hg⟩ := hg
    replace hg := takeI_some hg
    obtain ⟨v5, xs, rfl, hg⟩ := hg
    replace hg := takeI_some hg
    obtain ⟨v6, xs, rfl, hg⟩ := hg
    replace hg := takeE_some hg
    obtain ⟨rfl, hg⟩ := hg
    simp only [Option.some.injEq, Prod.mk.injEq] at hg
    obtain ⟨h1, rfl, rfl, rfl⟩ := hg
    rw [pat_rw] at hb
    simp only [Option.some.injEq] at hb
    subst hb
    exact main_rw _ _ _ _ h1
  · cases hg
set_option maxHeartbeats 0 in
theorem p23 : Prog Try.prog (fun _ => True) k23 := Prog.addL (cfg := k22) (f := 26) (p := 58) (keep := keep_rw) (kx := kx_rw) (m := 1) (mv := sp_rw.mv) (Q := P_rw) (g := g_rw) p22 Try.func26 (by kernel_rfl) code_rw (by kernel_rfl) rfl (by decide) loop_rw

theorem p24 : Prog Try.prog (fun _ => True) k24 := p23.addLoop (.of Try.func26 (by kernel_rfl) (by kernel_rfl)) (fun x h => run_newelref13_Weightiest x.1 x.2.1 h)

set_option maxHeartbeats 0 in
theorem loop_nxt : ∀ ls os xs l e s' s, bSt P_nxt ls os xs = some s → g_nxt ls os xs = some (true, l, e, s') → ∃ fuel d, runL k24 fuel d 25 122 { keep := keep_nxt, m := 1, mv := sp_nxt.mv } kx_nxt c_nxt s = some (altK Prod.mk l e s') := by
  intro ls os xs l e s' s hb hg
  unfold g_nxt at hg
  split at hg
  · replace hg := takeI_some hg
    obtain ⟨v1, xs, rfl, hg⟩ := hg
    replace hg := takeI_some hg
    obtain ⟨v6, xs, rfl, hg⟩ := hg
    replace hg := takeB_some hg
    obtain ⟨v7, xs, rfl, hg⟩ := hg
    replace hg := takeI_some hg
    obtain ⟨v8, xs, rfl, hg⟩ := hg
    replace hg := takeE_some hg
    obtain ⟨rfl, hg⟩ := hg
    simp only [Option.some.injEq, Prod.mk.injEq] at hg
    obtain ⟨h1, rfl, rfl, rfl⟩ := hg
    rw [pat_nxt] at hb
    simp only [Option.some.injEq] at hb
    subst hb
    exact main_nxt _ _ _ _ _ h1
  · cases hg
set_option maxHeartbeats 0 in
theorem p25 : Prog Try.prog (fun _ => True) k25 := Prog.addL (cfg := k24) (f := 25) (p := 122) (keep := keep_nxt) (kx := kx_nxt) (m := 1) (mv := sp_nxt.mv) (Q := P_nxt) (g := g_nxt) p24 Try.func25 (by kernel_rfl) code_nxt (by kernel_rfl) rfl (by decide) loop_nxt

theorem p26 : Prog Try.prog (fun _ => True) k26 := p25.addLoop (.of Try.func25 (by kernel_rfl) (by kernel_rfl)) (fun x h => run_newelref13_next x.1 x.2.1 h)

set_option maxHeartbeats 0 in
theorem loop_lea : ∀ ls os xs l e s' s, bSt P_lea ls os xs = some s → g_lea ls os xs = some (true, l, e, s') → ∃ fuel d, runL k26 fuel d 24 58 { keep := keep_lea, m := 1, mv := sp_lea.mv } kx_lea c_lea s = some (altK Prod.mk l e s') := by
  intro ls os xs l e s' s hb hg
  unfold g_lea at hg
  split at hg
  · replace hg := takeI_some hg
    obtain ⟨v3, xs, rfl, hg⟩ := hg
    replace hg := takeI_some hg
    obtain ⟨v4, xs, rfl, hg⟩ := hg
    replace hg := takeE_some hg
    obtain ⟨rfl, hg⟩ := hg
    simp only [Option.some.injEq, Prod.mk.injEq] at hg
    obtain ⟨h1, rfl, rfl, rfl⟩ := hg
    rw [pat_lea] at hb
    simp only [Option.some.injEq] at hb
    subst hb
    exact main_lea _ _ _ h1
  · cases hg
set_option maxHeartbeats 0 in
theorem p27 : Prog Try.prog (fun _ => True) k27 := Prog.addL (cfg := k26) (f := 24) (p := 58) (keep := keep_lea) (kx := kx_lea) (m := 1) (mv := sp_lea.mv) (Q := P_lea) (g := g_lea) p26 Try.func24 (by kernel_rfl) code_lea (by kernel_rfl) rfl (by decide) loop_lea

theorem p28 : Prog Try.prog (fun _ => True) k28 := p27.addLoop (.of Try.func24 (by kernel_rfl) (by kernel_rfl)) (fun x h => run_newelref13_least x.1 h)

set_option maxHeartbeats 0 in
theorem loop_rres : ∀ ls os xs l e s' s, bSt P_rres ls os xs = some s → g_rres ls os xs = some (true, l, e, s') → ∃ fuel d, runL k28 fuel d 14 252 { keep := keep_rres, m := 1, mv := sp_rres.mv } kx_rres c_rres s = some (altK Prod.mk l e s') := by
  intro ls os xs l e s' s hb hg
  unfold g_rres at hg
  split at hg
  · replace hg := takeI_some hg
    obtain ⟨v4, xs, rfl, hg⟩ := hg
    replace hg := takeI_some hg
    obtain ⟨v5, xs, rfl, hg⟩ := hg
    replace hg := takeB_some hg
    obtain ⟨v6, xs, rfl, hg⟩ := hg
    replace hg := takeE_some hg
    obtain ⟨rfl, hg⟩ := hg
    simp only [Option.some.injEq, Prod.mk.injEq] at hg
    obtain ⟨h1, rfl, rfl, rfl⟩ := hg
    rw [pat_rres] at hb
    simp only [Option.some.injEq] at hb
    subst hb
    exact main_rres _ _ _ _ _ h1
  · cases hg
set_option maxHeartbeats 0 in
theorem p29 : Prog Try.prog (fun _ => True) k29 := Prog.addL (cfg := k28) (f := 14) (p := 252) (keep := keep_rres) (kx := kx_rres) (m := 1) (mv := sp_rres.mv) (Q := P_rres) (g := g_rres) p28 Try.func14 (by kernel_rfl) code_rres (by kernel_rfl) rfl (by decide) loop_rres

theorem p30 : Prog Try.prog (fun _ => True) k30 := p29.addH (.of Try.func14 (by kernel_rfl) (by kernel_rfl)) (fun x h => run_newelref13_Resolve x.1 h)

theorem run_newellaw13_awake : ∃ F d, run k30 F d 9 Try.f9 s_newellaw13_awake (()) = some (r_newellaw13_awake.enc (true)) := ⟨200, 6, by kernel_rfl⟩
theorem p31 : Prog Try.prog (fun _ => True) k31 := p30.addLoop (.of Try.func9 (by kernel_rfl) (by kernel_rfl)) (fun x h => run_newellaw13_awake )

theorem law_newellaw13_SpanResolves : ∀ x, s_newellaw13_SpanResolves.wf x → (smallS x.1) = true → ∃ fuel d, run k31 fuel d 3 Try.f3 s_newellaw13_SpanResolves x = some (.bool true) := fun x hx hg => run_newellaw13_SpanResolves x.1 hg
theorem p32 : Prog Try.prog (fun _ => True) k32 := p31

end Go.Proofs.Ytdadgkgkdgnihaa.Px.PxV
