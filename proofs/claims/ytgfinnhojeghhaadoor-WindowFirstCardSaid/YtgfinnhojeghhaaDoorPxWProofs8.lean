/- The first instant that tells a minute: the law. -/
import Derived.Test.YtgfinnhojeghhaaDoorPxWProofs7
import Derived.Test.YtgfinnhojeghhaaDoorPxSpecGreg
set_option linter.unusedVariables false
set_option linter.unusedSimpArgs false
namespace Go.Proofs.YtgfinnhojeghhaaDoor.Px.PxW
open Go Go.Proofs
set_option linter.unusedSimpArgs false
set_option linter.unusedVariables false

theorem run_zone_check (a0 : Zone) (a1 : Int) : ∃ F d, run k47 F d 29 Tryd.f29 s_zone_check (a0, a1, ()) = some (r_zone_check.enc (checkG a0 a1)) := by
  refine ⟨200, 6, ?_⟩
  rw [tree_zone_check]
  simp only [r_zone_check, Res.int, checkG]
  cases zone_Check a0 != 0 <;> cases inB a1 576000 5258879999 <;> rfl

theorem local_in {z : Zone} {t : Int} (h : checkG z t = 0) : zone_Check z = 0 ∧ 576000 ≤ t ∧ t ≤ 5258879999 := by
  unfold checkG at h
  cases hz : zone_Check z != 0 with
  | true => rw [hz, cond_true] at h; rw [h] at hz; cases hz
  | false =>
    rw [hz, cond_false] at h
    cases hb : inB t 576000 5258879999 with
    | false => rw [hb] at h; simp at h
    | true => exact ⟨by simpa using hz, inB_iff.1 hb⟩

theorem shift_range {z : Zone} (t : Int) (hs : 0 ≤ z.shift ∧ z.shift ≤ 120) : 0 ≤ shiftG z t ∧ shiftG z t ≤ 120 := by
  unfold shiftG
  cases z.shift == 0
  · cases sumB t (whenG z z.on (yearOf z t)) (whenG z z.off (yearOf z t))
    · simp
    · exact hs
  · simp

theorem run_zone_Local (a0 : Zone) (a1 : Int) : ∃ F d, run k48 F d 17 Tryd.f17 s_zone_Local (a0, a1, ()) = some (r_zone_Local.enc (localG a0 a1)) := by
  refine ⟨200, 6, ?_⟩
  rw [tree_zone_Local]
  unfold localG
  cases hc : checkG a0 a1 != 0 with
  | true => rfl
  | false =>
    obtain ⟨hz, h1, h2⟩ := local_in (show checkG a0 a1 = 0 by simpa using hc)
    obtain ⟨hb, hs, ht, _⟩ := zone_facts hz
    have hr := shift_range (z := a0) a1 hs
    rw [show shiftOk a0 a1 = true by simp only [shiftOk, ht, mid, Bool.true_and, Bool.and_eq_true, decide_eq_true_eq]; omega]
    rw [wrI (n := a1 + a0.base) (by omega), wrI (n := a1 + a0.base + shiftG a0 a1) (by omega), Int.tdiv_eq_ediv_of_nonneg (by omega), Int.tmod_eq_emod_of_nonneg (by omega), wrI (by omega)]
    rfl

theorem local_told {z : Zone} {t : Int} (hz : zone_Check z = 0) (h1 : 576000 ≤ t) (h2 : t ≤ 5258879999) : localG z t = (toldG z t / 1440, toldG z t % 1440, 0) := by
  unfold localG
  rw [show checkG z t = 0 by unfold checkG; rw [hz, inB_true h1 h2]; rfl]
  rfl

theorem inst_row {z : Zone} {d m : Int} (hz : zone_Check z = 0) (h : momOk d m = true) : instG z d m = (rowG z (d * 1440 + m), 0) := by
  have ht := told_ok h
  simp only [toldOk, Bool.and_eq_true, decide_eq_true_eq] at ht
  have hm : 0 ≤ m ∧ m < 1440 := by
    simp only [momOk, Bool.and_eq_true, decide_eq_true_eq] at h
    exact h.2
  unfold rowG
  rw [show (d * 1440 + m) / 1440 = d by omega, show (d * 1440 + m) % 1440 = m by omega]
  unfold instG
  rw [hz, inB_true (n := d) (by omega) (by omega), inB_true (n := m) (by omega) (by omega)]
  rfl

theorem mom_head {z : Zone} {d m : Int} (hz : zone_Check z = 0) (h : momOk d m = true) : momG z d m = (headG z (whereIn (rowG z) 200 (d * 1440 + m)), 0) := by
  unfold momG
  rw [hz, h]
  rfl
end Go.Proofs.YtgfinnhojeghhaaDoor.Px.PxW
