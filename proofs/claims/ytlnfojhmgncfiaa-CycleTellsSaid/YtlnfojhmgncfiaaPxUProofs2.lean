/- A car's round: it goes on just so. -/
import Derived.Test.YtlnfojhmgncfiaaPxUProofs
import Derived.Test.YtlnfojhmgncfiaaPxSpecCycle
set_option linter.unusedVariables false
set_option linter.unusedSimpArgs false
namespace Go.Proofs.Ytlnfojhmgncfiaa.Px.PxU
open Go Go.Proofs
set_option linter.unusedSimpArgs false
set_option linter.unusedVariables false

theorem legAt_floors {g : Gear} {p : Plan} (h2 : 2 ≤ p.stops.length) (hr : chkR g.floors none p.stops = true) (i : Nat) : 0 ≤ legAt (rowP p) i ∧ legAt (rowP p) i ≤ g.floors - 1 := by
  have hl : 0 < (rowP p).length := by unfold rowP; rw [rowL_length h2]; omega
  have := getD_mem (P := fun x => 0 ≤ x ∧ x < g.floors) (fun x hx => chkR_all hr x (rowL_mem hx)) (legAt_lt hl i)
  have h : 0 ≤ legAt (rowP p) i ∧ legAt (rowP p) i < g.floors := this
  omega

theorem lenP_bounds {g : Gear} {p : Plan} (hG : gearB g = true) (h2 : 2 ≤ p.stops.length) (h70 : p.stops.length ≤ 70) (hr : chkR g.floors none p.stops = true) : lenP g p ≤ 100000 := by
  obtain ⟨s1, s2, s3, s4⟩ := stopG_pos hG
  have hfl : g.floors ≤ 64 := by simp only [gearB_iff] at hG; omega
  have hall := chkR_all hr
  have hl := getD_mem (P := fun x => 0 ≤ x ∧ x < g.floors) hall (show p.stops.length - 1 < p.stops.length by omega)
  have hf := getD_mem (P := fun x => 0 ≤ x ∧ x < g.floors) hall (show 0 < p.stops.length by omega)
  unfold lenP lastS firstS
  generalize p.stops.getD (p.stops.length - 1) 0 = la at *
  generalize p.stops.getD 0 0 = fi at *
  generalize stopG g = st at *
  generalize g.times.travel = tr at *
  have b2 : (2 * ((p.stops.length : Nat) : Int) - 2) * st ≤ 140 * 480 := Int.mul_le_mul (by omega) s2 (by omega) (by omega)
  have b3 : 2 * (la - fi) * tr ≤ 128 * 60 := by
    have : 2 * (la - fi) * tr ≤ 128 * tr := Int.mul_le_mul_of_nonneg_right (by omega) (by omega)
    omega
  omega

theorem tmod_next {n x : Int} (h0 : 0 ≤ x) (h1 : x < n) : Int.tmod (x + 1) n = if x + 1 < n then x + 1 else 0 := by
  rw [Int.tmod_eq_emod_of_nonneg (by omega)]
  split
  · exact Int.emod_eq_of_lt (by omega) (by omega)
  · have : x + 1 = n := by omega
    rw [this, Int.emod_self]

theorem run_newellaw22_CycleGoes (a0 : Gear) (a1 : Plan) (a2 : Tick) : ∃ F d, run k47 F d 8 Try.f8 s_newellaw22_CycleGoes (a0, a1, a2, ()) = some (AV.bool true) := by
  refine ⟨200, 6, ?_⟩
  rw [tree_newellaw22_CycleGoes]
  generalize hgg : ({ floors := a0.floors, times := a0.times, dwell := a0.dwell, most := 0 } : Gear) = g
  have hm : g.most = 0 := by rw [← hgg]
  clear hgg
  cases hf : few22 a1 with
  | false => simp only [beqn, ble0, Bool.true_and, Bool.and_true, Bool.and_self, Bool.not_true, Bool.not_false, cond_true, cond_false, Bool.true_or, Bool.or_true]
  | true =>
    have hgp : smallGP g a1 = true := hf
    have hgp3 : ∀ n, smallGP3 g a1 n = true := fun _ => hf
    have hs : smallP a1 = true := hf
    simp only [beqn, ble0, hgp, hgp3, beq_self_eq_true, Bool.true_and, Bool.and_true, Bool.and_self, Bool.not_true, Bool.not_false, cond_true, cond_false, Bool.true_or, Bool.or_true, errOf_ne _ 220 (by decide)]
    cases hp : planB g a1 with
    | false => rfl
    | true =>
      simp only [Bool.not_true, cond_true, cond_false]
      by_cases hin : 0 ≤ a2.phase ∧ a2.phase < lenP g a1
      · obtain ⟨hG, h2, h70, hL, hpl, p1, p2, hall, hlo⟩ := plan_facts hs hp
        have hr : chkR g.floors none a1.stops = true := by rw [planB_iff] at hp; exact hp.2.2.2.2.2.1
        obtain ⟨r1, r2, r3, hgo⟩ := goes_phase hG hp h2 hr (legAt_floors h2 hr) hin.1 hin.2
        have hb := lenP_bounds hG h2 h70 hr
        have e1 : decide (a2.phase < 0) = false := by simp; omega
        have e2 : decide (a2.phase ≥ lenP g a1) = false := by simp; omega
        have e3 : (lenP g a1 != 0) = true := by rw [bne_iff_ne]; omega
        have e4 : IntKind.wrap IntKind.i64 (a2.phase + 1) = a2.phase + 1 := IntWalk.i64_in _ (by omega)
        have e5 := tmod_next hin.1 hin.2
        simp only [e1, e2, e3, e4, e5, hgp3, Bool.and_true, Bool.true_and, cond_true, cond_false]
        rw [r1, r2, r3]
        generalize (if a2.phase + 1 < lenP g a1 then a2.phase + 1 else 0) = ph' at *
        generalize (cycle_At g a1 a2.phase).1 = c at *
        generalize (cycle_Cmd g a1 a2.phase).1 = cmd at *
        generalize (cycle_At g a1 ph').1 = c' at *
        obtain ⟨ok, next, safe, idle, held⟩ := hgo
        have hst := stepC_held (g := g) (c := c) (cmd := cmd) (held := a2.held) (.inr (by rw [hm, held]; decide))
        have hok : stepOk g c { cmd := cmd, held := a2.held, fault := false } = true := ok
        have hcn : tickC g (begunC g c cmd) a2.held = c' := by
          rw [← next, ← hst]
          rfl
        have ok' := ok
        simp only [stepOk, Bool.and_eq_true] at ok'
        rw [hok, hcn, ok'.1, ok'.2]
        have safe' : (begunC g c cmd).dir = 0 ∨ c.door.phase = 0 := safe
        simp only [cond_true, errOf, beq_self_eq_true, Bool.and_self]
        generalize (begunC g c cmd).dir = md at *
        generalize c.door.phase = dp at *
        clear hok hcn hst next ok ok' safe
        rcases safe' with h | h <;> rcases idle with h' | h' <;> simp [h, h']
      · have : (bif decide (a2.phase < 0) then true else decide (a2.phase ≥ lenP g a1)) = true := by
          cases h : decide (a2.phase < 0)
          · simp only [decide_eq_false_iff_not] at h
            simp
            omega
          · rfl
        rw [this]
        rfl
end Go.Proofs.Ytlnfojhmgncfiaa.Px.PxU
