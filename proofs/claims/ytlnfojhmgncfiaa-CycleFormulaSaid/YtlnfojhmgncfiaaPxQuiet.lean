/- The evaluator's quiet operations: whatever it says of one, the model's step does. -/
import Derived.Test.YtlnfojhmgncfiaaPxOps
import Derived.Laws.Tables
set_option linter.unusedVariables false
set_option linter.unusedSimpArgs false
namespace Go.Proofs.Ytlnfojhmgncfiaa.Px
open Go Go.RowKit

section
variable [X : Elts]

omit X in
theorem rds_sound {ρ : List Loc} {tm : List Slot} {a : Act} {cs : List (Nat × Bool)} (hf : FR ρ tm a) (hc : holdB tm cs = true) : ∀ {xs : List Operand} {vs : List AV}, rds tm cs xs = some vs → concL ρ vs = some (xs.map a.eval)
  | [], vs, h => by simp only [rds, Option.some.injEq] at h; subst h; rfl
  | x :: xs, vs, h => by
    simp only [rds] at h
    split at h
    · rename_i v us hv hus
      simp only [Option.some.injEq] at h
      subst h
      exact concL_cons.2 ⟨_, _, rd_sound hf hc hv, rds_sound hf hc hus, rfl⟩
    · cases h

omit X in
theorem parts_sound {ρ : List Loc} {tm : List Slot} {a : Act} {cs : List (Nat × Bool)} (hf : FR ρ tm a) (hc : holdB tm cs = true) : ∀ {ps : List (Nat × Operand)} {vs : List (Nat × AV)}, parts tm cs ps = some vs →
    vs.length = (ps.map fun p => (p.1, a.eval p.2)).length ∧ ∀ (j : Nat) (p : Nat × AV) (q : Nat × Value), vs[j]? = some p → (ps.map fun p => (p.1, a.eval p.2))[j]? = some q → p.1 = q.1 ∧ conc ρ p.2 = some q.2
  | [], vs, h => by simp only [parts, Option.some.injEq] at h; subst h; exact ⟨rfl, fun j p q hp => by simp at hp⟩
  | (i, x) :: ps, vs, h => by
    simp only [parts] at h
    split at h
    · rename_i v us hv hus
      simp only [Option.some.injEq] at h
      subst h
      obtain ⟨hl, hg⟩ := parts_sound hf hc hus
      refine ⟨by simp [hl], fun j p q hp hq => ?_⟩
      cases j with
      | zero =>
        simp only [List.getElem?_cons_zero, Option.some.injEq, List.map_cons] at hp hq
        subst hp; subst hq
        exact ⟨rfl, rd_sound hf hc hv⟩
      | succ j => exact hg j p q (by simpa using hp) (by simpa using hq)
    · cases h

omit X in
theorem fillF_step {flds : List (Nat × Nat × Bool)} (cs : List AV) (i : Nat) (v : AV) (l : List (Nat × AV)) (r : List AV) (h : fillF flds cs ((i, v) :: l) = some r) :
    ∃ o n, (flds.map fun x => (x.1, x.2.1))[i]? = some (o, n) ∧ (cellsOf v).length = n ∧ o + n ≤ cs.length ∧ Tupless v ∧ fillF flds (putPart cs o (cellsOf v)) l = some r := by
  simp only [fillF, nth_eq] at h
  split at h
  · rename_i o n g hi
    cases hb : (and (Nat.ble 1 n) (and (Nat.beq (cellsOf v).length n) (Nat.ble (o + n) cs.length))) with
    | false => rw [hb] at h; cases h
    | true =>
      rw [hb] at h
      simp only [Bool.and_eq_true] at hb
      obtain ⟨b1, b2, b3⟩ := hb
      have hn := Nat.eq_of_beq_eq_true b2
      have hn1 := Nat.le_of_ble_eq_true b1
      refine ⟨o, n, by simp [hi], hn, Nat.le_of_ble_eq_true b3, fun vs e => ?_, h⟩
      subst e
      simp [cellsOf] at hn
      omega
  · cases h

omit X in
theorem fillA_step {esz : Nat} (cs : List AV) (i : Nat) (v : AV) (l : List (Nat × AV)) (r : List AV) (h : fillA esz cs ((i, v) :: l) = some r) :
    ∃ o n, (fun i => some (i * esz, esz)) i = some (o, n) ∧ (cellsOf v).length = n ∧ o + n ≤ cs.length ∧ Tupless v ∧ fillA esz (putPart cs o (cellsOf v)) l = some r := by
  simp only [fillA] at h
  cases hb : (and (Nat.ble 1 esz) (and (Nat.beq (cellsOf v).length esz) (Nat.ble (i * esz + esz) cs.length))) with
  | false => rw [hb] at h; cases h
  | true =>
    rw [hb] at h
    simp only [Bool.and_eq_true] at hb
    obtain ⟨b1, b2, b3⟩ := hb
    have hn := Nat.eq_of_beq_eq_true b2
    have hn1 := Nat.le_of_ble_eq_true b1
    refine ⟨_, _, rfl, hn, Nat.le_of_ble_eq_true b3, fun vs e => ?_, h⟩
    subst e
    simp [cellsOf] at hn
    omega

omit X in
theorem minInts_sound {P : Program} {w : World} {ρ : List Loc} {k : IntKind} : ∀ {l : List AV} {xs : List Value} {a n : Int}, minInts k a l = some n → concL ρ l = some xs → (xs.foldlM Builtin.min2 (.int k a)).run P w = .ok (.int k n) w
  | [], xs, a, n, h, hc => by simp [concL] at hc; subst hc; simp [minInts] at h; subst h; simp
  | v :: l, xs, a, n, h, hc => by
    obtain ⟨y, ys, hy, hys, rfl⟩ := concL_cons.1 hc
    cases v <;> simp only [minInts] at h <;> try (cases h; done)
    rename_i k' b
    cases hk : kEq k k' with
    | false => rw [hk] at h; cases h
    | true =>
      rw [hk] at h
      simp only [conc, Option.some.injEq] at hy
      subst hy
      have hb : (cond (decide (b < a)) b a) = if b < a then b else a := by by_cases e : b < a <;> simp [e]
      rw [hb] at h
      simp only [List.foldlM_cons, Builtin.min2, Sem.run_bind, Sem.run_pure, Result.andThen_ok]
      exact minInts_sound h hys

omit X in
theorem maxInts_sound {P : Program} {w : World} {ρ : List Loc} {k : IntKind} : ∀ {l : List AV} {xs : List Value} {a n : Int}, maxInts k a l = some n → concL ρ l = some xs → (xs.foldlM Builtin.max2 (.int k a)).run P w = .ok (.int k n) w
  | [], xs, a, n, h, hc => by simp [concL] at hc; subst hc; simp [maxInts] at h; subst h; simp
  | v :: l, xs, a, n, h, hc => by
    obtain ⟨y, ys, hy, hys, rfl⟩ := concL_cons.1 hc
    cases v <;> simp only [maxInts] at h <;> try (cases h; done)
    rename_i k' b
    cases hk : kEq k k' with
    | false => rw [hk] at h; cases h
    | true =>
      rw [hk] at h
      simp only [conc, Option.some.injEq] at hy
      subst hy
      have hb : (cond (decide (b > a)) b a) = if b > a then b else a := by by_cases e : b > a <;> simp [e]
      rw [hb] at h
      simp only [List.foldlM_cons, Builtin.max2, Sem.run_bind, Sem.run_pure, Result.andThen_ok]
      exact maxInts_sound h hys
end
end Go.Proofs.Ytlnfojhmgncfiaa.Px
