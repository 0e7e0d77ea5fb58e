/- Regions that draw their order, with calls that make blocks and with guards: one operation as a function of the state. -/
import Derived.Test.YtlnfojhmgncfiaaPxDraw3
set_option linter.unusedVariables false
set_option linter.unusedSimpArgs false
namespace Go.Proofs.Ytlnfojhmgncfiaa.Px
open Go Go.RowKit
set_option linter.unusedVariables false
set_option linter.unusedSimpArgs false

section
variable [X : Elts] {P : Program} {G : World → Prop} {cfg : Cfg (X := X)} {w0 : World} {R : Type} {fail : R} {φ : R → Prop}

/-- One operation, as the evaluator steps over it. -/
def stepO (cfg : Cfg (X := X)) (ops : List Oper) (hasG : Bool) (o : Oper) (s : St (X := X)) : Option (St (X := X)) :=
  opStep cfg none (fun _ _ _ _ => none) ops hasG o s some

theorem put0_par (hf0 : ¬ φ fail) {hasG : Bool} {o : Oper} {v : Slot} {s : St (X := X)} {K : St (X := X) → R} (h : φ (put0 fail hasG o v s K)) : ∃ s', put0 none hasG o v s some = some s' ∧ φ (K s') := by
  unfold put0 at h ⊢
  split at h
  · exact ⟨_, rfl, h⟩
  · split at h
    · cases hn : noUse _ (v :: s.tm) with
      | true => rw [hn] at h; exact ⟨_, rfl, h⟩
      | false => rw [hn] at h; exact absurd h hf0
    · split at h
      · exact absurd h hf0
      · exact ⟨_, rfl, h⟩

theorem runOp_par (hf0 : ¬ φ fail) {hasG : Bool} {cs : List (Nat × Bool)} {o : Oper} {s : St (X := X)} {K : St (X := X) → R} (h : φ (runOp cfg fail (fun _ _ _ _ => fail) hasG cs o s K)) :
    ∃ s', runOp cfg none (fun _ _ _ _ => none) hasG cs o s some = some s' ∧ φ (K s') := by
  rw [runOp_eq] at h
  simp only [runOp_eq]
  unfold runOp0 at h ⊢
  simp only [put1_eq] at h ⊢
  split at h
  · rename_i ok v hp
    cases ok with
    | false => exact absurd h hf0
    | true => exact put0_par hf0 h
  · split at h
    · split at h
      · exact put0_par hf0 h
      · split at h
        · split at h
          · rename_i ds g hb
            cases hds : ds.all (covers cs) with
            | false => rw [hds] at h; exact absurd h hf0
            | true =>
              rw [hds, cond_true] at h
              rw [cond_true]
              cases g with
              | true =>
                rw [cond_true] at h ⊢
                split at h
                · exact put0_par hf0 h
                · exact absurd h hf0
              | false =>
                rw [cond_false] at h ⊢
                split at h
                · exact put0_par hf0 h
                · exact absurd h hf0
          · exact absurd h hf0
        · exact absurd h hf0
    · split at h
      · rename_i ok v hp' he
        cases ok with
        | false => exact absurd h hf0
        | true => exact put0_par hf0 h
      · rename_i ok hp' he
        cases ok with
        | false => exact absurd h hf0
        | true => exact put0_par hf0 h
      · split at h
        · split at h
          · split at h
            · rw [Bool.cond_self] at h; exact absurd h hf0
            · exact absurd h hf0
            · exact absurd h hf0
          · exact absurd h hf0
        · exact absurd h hf0

theorem opStep_par (hf0 : ¬ φ fail) {ops : List Oper} {hasG : Bool} {o : Oper} {s : St (X := X)} {K : St (X := X) → R} (h : φ (opStep cfg fail (fun _ _ _ _ => fail) ops hasG o s K)) :
    ∃ s', stepO cfg ops hasG o s = some s' ∧ φ (K s') := by
  unfold stepO
  unfold opStep at h ⊢
  simp only [put1_eq] at h ⊢
  split at h
  · exact runOp_par hf0 h
  · split at h
    · split at h
      · split at h
        · split at h
          · rename_i ds b hb ok v hp
            cases hc : (or ok (not (holdB s.tm _))) with
            | true => rw [hc] at h; exact put0_par hf0 h
            | false => rw [hc] at h; exact absurd h hf0
          · split at h
            · split at h
              · exact put0_par hf0 h
              · cases hc : holdB s.tm _ with
                | true => rw [hc] at h; exact runOp_par hf0 h
                | false => rw [hc] at h; exact put0_par hf0 h
            · cases hc : holdB s.tm _ with
              | true => rw [hc] at h; exact runOp_par hf0 h
              | false => rw [hc] at h; exact put0_par hf0 h
        · exact absurd h hf0
      · exact absurd h hf0
    · exact absurd h hf0

/-- The states of the text's order. -/
theorem chainO (hf0 : ¬ φ fail) {ops : List Oper} {hasG : Bool} : ∀ (l : List Oper) {s : St (X := X)} {K : St (X := X) → R}, φ (opsGo cfg fail (fun _ _ _ _ => fail) ops hasG l s K) →
    ∃ S : Nat → St (X := X), S 0 = s ∧ (∀ k o, l[k]? = some o → stepO cfg ops hasG o (S k) = some (S (k + 1))) ∧ φ (K (S l.length))
  | [], s, K, h => ⟨fun _ => s, rfl, fun k o hk => by simp at hk, h⟩
  | o :: l, s, K, h => by
    unfold opsGo at h
    obtain ⟨s1, hs1, h1⟩ := opStep_par hf0 h
    obtain ⟨S, hS0, hS, hK⟩ := chainO hf0 l h1
    refine ⟨fun k => match k with
      | 0 => s
      | k + 1 => S k, rfl, fun k o' hk => ?_, hK⟩
    cases k with
    | zero => simp only [List.getElem?_cons_zero, Option.some.injEq] at hk; subst hk; show stepO cfg ops hasG o s = some (S 0); rw [hS0]; exact hs1
    | succ k => exact hS k o' (by simpa using hk)

/-- The model's own step. -/
theorem stepO_wp (hq : EOk P G cfg) (hG : G w0) {ops : Array Oper} {hasG : Bool} {o : Oper} {s s' : St (X := X)} (h : stepO cfg ops.toList hasG o s = some s') {ρ : List Loc} {a : Act} {w : World} {rn : Option Nat}
    (hf : FR ρ s.tm a) (hr : HR w0 ρ s.hp w) (hg : hasG = false → noOpts s.tm) {Q : Exit → Act → World → Prop} :
    if Region.wanted o (yielded ops a.tmps) then o.wpIn (Wd rn) 0 P a w (fun a' w' => ∃ ρ', ρ <+: ρ' ∧ FR ρ' s'.tm a' ∧ HR w0 ρ' s'.hp w' ∧ (hasG = false → noOpts s'.tm)) Q
    else ∃ ρ', ρ <+: ρ' ∧ FR ρ' s'.tm (a.put o.dst undef) ∧ HR w0 ρ' s'.hp w ∧ (hasG = false → noOpts s'.tm) := by
  have := opStep_sound (rn := rn) (P := P) (cfg := cfg) (w0 := w0) (fail := (none : Option (St (X := X)))) (φ := fun r => r = some s') (by simp) hq hG (ci := fun _ _ _ _ => none) (by intro n vs hp K h; exact absurd h (by simp)) (K := some) h hf hr hg (Q := Q)
  split at this
  · rename_i hw
    rw [if_pos hw]
    refine Oper.wpIn_mono (fun a' w' ⟨s1, ρ', h1, h2, h3, h4, h5⟩ => ?_) this
    simp only [Option.some.injEq] at h1
    subst h1
    exact ⟨ρ', h2, h3, h4, h5⟩
  · rename_i hw
    rw [if_neg hw]
    obtain ⟨s1, ρ', h1, h2, h3, h4, h5⟩ := this
    simp only [Option.some.injEq] at h1
    subst h1
    exact ⟨ρ', h2, h3, h4, h5⟩
end
end Go.Proofs.Ytlnfojhmgncfiaa.Px
