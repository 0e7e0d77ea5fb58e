/- The states of the text's order, of a region with guards and calls. -/
import Derived.Test.YtlnfojhmgncfiaaPxKind
set_option linter.unusedVariables false
set_option linter.unusedSimpArgs false
namespace Go.Proofs.Ytlnfojhmgncfiaa.Px
open Go Go.RowKit
set_option linter.unusedVariables false
set_option linter.unusedSimpArgs false

section
variable [X : Elts] {cfg : Cfg (X := X)} {ops : List Oper} {hasG : Bool} {s0 : St (X := X)} {S : Nat → St (X := X)}

theorem put0_shape {o : Oper} {sl : Slot} {s s' : St (X := X)} (h : put0 none hasG o sl s some = some s') :
    s' = putS s o.dst sl ∧ (∀ d, o.dst = some d → (hasG = true → noUse d (sl :: s.tm) = true) ∧ (hasG = false → ∀ cs v, sl ≠ .opt cs v)) := by
  unfold put0 at h
  split at h
  · rename_i hd
    simp only [Option.some.injEq] at h
    exact ⟨by rw [hd, ← h]; rfl, fun d e => by rw [hd] at e; cases e⟩
  · rename_i d hd
    split at h
    · cases hn : noUse d (sl :: s.tm) with
      | false => rw [hn] at h; cases h
      | true =>
        rw [hn, cond_true] at h
        simp only [Option.some.injEq] at h
        refine ⟨by rw [hd, ← h]; rfl, fun d' e => ?_⟩
        rw [hd] at e
        simp only [Option.some.injEq] at e
        subst e
        exact ⟨fun _ => hn, fun e => by cases e⟩
    · split at h
      · cases h
      · rename_i hv
        simp only [Option.some.injEq] at h
        exact ⟨by rw [hd, ← h]; rfl, fun d' e => ⟨(fun e => by cases e), fun _ cs v e => hv cs v e⟩⟩

/-- Put back together. -/
theorem put0_mk {o : Oper} {sl : Slot} {s : St (X := X)} (h : ∀ d, o.dst = some d → (hasG = true → noUse d (sl :: s.tm) = true) ∧ (hasG = false → ∀ cs v, sl ≠ .opt cs v)) :
    put0 none hasG o sl s some = some (putS s o.dst sl) := by
  unfold put0 putS
  split
  · rename_i hd; rw [hd]
  · rename_i d hd
    rw [hd]
    obtain ⟨h1, h2⟩ := h d hd
    cases hasG with
    | true => simp only [h1 rfl, cond_true]
    | false =>
      simp only
      split
      · exact absurd rfl (h2 rfl _ _)
      · rfl

/-- Contracts of rows only add. -/
def Adds (cfg : Cfg (X := X)) : Prop := ∀ n con, look cfg.H n = some con → ∀ args hp r, con args hp = some r → hp <+: r.hp

theorem effCall_adds (ha : Adds cfg) (hn : cfg.apn = false) {cs : List (Nat × Bool)} {op : Op} {hp h : List (Blk (X := X))} {tm : List Slot} {ok : Bool} {v : Option AV} (hk : memOf op = some 0 ∨ memOf op = some 1 ∨ memOf op = some 2)
    (he : effOp cfg hp tm cs op = some (ok, v, h)) : hp <+: h := by
  cases op <;> simp [memOf] at hk <;> simp only [effOp] at he <;> try (cases he; done)
  rename_i c
  split at he
  · split at he
    · split at he
      · split at he
        · split at he
          · simp [hn] at he
          · cases he
        · cases he
      · cases he
    · split at he
      · split at he
        · rename_i con hcon
          simp only [Option.map_eq_some_iff, Prod.mk.injEq] at he
          obtain ⟨r, hr, _, _, rfl⟩ := he
          exact ha _ _ hcon _ _ _ hr
        · cases he
      · cases he
    · cases he
  · cases he

theorem runCore_adds (ha : Adds cfg) (hn : cfg.apn = false) {cs : List (Nat × Bool)} {op : Op} {hp h : List (Blk (X := X))} {tm : List Slot} {sl : Slot} (hk : memOf op = some 0 ∨ memOf op = some 1 ∨ memOf op = some 2)
    (he : runCore cfg cs op hp tm = some (sl, h)) : hp <+: h := by
  unfold runCore at he
  split at he
  · rename_i ok v hp'
    cases ok with
    | false => cases he
    | true => simp only [cond_true, Option.some.injEq, Prod.mk.injEq] at he; rw [he.2]; exact List.prefix_refl _
  · split at he
    · split at he
      · simp only [Option.some.injEq, Prod.mk.injEq] at he; rw [he.2]; exact List.prefix_refl _
      · split at he
        · split at he
          · rename_i ds g hb
            cases hds : ds.all (covers cs) with
            | false => rw [hds] at he; cases he
            | true =>
              rw [hds, cond_true] at he
              split at he
              · simp only [Option.some.injEq, Prod.mk.injEq] at he; rw [he.2]; exact List.prefix_refl _
              · cases he
          · cases he
        · cases he
    · split at he
      · rename_i ok v h' he'
        cases ok with
        | false => cases he
        | true => simp only [cond_true, Option.some.injEq, Prod.mk.injEq] at he; rw [← he.2]; exact effCall_adds ha hn hk he'
      · rename_i ok h' he'
        cases ok with
        | false => cases he
        | true => simp only [cond_true, Option.some.injEq, Prod.mk.injEq] at he; rw [← he.2]; exact effCall_adds ha hn hk he'
      · cases he

theorem core_adds (ha : Adds cfg) (hn : cfg.apn = false) {o : Oper} {cs : List (Nat × Bool)} {hp h : List (Blk (X := X))} {tm : List Slot} {sl : Slot} (hk : memOf o.op = some 0 ∨ memOf o.op = some 1 ∨ memOf o.op = some 2)
    (he : core cfg o cs hp tm = some (sl, h)) : hp <+: h := by
  unfold core at he
  split at he
  · exact runCore_adds ha hn hk he
  · split at he
    · rename_i ok v hp'
      cases hc : (or ok (not (holdB tm cs))) with
      | false => rw [hc] at he; cases he
      | true => rw [hc, cond_true] at he; simp only [Option.some.injEq, Prod.mk.injEq] at he; rw [he.2]; exact List.prefix_refl _
    · split at he
      · split at he
        · simp only [Option.some.injEq, Prod.mk.injEq] at he; rw [he.2]; exact List.prefix_refl _
        · cases hc : holdB tm cs with
          | true => rw [hc, cond_true] at he; exact runCore_adds ha hn hk he
          | false => rw [hc, cond_false] at he; simp only [Option.some.injEq, Prod.mk.injEq] at he; rw [he.2]; exact List.prefix_refl _
      · cases hc : holdB tm cs with
        | true => rw [hc, cond_true] at he; exact runCore_adds ha hn hk he
        | false => rw [hc, cond_false] at he; simp only [Option.some.injEq, Prod.mk.injEq] at he; rw [he.2]; exact List.prefix_refl _
end
end Go.Proofs.Ytlnfojhmgncfiaa.Px
