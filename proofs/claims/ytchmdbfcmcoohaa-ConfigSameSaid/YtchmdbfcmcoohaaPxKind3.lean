/- One operation in another order: the same slot. -/
import Derived.Test.YtchmdbfcmcoohaaPxKind2
set_option linter.unusedVariables false
set_option linter.unusedSimpArgs false
namespace Go.Proofs.Ytchmdbfcmcoohaa.Px
open Go Go.RowKit
set_option linter.unusedVariables false
set_option linter.unusedSimpArgs false

section
variable [X : Elts] {cfg : Cfg (X := X)} {ops : List Oper} {hasG : Bool} {s0 : St (X := X)} {S : Nat → St (X := X)}

omit X in
theorem gcs_agree {o : Oper} {tm tm' : List Slot} (h : ∀ g pol og tg, o.guard = some (g, pol) → ops[g]? = some og → og.dst = some tg → tm'[tg]? = tm[tg]?) : gcs ops o tm' = gcs ops o tm := by
  unfold gcs
  cases hg : o.guard with
  | none => rfl
  | some gp =>
    obtain ⟨g, pol⟩ := gp
    simp only [nth_eq]
    cases ho : ops[g]? with
    | none => rfl
    | some og =>
      simp only
      cases hd : og.dst with
      | none => rfl
      | some tg => simp only; rw [boolAt_agree (h g pol og tg hg ho hd)]

theorem core_quiet {cs : List (Nat × Bool)} {o : Oper} {hp hp' : List (Blk (X := X))} {tm tm' : List Slot} {sl : Slot} {h1 : List (Blk (X := X))} (h : Agree o tm tm') (hcs : ∀ c ∈ cs, tm'[c.1]? = tm[c.1]?) (hm : ∀ cs, HpAgree cs o tm hp hp')
    (hk : memOf o.op = some 0 ∨ memOf o.op = some 1) (hc : core cfg o cs hp tm = some (sl, h1)) : h1 = hp ∧ core cfg o cs hp' tm' = some (sl, hp') := by
  have hr := agree_mem h
  unfold core at hc ⊢
  cases hg : o.guard with
  | none => rw [hg] at hc; exact runCore_quiet h (hm _) hk hc
  | some gp =>
    rw [hg] at hc
    simp only at hc ⊢
    rw [pureOp_agree (cfg := cfg) (cs := cs) h (hm cs), holdB_agree hcs]
    cases hpo : pureOp cfg hp tm cs o.op with
    | some r =>
      obtain ⟨ok, v⟩ := r
      rw [hpo] at hc
      simp only at hc ⊢
      cases hb : (or ok (not (holdB tm cs))) with
      | false => rw [hb] at hc; cases hc
      | true => rw [hb, cond_true] at hc; simp only [Option.some.injEq, Prod.mk.injEq] at hc; obtain ⟨rfl, rfl⟩ := hc; exact ⟨rfl, rfl⟩
    | none =>
      rw [hpo] at hc
      simp only at hc ⊢
      have key : (cond (holdB tm cs) (runCore cfg cs o.op hp tm) (some (.opt cs (.bool false), hp))) = some (sl, h1) → h1 = hp ∧ (cond (holdB tm cs) (runCore cfg cs o.op hp' tm') (some (.opt cs (.bool false), hp'))) = some (sl, hp') := by
        intro hc
        cases hb : holdB tm cs with
        | true => rw [hb, cond_true] at hc; exact runCore_quiet h (hm _) hk hc
        | false => rw [hb, cond_false] at hc; simp only [Option.some.injEq, Prod.mk.injEq] at hc; obtain ⟨rfl, rfl⟩ := hc; exact ⟨rfl, rfl⟩
      cases hop : o.op
      case pick c a b =>
        rw [hop] at hc hr key
        simp only at hc ⊢
        have hv := pickV_agree (cs := cs) (c := c) (a := a) (b := b) (tm := tm) (tm' := tm') (fun t ht => hr t (by simp [Op.operands]; exact ht))
        rw [hv]
        cases hpv : pickV tm cs c a b with
        | some v => rw [hpv] at hc; simp only [Option.some.injEq, Prod.mk.injEq] at hc; obtain ⟨rfl, rfl⟩ := hc; exact ⟨rfl, rfl⟩
        | none => rw [hpv] at hc; exact key hc
      all_goals
        rw [hop] at hc key
        exact key hc

theorem core_call {cs : List (Nat × Bool)} {o : Oper} {hp : List (Blk (X := X))} {tm tm' : List Slot} (h : Agree o tm tm') (hcs : ∀ c ∈ cs, tm'[c.1]? = tm[c.1]?) (hk : memOf o.op = some 2) : core cfg o cs hp tm' = core cfg o cs hp tm := by
  have e1 : ∀ cs, pureOp cfg hp tm' cs o.op = pureOp cfg hp tm cs o.op := fun cs => pureOp_agree h (.inr (.inl rfl))
  have e2 : ∀ cs, effOp cfg hp tm' cs o.op = effOp cfg hp tm cs o.op := fun cs => effCall_agree h (.inr (.inr hk))
  have e3 : ∀ cs, runCore cfg cs o.op hp tm' = runCore cfg cs o.op hp tm := by
    intro cs
    have e2' := e2 cs
    unfold runCore
    rw [e1 cs]
    cases hop : o.op <;> rw [hop] at hk <;> simp [memOf] at hk
    rw [hop] at e2'
    simp only [e2']
  unfold core
  simp only [e1, e3, holdB_agree hcs]
  cases hop : o.op <;> rw [hop] at hk <;> simp [memOf] at hk
end
end Go.Proofs.Ytchmdbfcmcoohaa.Px
