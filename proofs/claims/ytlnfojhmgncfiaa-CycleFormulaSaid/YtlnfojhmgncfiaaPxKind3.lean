/- One operation in another order: the same slot. -/
import Derived.Test.YtlnfojhmgncfiaaPxKind2
set_option linter.unusedVariables false
set_option linter.unusedSimpArgs false
namespace Go.Proofs.Ytlnfojhmgncfiaa.Px
open Go Go.RowKit
set_option linter.unusedVariables false
set_option linter.unusedSimpArgs false

section
variable [X : Elts] {cfg : Cfg (X := X)} {ops : List Oper} {hasG : Bool} {s0 : St (X := X)} {S : Nat → St (X := X)}

omit X in
theorem gcs_agree {o : Oper} {tm tm' : List Slot} (h : ∀ g pol og tg, o.guard = some (g, pol) → ops[g]? = some og → og.dst = some tg → tm'[tg]? = tm[tg]?) : gcs ops o tm' = gcs ops o tm := by
  unfold gcs
  cases hg : o.guard with
  | none => rfl
  | some gp =>
    obtain ⟨g, pol⟩ := gp
    simp only [nth_eq]
    cases ho : ops[g]? with
    | none => rfl
    | some og =>
      simp only
      cases hd : og.dst with
      | none => rfl
      | some tg => simp only; rw [boolAt_agree (h g pol og tg hg ho hd)]

theorem core_quiet {cs : List (Nat × Bool)} {o : Oper} {hp hp' : List (Blk (X := X))} {tm tm' : List Slot} {sl : Slot} {h1 : List (Blk (X := X))} (h : Agree o tm tm') (hcs : ∀ c ∈ cs, tm'[c.1]? = tm[c.1]?) (hm : ∀ cs, HpAgree cs o tm hp hp')
    (hk : memOf o.op = some 0 ∨ memOf o.op = some 1) (hc : core cfg o cs hp tm = some (sl, h1)) : h1 = hp ∧ core cfg o cs hp' tm' = some (sl, hp') := by
  have hr := agree_mem h
  unfold core at hc ⊢
  cases hg : o.guard with
  | none => rw [hg] at hc; exact runCore_quiet h (hm _) hk hc
  | some gp =>
    rw [hg] at hc
    simp only at hc ⊢
    rw [pureOp_agree (cfg := cfg) (cs := cs) h (hm cs), holdB_agree hcs]
    cases hpo : pureOp cfg hp tm cs o.op with
    | some r =>
      obtain ⟨ok, v⟩ := r
      rw [hpo] at hc
      simp only at hc ⊢
      cases hb : (or ok (not (holdB tm cs))) with
      | false => rw [hb] at hc; cases hc
      | true => rw [hb, cond_true] at hc; simp only [Option.some.injEq, Prod.mk.injEq] at hc; obtain ⟨rfl, rfl⟩ := hc; exact ⟨rfl, rfl⟩
    | none =>
      rw [hpo] at hc
      simp only at hc ⊢
      have key : (cond (holdB tm cs) (runCore cfg cs o.op hp tm) (some (.opt cs (.bool false), hp))) = some (sl, h1) → h1 = hp ∧ (cond (holdB tm cs) (runCore cfg cs o.op hp' tm') (some (.opt cs (.bool false), hp'))) = some (sl, hp') := by
        intro hc
        cases hb : holdB tm cs with
        | true => rw [hb, cond_true] at hc; exact runCore_quiet h (hm _) hk hc
        | false => rw [hb, cond_false] at hc; simp only [Option.some.injEq, Prod.mk.injEq] at hc; obtain ⟨rfl, rfl⟩ := hc; exact ⟨rfl, rfl⟩
      cases hop : o.op
      case pick c a b =>
        rw [hop] at hc hr key
        simp only at hc ⊢
        have hv := pickV_agree (cs := cs) (c := c) (a := a) (b := b) (tm := tm) (tm' := tm') (fun t ht => hr t (by simp [Op.operands]; exact ht))
        rw [hv]
        cases hpv : pickV tm cs c a b with
        | some v => rw [hpv] at hc; simp only [Option.some.injEq, Prod.mk.injEq] at hc; obtain ⟨rfl, rfl⟩ := hc; exact ⟨rfl, rfl⟩
        | none => rw [hpv] at hc; exact key hc
      all_goals
        rw [hop] at hc key
        exact key hc

/-- Is a place's block there? -/
def Sees (hp : List (Blk (X := X))) : AV → Prop
  | .ptr k _ => k < hp.length
  | .pel k _ _ _ => k < hp.length ∧ deref hp k < hp.length
  | _ => True

theorem loadAt_pre {hpA hpB : List (Blk (X := X))} (hAB : hpA <+: hpB ∨ hpB <+: hpA) {g : Bool} {n : Nat} {v : AV} {r : Bool × AV} (h : loadAt g n hpA v = some r) (hs : Sees hpB v) : loadAt g n hpB v = some r := by
  have same : ∀ k b, hpA[k]? = some b → k < hpB.length → hpB[k]? = some b := by
    intro k b hk hl
    rcases hAB with ⟨t, rfl⟩ | ⟨t, rfl⟩
    · rw [List.getElem?_append_left (List.getElem?_eq_some_iff.1 hk).1]; exact hk
    · rw [List.getElem?_append_left hl] at hk; exact hk
  cases v with
  | ptr k o =>
    simp only [loadAt, nth_eq] at h ⊢
    cases hk : hpA[k]? with
    | none => rw [hk] at h; cases h
    | some b => rw [hk] at h; rw [same k b hk hs]; exact h
  | pel k i wd o =>
    have hd : deref hpB k = deref hpA k := by
      unfold deref
      rw [nth_eq, nth_eq]
      cases hk : hpA[k]? with
      | some b => rw [same k b hk hs.1]
      | none =>
        have : loadAt (X := X) g n hpA (.pel k i wd o) = none := by
          simp only [loadAt, deref, nth_eq, hk]
        rw [this] at h; cases h
    have hs2 := hs.2
    simp only [loadAt, nth_eq] at h ⊢
    rw [hd] at hs2 ⊢
    cases hk : hpA[deref hpA k]? with
    | none => rw [hk] at h; cases h
    | some b => rw [hk] at h; rw [same _ b hk hs2]; exact h
  | _ => simp [loadAt] at h

theorem core_load {o : Oper} {t : TypeId} {x : Operand} {cs : List (Nat × Bool)} {hp hp' h1 : List (Blk (X := X))} {tm tm' : List Slot} {sl : Slot} (hop : o.op = .load t x) (hgd : o.guard = none) (hrd : rd tm' [] x = rd tm [] x) (hAB : hp <+: hp' ∨ hp' <+: hp)
    (hs : ∀ v, rd tm [] x = some v → Sees hp' v) (hc : core cfg o cs hp tm = some (sl, h1)) : h1 = hp ∧ core cfg o cs hp' tm' = some (sl, hp') := by
  have key : pureOp cfg hp tm [] (.load t x) = none → False := by
    intro hn
    unfold core at hc
    rw [hgd] at hc
    simp only [hop, runCore, hn, effOp] at hc
    cases hc
  cases hp0 : pureOp cfg hp tm [] (.load t x) with
  | none => exact (key hp0).elim
  | some r =>
    obtain ⟨ok, v⟩ := r
    have hp1 : pureOp cfg hp' tm' [] (.load t x) = some (ok, v) := by
      simp only [pureOp] at hp0 ⊢
      rw [hrd]
      split at hp0
      · rename_i u i hu hi
        exact loadAt_pre hAB hp0 (hs u hu)
      · cases hp0
    unfold core at hc ⊢
    rw [hgd] at hc ⊢
    simp only [hop, runCore, hp0] at hc
    simp only [hop, runCore, hp1]
    cases ok with
    | false => cases hc
    | true =>
      simp only [cond_true, Option.some.injEq, Prod.mk.injEq] at hc ⊢
      obtain ⟨rfl, rfl⟩ := hc
      exact ⟨rfl, rfl, trivial⟩

theorem core_call {cs : List (Nat × Bool)} {o : Oper} {hp : List (Blk (X := X))} {tm tm' : List Slot} (h : Agree o tm tm') (hcs : ∀ c ∈ cs, tm'[c.1]? = tm[c.1]?) (hk : memOf o.op = some 2) : core cfg o cs hp tm' = core cfg o cs hp tm := by
  have e1 : ∀ cs, pureOp cfg hp tm' cs o.op = pureOp cfg hp tm cs o.op := fun cs => pureOp_agree h (.inr (.inl rfl))
  have e2 : ∀ cs, effOp cfg hp tm' cs o.op = effOp cfg hp tm cs o.op := fun cs => effCall_agree h (.inr (.inr hk))
  have e3 : ∀ cs, runCore cfg cs o.op hp tm' = runCore cfg cs o.op hp tm := by
    intro cs
    have e2' := e2 cs
    unfold runCore
    rw [e1 cs]
    cases hop : o.op <;> rw [hop] at hk <;> simp [memOf] at hk
    rw [hop] at e2'
    simp only [e2']
  unfold core
  simp only [e1, e3, holdB_agree hcs]
  cases hop : o.op <;> rw [hop] at hk <;> simp [memOf] at hk
end
end Go.Proofs.Ytlnfojhmgncfiaa.Px
