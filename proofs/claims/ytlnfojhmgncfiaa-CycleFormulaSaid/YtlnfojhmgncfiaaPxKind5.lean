/- Under whose guard a slot stands. -/
import Derived.Test.YtlnfojhmgncfiaaPxKind4
set_option linter.unusedVariables false
set_option linter.unusedSimpArgs false
namespace Go.Proofs.Ytlnfojhmgncfiaa.Px
open Go Go.RowKit
set_option linter.unusedVariables false
set_option linter.unusedSimpArgs false

section
variable [X : Elts] {cfg : Cfg (X := X)} {ops : List Oper} {hasG : Bool} {s0 : St (X := X)} {S : Nat → St (X := X)}

theorem runCore_opt {cs ds : List (Nat × Bool)} {op : Op} {hp h : List (Blk (X := X))} {tm : List Slot} {v : AV} (he : runCore cfg cs op hp tm = some (.opt ds v, h)) : False := by
  unfold runCore at he
  split at he
  · rename_i ok v hp'
    cases ok with
    | false => cases he
    | true => simp at he
  · split at he
    · split at he
      · simp at he
      · split at he
        · split at he
          · rename_i ds g hb
            cases hds : ds.all (covers cs) with
            | false => rw [hds] at he; cases he
            | true =>
              rw [hds, cond_true] at he
              split at he
              · simp at he
              · cases he
          · cases he
        · cases he
    · split at he
      · rename_i ok v h' he'
        cases ok <;> simp at he
      · rename_i ok h' he'
        cases ok <;> simp at he
      · cases he

theorem core_opt {o : Oper} {cs ds : List (Nat × Bool)} {hp h : List (Blk (X := X))} {tm : List Slot} {v : AV} (he : core cfg o cs hp tm = some (.opt ds v, h)) : ds = cs := by
  unfold core at he
  split at he
  · exact (runCore_opt he).elim
  · split at he
    · rename_i ok v hp'
      cases hc : (or ok (not (holdB tm cs))) with
      | false => rw [hc] at he; cases he
      | true => rw [hc, cond_true] at he; simp only [Option.some.injEq, Prod.mk.injEq, Slot.opt.injEq] at he; exact he.1.1.symm
    · split at he
      · split at he
        · simp only [Option.some.injEq, Prod.mk.injEq, Slot.opt.injEq] at he; exact he.1.1.symm
        · cases hc : holdB tm cs with
          | true => rw [hc, cond_true] at he; exact (runCore_opt he).elim
          | false => rw [hc, cond_false] at he; simp only [Option.some.injEq, Prod.mk.injEq, Slot.opt.injEq] at he; exact he.1.1.symm
      · cases hc : holdB tm cs with
        | true => rw [hc, cond_true] at he; exact (runCore_opt he).elim
        | false => rw [hc, cond_false] at he; simp only [Option.some.injEq, Prod.mk.injEq, Slot.opt.injEq] at he; exact he.1.1.symm

/-- What stands in a slot behind its writer. -/
theorem RunG.slot (hr : RunG cfg ops hasG s0 S) {g tg : Nat} {og : Oper} {x : Slot} (ho : ops[g]? = some og) (hd : og.dst = some tg) (hx : (S (g + 1)).tm[tg]? = some x) :
    ∃ cs, gcs ops og (S g).tm = some cs ∧ core cfg og cs (S g).hp (S g).tm = some (x, (S (g + 1)).hp) := by
  obtain ⟨cs, sl, h1, h2, h3, _⟩ := hr.at ho
  rw [h3, hd] at hx
  simp only [putS, setN_eq] at hx
  by_cases hl : tg < (S g).tm.length
  · rw [List.getElem?_set_self hl] at hx
    simp only [Option.some.injEq] at hx
    subst hx
    exact ⟨cs, h1, h2⟩
  · rw [List.getElem?_eq_none (by rw [List.length_set]; omega)] at hx
    cases hx

/-- The conditions of an operation stand behind it. -/
theorem RunG.conds (hr : RunG cfg ops hasG s0 S) (hk : GK ops s0) : ∀ (j : Nat) (o : Oper) (cs : List (Nat × Bool)), ops[j]? = some o → gcs ops o (S j).tm = some cs → ∀ c ∈ cs, ∃ g og, Anc ops j g ∧ ops[g]? = some og ∧ og.dst = some c.1 := by
  intro j
  induction j using Nat.strongRecOn with
  | _ j ih =>
    intro o cs ho hg c hc
    have hlen : j < ops.length := (List.getElem?_eq_some_iff.1 ho).1
    unfold gcs at hg
    split at hg
    · simp only [Option.some.injEq] at hg; subst hg; cases hc
    · rename_i g pol hgd
      simp only [nth_eq] at hg
      split at hg
      · rename_i og hog
        split at hg
        · rename_i tg htg
          split at hg
          · rename_i ds b hb
            simp only [Option.some.injEq] at hg
            subst hg
            have hanc := hk.guard j o g pol ho hgd
            have hlt := hk.lt hanc
            rcases List.mem_append.1 hc with hc | hc
            · simp only [boolAt, nth_eq] at hb
              split at hb
              · simp only [Option.some.injEq, Prod.mk.injEq] at hb; rw [← hb.1] at hc; cases hc
              · rename_i cs' b' hs
                simp only [Option.some.injEq, Prod.mk.injEq] at hb
                obtain ⟨rfl, rfl⟩ := hb
                rw [hr.written hk hog htg hlt (by omega)] at hs
                obtain ⟨csg, h1, h2⟩ := hr.slot hog htg hs
                have := core_opt h2
                subst this
                obtain ⟨g', og', a1, a2, a3⟩ := ih g hlt og _ hog h1 c hc
                exact ⟨g', og', hanc.trans a1, a2, a3⟩
              · cases hb
            · simp only [List.mem_singleton] at hc
              subst hc
              exact ⟨g, og, hanc, hog, htg⟩
          · cases hg
        · cases hg
      · cases hg
end
end Go.Proofs.Ytlnfojhmgncfiaa.Px
