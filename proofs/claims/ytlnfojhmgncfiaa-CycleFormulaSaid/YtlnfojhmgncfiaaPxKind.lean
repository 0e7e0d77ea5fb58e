/- Regions with guards, calls in one chain, and loads of what was there before: what is asked of them. -/
import Derived.Test.YtlnfojhmgncfiaaPxCore2
set_option linter.unusedVariables false
set_option linter.unusedSimpArgs false
namespace Go.Proofs.Ytlnfojhmgncfiaa.Px
open Go Go.RowKit
set_option linter.unusedVariables false
set_option linter.unusedSimpArgs false

section
variable [X : Elts] {cfg : Cfg (X := X)}

structure GK (ops : List Oper) (s : St (X := X)) : Prop where
  kind : ∀ (i : Nat) (o : Oper), ops[i]? = some o → memOf o.op = some 0 ∨ memOf o.op = some 1 ∨ memOf o.op = some 2
  back : ∀ (i : Nat) (o : Oper) (j : Nat), ops[i]? = some o → hasE o j = true → j < i
  guard : ∀ (i : Nat) (o : Oper) (g : Nat) (pol : Bool), ops[i]? = some o → o.guard = some (g, pol) → Anc ops i g
  load : ∀ (i : Nat) (o : Oper) (t : TypeId) (x : Operand), ops[i]? = some o → o.op = .load t x → o.guard ≠ none → ∃ tt k q, x = .tmp tt ∧ (∀ (j : Nat) (p : Oper), ops[j]? = some p → p.dst ≠ some tt) ∧ s.tm[tt]? = some (.is (.ptr k q)) ∧ k < s.hp.length
  look : ∀ (i j : Nat) (o p : Oper) (d : Nat), ops[i]? = some o → ops[j]? = some p → p.dst = some d → looksAtT o d = true → Anc ops i j
  one : ∀ (i j : Nat) (o p : Oper) (d : Nat), ops[i]? = some o → ops[j]? = some p → i ≠ j → p.dst = some d → o.dst ≠ some d
  calls : ∀ (i j : Nat) (o p : Oper), ops[i]? = some o → ops[j]? = some p → isCall o = true → isCall p = true → j < i → Anc ops i j

theorem GK.of {ops : List Oper} {s : St (X := X)} (h : kindG ops s (reach ops) = true) : GK ops s := by
  simp only [kindG, List.all_eq_true, Bool.and_eq_true] at h
  have h1 : ∀ (i : Nat) (o : Oper), ops[i]? = some o → oneG ops s (reach ops) i o = true := fun i o ho => (h _ (by have := idx_get ops 0 i o ho; simpa using this)).1
  have h2 : ∀ (i j : Nat) (o p : Oper), ops[i]? = some o → ops[j]? = some p → twoG (reach ops) i o j p = true := fun i j o p ho hp =>
    (h _ (by have := idx_get ops 0 i o ho; simpa using this)).2 (j, p) (by have := idx_get ops 0 j p hp; simpa using this)
  refine ⟨fun i o ho => ?_, fun i o j ho he => ?_, fun i o g pol ho hg => ?_, fun i o t x ho hl hng => ?_, fun i j o p d ho hp hd hlk => ?_, fun i j o p d ho hp hne hd => ?_, fun i j o p ho hp ho2 hp2 hji => ?_⟩
  · have := h1 i o ho
    simp only [oneG, Bool.and_eq_true] at this
    have := this.2.2
    split at this
    · rename_i e; rw [e]; simp [memOf]
    · rename_i e _; exact .inl (by assumption)
    · rename_i e _; exact .inr (.inr (by assumption))
    · cases this
  · have := h1 i o ho
    simp only [oneG, Bool.and_eq_true, List.all_eq_true, Bool.or_eq_true, Bool.not_eq_true', Nat.blt_eq] at this
    simp only [hasE, List.any_eq_true, Bool.and_eq_true] at he
    obtain ⟨e, he1, he2, he3⟩ := he
    have := this.1 e he1
    rw [he2] at this
    rcases this with h | h
    · cases h
    · rwa [Nat.eq_of_beq_eq_true he3] at h
  · have := h1 i o ho
    simp only [oneG, Bool.and_eq_true, hg] at this
    exact isAnc_ok this.2.1
  · have := h1 i o ho
    simp only [oneG, Bool.and_eq_true] at this
    have := this.2.2
    rw [hl] at this
    cases x with
    | tmp tt =>
      have hgd : ung o = false := by
        unfold ung
        cases hg : o.guard with
        | none => exact absurd hg hng
        | some _ => rfl
      simp only [hgd, cond_false] at this
      simp only [Bool.and_eq_true, Bool.not_eq_true', nth_eq] at this
      obtain ⟨hw, hk⟩ := this
      split at hk
      · rename_i k q hs
        refine ⟨tt, k, q, rfl, fun j p hp e => ?_, hs, by simpa using hk⟩
        simp only [wroteBy, List.any_eq_false] at hw
        have := hw p (List.mem_of_getElem? hp)
        rw [e] at this
        simp at this
      · cases hk
    | _ => simp [memOf] at this
  · have := h2 i j o p ho hp
    unfold twoG at this
    cases hij : Nat.beq i j with
    | true =>
      have := Nat.eq_of_beq_eq_true hij
      subst this
      rw [ho] at hp
      simp only [Option.some.injEq] at hp
      subst hp
      simp only [twoG, hij, cond_true, hd, hlk] at *
      simp at this
    | false =>
      rw [hij, cond_false] at this
      simp only [hd, hlk, cond_true, Bool.and_eq_true] at this
      exact isAnc_ok this.1.1
  · have := h2 i j o p ho hp
    unfold twoG at this
    have hij : Nat.beq i j = false := by cases hb : Nat.beq i j with
      | true => exact absurd (Nat.eq_of_beq_eq_true hb) hne
      | false => rfl
    rw [hij, cond_false] at this
    simp only [hd, Bool.and_eq_true] at this
    have := this.1.2
    intro e
    rw [e] at this
    simp at this
  · have := h2 i j o p ho hp
    unfold twoG at this
    have hij : Nat.beq i j = false := by cases hb : Nat.beq i j with
      | true => exact absurd (Nat.eq_of_beq_eq_true hb) (by omega)
      | false => rfl
    rw [hij, cond_false] at this
    simp only [Bool.and_eq_true, ho2, hp2, Bool.true_and, show Nat.blt j i = true by simpa using hji, Bool.and_self, cond_true] at this
    exact isAnc_ok this.2
end
end Go.Proofs.Ytlnfojhmgncfiaa.Px
