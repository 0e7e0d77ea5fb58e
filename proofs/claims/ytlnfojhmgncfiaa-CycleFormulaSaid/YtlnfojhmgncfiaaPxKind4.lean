/- The states of the text's order, and what stands in their slots. -/
import Derived.Test.YtlnfojhmgncfiaaPxKind3
set_option linter.unusedVariables false
set_option linter.unusedSimpArgs false
namespace Go.Proofs.Ytlnfojhmgncfiaa.Px
open Go Go.RowKit
set_option linter.unusedVariables false
set_option linter.unusedSimpArgs false

theorem Anc.trans {ops : List Oper} {i j k : Nat} (h : Anc ops i j) (h2 : Anc ops j k) : Anc ops i k := by
  induction h with
  | edge h he => exact .step h he h2
  | step h he _ ih => exact .step h he (ih h2)

section
variable [X : Elts] {cfg : Cfg (X := X)} {ops : List Oper} {hasG : Bool} {s0 : St (X := X)} {S : Nat → St (X := X)}

theorem GK.lt (hk : GK ops s0) {i j : Nat} (h : Anc ops i j) : j < i := by
  induction h with
  | edge h he => exact hk.back _ _ _ h he
  | step h he _ ih => exact Nat.lt_trans ih (hk.back _ _ _ h he)

structure RunG (cfg : Cfg (X := X)) (ops : List Oper) (hasG : Bool) (s0 : St (X := X)) (S : Nat → St (X := X)) : Prop where
  begin : S 0 = s0
  step : ∀ (k : Nat) (o : Oper), ops[k]? = some o → stepO cfg ops hasG o (S k) = some (S (k + 1))

theorem RunG.at (hr : RunG cfg ops hasG s0 S) {k : Nat} {o : Oper} (ho : ops[k]? = some o) : ∃ cs sl, gcs ops o (S k).tm = some cs ∧ core cfg o cs (S k).hp (S k).tm = some (sl, (S (k + 1)).hp) ∧
    (S (k + 1)).tm = (putS (S k) o.dst sl).tm ∧ ∀ d, o.dst = some d → (hasG = true → noUse d (sl :: (S k).tm) = true) ∧ (hasG = false → ∀ cs v, sl ≠ .opt cs v) := by
  have := hr.step k o ho
  rw [stepO_core] at this
  cases hg : gcs ops o (S k).tm with
  | none => rw [hg] at this; cases this
  | some cs =>
    rw [hg] at this
    simp only at this
    cases hc : core cfg o cs (S k).hp (S k).tm with
    | none => rw [hc] at this; cases this
    | some r =>
      obtain ⟨sl, h⟩ := r
      rw [hc] at this
      obtain ⟨h1, h2⟩ := put0_shape this
      refine ⟨cs, sl, rfl, ?_, ?_, h2⟩
      · rw [hc, h1]
        unfold putS
        cases o.dst <;> rfl
      · rw [h1]
        unfold putS
        cases o.dst <;> rfl

theorem RunG.len (hr : RunG cfg ops hasG s0 S) : ∀ k, k ≤ ops.length → (S k).tm.length = s0.tm.length
  | 0, _ => by rw [hr.begin]
  | k + 1, h => by
    obtain ⟨cs, sl, _, _, h3, _⟩ := hr.at (List.getElem?_eq_getElem (show k < ops.length by omega))
    rw [h3, ← hr.len k (by omega)]
    unfold putS
    split <;> simp [setN_eq]

theorem RunG.other (hr : RunG cfg ops hasG s0 S) {k t : Nat} {o : Oper} (ho : ops[k]? = some o) (ht : o.dst ≠ some t) : (S (k + 1)).tm[t]? = (S k).tm[t]? := by
  obtain ⟨cs, sl, _, _, h3, _⟩ := hr.at ho
  rw [h3]
  unfold putS
  split
  · rename_i d hd
    simp only [setN_eq]
    rw [List.getElem?_set_ne (fun e => ht (by rw [hd, e]))]
  · rfl

theorem RunG.between (hr : RunG cfg ops hasG s0 S) {t i : Nat} : ∀ j, i ≤ j → j ≤ ops.length → (∀ k o, i ≤ k → k < j → ops[k]? = some o → o.dst ≠ some t) → (S j).tm[t]? = (S i).tm[t]?
  | 0, hij, _, _ => by rw [show i = 0 by omega]
  | j + 1, hij, hj, h => by
    by_cases e : i = j + 1
    · rw [e]
    · have hlt : j < ops.length := by omega
      rw [hr.other (List.getElem?_eq_getElem hlt) (h j ops[j] (by omega) (by omega) (List.getElem?_eq_getElem hlt))]
      exact hr.between j (by omega) (by omega) (fun k o h1 h2 h3 => h k o h1 (by omega) h3)

theorem RunG.written (hr : RunG cfg ops hasG s0 S) (hk : GK ops s0) {k t j : Nat} {o : Oper} (ho : ops[k]? = some o) (hd : o.dst = some t) (hkj : k < j) (hj : j ≤ ops.length) : (S j).tm[t]? = (S (k + 1)).tm[t]? :=
  hr.between j (by omega) hj (fun k' o' h1 h2 h3 e => hk.one k' k o' o t h3 ho (by omega) hd e)

theorem RunG.unwritten (hr : RunG cfg ops hasG s0 S) {t j : Nat} (hj : j ≤ ops.length) (h : ∀ k o, k < j → ops[k]? = some o → o.dst ≠ some t) : (S j).tm[t]? = s0.tm[t]? := by
  rw [hr.between j (i := 0) (Nat.zero_le _) hj (fun k o _ h2 h3 => h k o h2 h3), hr.begin]
end
end Go.Proofs.Ytlnfojhmgncfiaa.Px
