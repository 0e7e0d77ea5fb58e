/- When just some operations have been carried out. -/
import Derived.Test.YtlnfojhmgncfiaaPxKind5
set_option linter.unusedVariables false
set_option linter.unusedSimpArgs false
namespace Go.Proofs.Ytlnfojhmgncfiaa.Px
open Go Go.RowKit
set_option linter.unusedVariables false
set_option linter.unusedSimpArgs false

section
variable [X : Elts] {cfg : Cfg (X := X)} {ops : List Oper} {hasG : Bool} {s0 : St (X := X)} {S : Nat → St (X := X)}

omit X in
theorem noUse_of {d : Nat} : ∀ {l : List Slot}, (∀ (t : Nat) cs v, l[t]? = some (.opt cs v) → ∀ c ∈ cs, c.1 ≠ d) → noUse d l = true
  | [], _ => rfl
  | x :: l, h => by
    have ih : noUse d l = true := noUse_of fun t cs v ht => h (t + 1) cs v (by simpa using ht)
    cases x with
    | opt cs v =>
      simp only [noUse, ih, Bool.and_true, List.all_eq_true, Bool.not_eq_true']
      intro c hc
      have := h 0 cs v rfl c hc
      cases hb : Nat.beq c.1 d with
      | true => exact absurd (Nat.eq_of_beq_eq_true hb) this
      | false => rfl
    | _ => simpa only [noUse] using ih

omit X in
theorem noUse_head {d : Nat} {x : Slot} {l : List Slot} (h : noUse d (x :: l) = true) {cs : List (Nat × Bool)} {v : AV} (e : x = .opt cs v) : ∀ c ∈ cs, c.1 ≠ d := by
  subst e
  simp only [noUse, Bool.and_eq_true, List.all_eq_true, Bool.not_eq_true'] at h
  intro c hc e
  have := h.1 c hc
  rw [e] at this
  simp at this

theorem RunG.grow (hr : RunG cfg ops hasG s0 S) (hk : GK ops s0) (ha : Adds cfg) (hn : cfg.apn = false) : ∀ k, k ≤ ops.length → s0.hp <+: (S k).hp
  | 0, _ => by rw [hr.begin]; exact List.prefix_refl _
  | k + 1, h => by
    have ho := List.getElem?_eq_getElem (show k < ops.length by omega)
    obtain ⟨cs, sl, _, h2, _⟩ := hr.at ho
    exact (hr.grow hk ha hn k (by omega)).trans (core_adds ha hn (hk.kind k _ ho) h2)

theorem RunG.grow2 (hr : RunG cfg ops hasG s0 S) (hk : GK ops s0) (ha : Adds cfg) (hn : cfg.apn = false) (i : Nat) : ∀ j, i ≤ j → j ≤ ops.length → (S i).hp <+: (S j).hp
  | 0, hij, _ => by rw [show i = 0 by omega]; exact List.prefix_refl _
  | j + 1, hij, h => by
    by_cases e : i = j + 1
    · rw [e]; exact List.prefix_refl _
    · have ho := List.getElem?_eq_getElem (show j < ops.length by omega)
      obtain ⟨cs, sl, _, h2, _⟩ := hr.at ho
      exact (hr.grow2 hk ha hn i j (by omega) (by omega)).trans (core_adds ha hn (hk.kind j _ ho) h2)

theorem RunG.hp_same (hr : RunG cfg ops hasG s0 S) {k : Nat} {o : Oper} (ho : ops[k]? = some o) (hk : memOf o.op = some 0 ∨ memOf o.op = some 1) : (S (k + 1)).hp = (S k).hp := by
  obtain ⟨cs, sl, _, h2, _⟩ := hr.at ho
  exact (core_quiet (hp' := (S k).hp) (fun _ _ => rfl) (fun _ _ => rfl) (fun _ => .inr (.inl rfl)) hk h2).1

omit X in
theorem isCall_of {o : Oper} : isCall o = true ↔ memOf o.op = some 2 := by
  unfold isCall
  constructor
  · intro h; split at h
    · assumption
    · cases h
  · intro h; simp only [h]

theorem RunG.hp_between (hr : RunG cfg ops hasG s0 S) (hk : GK ops s0) {i : Nat} : ∀ j, i ≤ j → j ≤ ops.length → (∀ k o, i ≤ k → k < j → ops[k]? = some o → isCall o = false) → (S j).hp = (S i).hp
  | 0, hij, _, _ => by rw [show i = 0 by omega]
  | j + 1, hij, hj, h => by
    by_cases e : i = j + 1
    · rw [e]
    · have hlt : j < ops.length := by omega
      have ho := List.getElem?_eq_getElem hlt
      have hnc := h j ops[j] (by omega) (by omega) ho
      rw [hr.hp_same ho (by
        rcases hk.kind j _ ho with h | h | h
        · exact .inl h
        · exact .inr h
        · rw [isCall_of.2 h] at hnc; cases hnc)]
      exact hr.hp_between hk j (by omega) (by omega) (fun k o h1 h2 h3 => h k o h1 (by omega) h3)

structure AtG (ops : List Oper) (s0 : St (X := X)) (S : Nat → St (X := X)) (Y : Nat → Prop) (s : St (X := X)) : Prop where
  len : s.tm.length = s0.tm.length
  done : ∀ (k t : Nat) (o : Oper), ops[k]? = some o → Y k → o.dst = some t → s.tm[t]? = (S (k + 1)).tm[t]?
  rest : ∀ t, (∀ (k : Nat) (o : Oper), ops[k]? = some o → Y k → o.dst ≠ some t) → s.tm[t]? = s0.tm[t]?
  heap : ∃ m, m ≤ ops.length ∧ s.hp = (S m).hp ∧ ∀ (k : Nat) (o : Oper), ops[k]? = some o → isCall o = true → (Y k ↔ k < m)

theorem AtG.start (hr : RunG cfg ops hasG s0 S) : AtG ops s0 S (fun _ => False) s0 :=
  ⟨rfl, fun _ _ _ _ h => h.elim, fun _ _ => rfl, 0, Nat.zero_le _, by rw [hr.begin], fun k o _ _ => ⟨fun h => h.elim, fun h => by omega⟩⟩

theorem AtG.all (hr : RunG cfg ops hasG s0 S) (hk : GK ops s0) {Y : Nat → Prop} {s : St (X := X)} (ha : AtG ops s0 S Y s) (hall : ∀ k, k < ops.length → Y k) : s = S ops.length := by
  obtain ⟨m, hm, hhp, hst⟩ := ha.heap
  have h1 : s.hp = (S ops.length).hp := by
    rw [hhp]
    refine (hr.hp_between hk ops.length hm (Nat.le_refl _) (fun k p h1 h2 h3 => ?_)).symm
    cases hc : isCall p with
    | false => rfl
    | true => have := (hst k p h3 hc).1 (hall k h2); omega
  have h2 : s.tm = (S ops.length).tm := by
    apply List.ext_getElem?
    intro t
    by_cases hw : ∃ (k : Nat) (o : Oper), ops[k]? = some o ∧ o.dst = some t
    · obtain ⟨k, o, ho, hd⟩ := hw
      have hl := (List.getElem?_eq_some_iff.1 ho).1
      rw [ha.done k t o ho (hall k hl) hd, hr.written hk ho hd hl (Nat.le_refl _)]
    · rw [ha.rest t (fun k o ho _ e => hw ⟨k, o, ho, e⟩), hr.unwritten (Nat.le_refl _) (fun k o _ ho e => hw ⟨k, o, ho, e⟩)]
  cases s
  cases hS : S ops.length
  rw [hS] at h1 h2
  simp only at h1 h2
  rw [h1, h2]
end
end Go.Proofs.Ytlnfojhmgncfiaa.Px
