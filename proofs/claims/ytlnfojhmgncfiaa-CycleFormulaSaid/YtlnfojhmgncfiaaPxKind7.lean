/- The next operation, in whatever order. -/
import Derived.Test.YtlnfojhmgncfiaaPxKind6
set_option linter.unusedVariables false
set_option linter.unusedSimpArgs false
namespace Go.Proofs.Ytlnfojhmgncfiaa.Px
open Go Go.RowKit
set_option linter.unusedVariables false
set_option linter.unusedSimpArgs false

section
variable [X : Elts] {cfg : Cfg (X := X)} {ops : List Oper} {hasG : Bool} {s0 : St (X := X)} {S : Nat → St (X := X)}

theorem AtG.next (hr : RunG cfg ops hasG s0 S) (hk : GK ops s0) (had : Adds cfg) (hn : cfg.apn = false) (h0 : noOpts s0.tm) {Y : Nat → Prop} {s : St (X := X)} (ha : AtG ops s0 S Y s) {i : Nat} {o : Oper} (ho : ops[i]? = some o) (hY : ¬ Y i)
    (hready : ∀ k, hasE o k = true → Y k) (hclosed : ∀ (k : Nat) (p : Oper), ops[k]? = some p → Y k → ∀ j, hasE p j = true → Y j)
    (hsees : ∀ t x v, o.op = .load t x → o.guard = none → rd s.tm [] x = some v → Sees s.hp v) :
    ∃ s', stepO cfg ops hasG o s = some s' ∧ AtG ops s0 S (fun k => Y k ∨ k = i) s' := by
  have hlt : i < ops.length := (List.getElem?_eq_some_iff.1 ho).1
  have hanc : ∀ j, Anc ops i j → Y j := fun j hj => hj.done hclosed (fun o' ho' k hk' => by rw [ho] at ho'; simp only [Option.some.injEq] at ho'; subst ho'; exact hready k hk')
  have hancY : ∀ k j, Y k → Anc ops k j → Y j := fun k j hy hj => hj.done hclosed (fun o' ho' k' hk' => hclosed k o' ho' hy k' hk')
  -- a slot that an ancestor writes
  have slotEq : ∀ (j t : Nat) (p : Oper), Anc ops i j → ops[j]? = some p → p.dst = some t → s.tm[t]? = (S i).tm[t]? := by
    intro j t p hij hj hd
    rw [ha.done j t p hj (hanc j hij) hd, hr.written hk hj hd (hk.lt hij) (by omega)]
  have hag : Agree o (S i).tm s.tm := by
    intro t ht
    by_cases hw : ∃ (j : Nat) (p : Oper), ops[j]? = some p ∧ p.dst = some t
    · obtain ⟨j, p, hj, hd⟩ := hw
      exact slotEq j t p (hk.look i j o p t ho hj hd ht) hj hd
    · rw [ha.rest t (fun k p hkp _ e => hw ⟨k, p, hkp, e⟩), hr.unwritten (by omega) (fun k p _ hkp e => hw ⟨k, p, hkp, e⟩)]
  obtain ⟨cs, sl, hg, hc, htm, hput⟩ := hr.at ho
  have hcs : ∀ c ∈ cs, s.tm[c.1]? = (S i).tm[c.1]? := by
    intro c hc'
    obtain ⟨g, og, a1, a2, a3⟩ := hr.conds hk i o cs ho hg c hc'
    exact slotEq g c.1 og a1 a2 a3
  have hg' : gcs ops o s.tm = some cs := by
    rw [← hg]
    exact gcs_agree fun g pol og tg e1 e2 e3 => slotEq g tg og (hk.guard i o g pol ho e1) e2 e3
  obtain ⟨m, hm, hhp, hst⟩ := ha.heap
  -- what is put, and over which heap
  have hcore : ∃ h', core cfg o cs s.hp s.tm = some (sl, h') ∧ ∃ m', m' ≤ ops.length ∧ h' = (S m').hp ∧ ∀ (k : Nat) (p : Oper), ops[k]? = some p → isCall p = true → ((Y k ∨ k = i) ↔ k < m') := by
    by_cases hcall : isCall o = true
    · have hmi : (S m).hp = (S i).hp := by
        have hord : ∀ (k : Nat) (p : Oper), ops[k]? = some p → isCall p = true → (k < i → k < m) ∧ (i ≤ k → m ≤ k) := by
          intro k p hkp hp
          refine ⟨fun hki => (hst k p hkp hp).1 (hanc k (hk.calls i k o p ho hkp hcall hp hki)), fun hik => ?_⟩
          rcases Nat.lt_or_ge k m with h' | h'
          · exfalso
            have hyk := (hst k p hkp hp).2 h'
            by_cases e : k = i
            · subst e; exact hY hyk
            · exact hY (hancY k i hyk (hk.calls k i p o hkp ho hp hcall (by omega)))
          · exact h'
        rcases Nat.le_total m i with hle | hle
        · refine (hr.hp_between hk i hle (by omega) (fun k p h1 h2 h3 => ?_)).symm
          cases hp : isCall p with
          | false => rfl
          | true => have := (hord k p h3 hp).1 h2; omega
        · refine hr.hp_between hk m hle hm (fun k p h1 h2 h3 => ?_)
          cases hp : isCall p with
          | false => rfl
          | true => have := (hord k p h3 hp).2 h1; omega
      refine ⟨(S (i + 1)).hp, ?_, i + 1, by omega, rfl, fun k p hkp hp => ?_⟩
      · rw [hhp, hmi, core_call hag hcs (isCall_of.1 hcall)]
        exact hc
      · constructor
        · rintro (hy | rfl)
          · rcases Nat.lt_or_ge k (i + 1) with h | h
            · exact h
            · exact absurd (hancY k i hy (hk.calls k i p o hkp ho hp hcall (by omega))) hY
          · omega
        · intro hlt'
          by_cases e : k = i
          · exact .inr e
          · exact .inl (hanc k (hk.calls i k o p ho hkp hcall hp (by omega)))
    · have hk01 : memOf o.op = some 0 ∨ memOf o.op = some 1 := by
        rcases hk.kind i o ho with h | h | h
        · exact .inl h
        · exact .inr h
        · exact absurd (isCall_of.2 h) hcall
      have hcalls : ∀ (k : Nat) (p : Oper), ops[k]? = some p → isCall p = true → ((Y k ∨ k = i) ↔ k < m) := by
        intro k p hkp hp
        constructor
        · rintro (hy | rfl)
          · exact (hst k p hkp hp).1 hy
          · rw [ho] at hkp; simp only [Option.some.injEq] at hkp; subst hkp; exact absurd hp hcall
        · exact fun h => .inl ((hst k p hkp hp).2 h)
      by_cases hul : o.guard = none ∧ memOf o.op = some 1
      · obtain ⟨hgd, hm1⟩ := hul
        obtain ⟨tl, xl, hload⟩ : ∃ t x, o.op = .load t x := by
          cases hop : o.op <;> rw [hop] at hm1 <;> simp [memOf] at hm1
          exact ⟨_, _, rfl⟩
        have hrd : rd s.tm [] xl = rd (S i).tm [] xl := by
          cases xl with
          | tmp u =>
            have := hag u (by unfold looksAtT; rw [hload]; simp [Op.operands])
            simp only [rd, nth_eq, this]
          | const v => rfl
          | global g => rfl
          | func f => rfl
        have hAB : (S i).hp <+: s.hp ∨ s.hp <+: (S i).hp := by
          rw [hhp]
          rcases Nat.le_total i m with hle | hle
          · exact .inl (hr.grow2 hk had hn i m hle hm)
          · exact .inr (hr.grow2 hk had hn m i hle (by omega))
        refine ⟨s.hp, (core_load hload hgd hrd hAB (fun v hv => hsees tl xl v hload hgd (by rw [hrd]; exact hv)) hc).2, m, hm, hhp, hcalls⟩
      have hpa : ∀ cs, HpAgree cs o (S i).tm (S i).hp s.hp := by
        intro cs
        rcases hk01 with h | h
        · exact .inl h
        · obtain ⟨tl, xl, hload⟩ : ∃ t x, o.op = .load t x := by
            cases hop : o.op <;> rw [hop] at h <;> simp [memOf] at h
            exact ⟨_, _, rfl⟩
          refine .inr (.inr ⟨tl, xl, hload, fun v iv hv => ?_⟩)
          obtain ⟨tt, kb, q, rfl, hun, hs, hkl⟩ := hk.load i o tl xl ho hload (fun e => hul ⟨e, h⟩)
          have hv' : v = .ptr kb q := by
            simp only [rd, nth_eq, hr.unwritten (Nat.le_of_lt hlt) (fun k p _ hp => hun k p hp), hs, unwrap, Option.some.injEq] at hv
            exact hv.symm
          subst hv'
          refine loadAt_blk ?_
          have p1 := hr.grow hk had hn i (by omega)
          have p2 := hr.grow hk had hn m hm
          rw [hhp]
          obtain ⟨t1, e1⟩ := p1
          obtain ⟨t2, e2⟩ := p2
          rw [← e1, ← e2, List.getElem?_append_left hkl, List.getElem?_append_left hkl]
      refine ⟨s.hp, (core_quiet hag hcs hpa hk01 hc).2, m, hm, hhp, fun k p hkp hp => ?_⟩
      constructor
      · rintro (hy | rfl)
        · exact (hst k p hkp hp).1 hy
        · rw [ho] at hkp; simp only [Option.some.injEq] at hkp; subst hkp; exact absurd hp hcall
      · exact fun h => .inl ((hst k p hkp hp).2 h)
  obtain ⟨h', hc', hheap⟩ := hcore
  -- nobody's condition is written anew
  have hok : ∀ d, o.dst = some d → (hasG = true → noUse d (sl :: s.tm) = true) ∧ (hasG = false → ∀ cs v, sl ≠ .opt cs v) := by
    intro d hd
    refine ⟨fun hG => noUse_of fun t cs' v ht c hcm e => ?_, (hput d hd).2⟩
    cases t with
    | zero =>
      simp only [List.getElem?_cons_zero, Option.some.injEq] at ht
      exact noUse_head ((hput d hd).1 hG) ht c hcm e
    | succ t =>
      simp only [List.getElem?_cons_succ] at ht
      by_cases hw : ∃ (j : Nat) (p : Oper), ops[j]? = some p ∧ Y j ∧ p.dst = some t
      · obtain ⟨j, p, hj, hy, hdj⟩ := hw
        rw [ha.done j t p hj hy hdj] at ht
        obtain ⟨csj, e1, e2⟩ := hr.slot hj hdj ht
        have := core_opt e2
        subst this
        obtain ⟨g, og, a1, a2, a3⟩ := hr.conds hk j p _ hj e1 c hcm
        have : g = i := by
          apply Classical.byContradiction
          intro hne
          exact hk.one i g o og d ho a2 (fun e => hne e.symm) (by rw [a3, e]) hd
        subst this
        exact hY (hancY j g hy a1)
      · rw [ha.rest t (fun k p hkp hy e => hw ⟨k, p, hkp, hy, e⟩)] at ht
        have := h0 t _ ht
        simp [Slot.isOpt] at this
  refine ⟨{ (putS s o.dst sl) with hp := h' }, ?_, ?_⟩
  · rw [stepO_core, hg']
    simp only [hc', putC]
    rw [put0_mk (s := { tm := s.tm, hp := h' }) hok]
    unfold putS
    cases o.dst <;> rfl
  · cases hd : o.dst with
    | none =>
      simp only [putS]
      refine ⟨ha.len, fun k t p hkp hy hdp => ?_, fun t hno => ?_, hheap⟩
      · rcases hy with hy | rfl
        · exact ha.done k t p hkp hy hdp
        · rw [ho] at hkp; simp only [Option.some.injEq] at hkp; subst hkp; rw [hd] at hdp; cases hdp
      · exact ha.rest t (fun k p hkp hy => hno k p hkp (.inl hy))
    | some d =>
      rw [hd] at htm
      simp only [putS, setN_eq] at htm ⊢
      refine ⟨by simpa using ha.len, fun k t p hkp hy hdp => ?_, fun t hno => ?_, hheap⟩
      · by_cases e : t = d
        · subst e
          have hki : k = i := by
            apply Classical.byContradiction
            intro hne
            exact hk.one i k o p t ho hkp (fun e => hne e.symm) hdp hd
          subst hki
          rw [htm]
          by_cases hl : t < s.tm.length
          · rw [List.getElem?_set_self hl, List.getElem?_set_self (by rw [hr.len k (by omega), ← ha.len]; exact hl)]
          · have hl2 : ¬ t < (S k).tm.length := by rw [hr.len k (Nat.le_of_lt hlt), ← ha.len]; exact hl
            rw [List.getElem?_eq_none (by rw [List.length_set]; exact Nat.le_of_not_lt hl), List.getElem?_eq_none (by rw [List.length_set]; exact Nat.le_of_not_lt hl2)]
        · rw [List.getElem?_set_ne (fun h => e h.symm)]
          rcases hy with hy | rfl
          · exact ha.done k t p hkp hy hdp
          · rw [ho] at hkp
            simp only [Option.some.injEq] at hkp
            subst hkp
            rw [hd] at hdp
            simp only [Option.some.injEq] at hdp
            exact absurd hdp.symm e
      · have hne : t ≠ d := fun e => hno i o ho (.inr rfl) (by rw [hd, e])
        rw [List.getElem?_set_ne (fun h => hne h.symm)]
        exact ha.rest t (fun k p hkp hy => hno k p hkp (.inl hy))
end
end Go.Proofs.Ytlnfojhmgncfiaa.Px
