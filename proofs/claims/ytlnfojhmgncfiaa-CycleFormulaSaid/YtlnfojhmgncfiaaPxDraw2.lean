/- Regions that draw their order, with stores behind: whatever order is drawn, the end is the one of the text's order. -/
import Derived.Test.YtlnfojhmgncfiaaPxDraw
set_option linter.unusedVariables false
set_option linter.unusedSimpArgs false
namespace Go.Proofs.Ytlnfojhmgncfiaa.Px
open Go Go.RowKit

section
variable [X : Elts] {P : Program} {G : World → Prop} {cfg : Cfg (X := X)} {w0 : World} {R : Type} {fail : R} {φ : R → Prop}

/-- One operation without a guard, as the evaluator steps over it. -/
inductive StepS (cfg : Cfg (X := X)) (o : Oper) (s : St (X := X)) : St (X := X) → Prop where
  | pure (v : AV) (h : pureOp cfg s.hp s.tm [] o.op = some (true, v)) (hk : memOf o.op ≠ some 3) : StepS cfg o s (putS s o.dst (.is v))
  | store (hp : List (Blk (X := X))) (h : effOp (cfgQ cfg) s.hp s.tm [] o.op = some (true, none, hp)) (hd : o.dst = none) (hk : memOf o.op = some 3) : StepS cfg o s { s with hp := hp }

theorem pureOp_store {hp : List (Blk (X := X))} {tm : List Slot} {cs : List (Nat × Bool)} {op : Op} (h : memOf op = some 3) : pureOp cfg hp tm cs op = none := by
  cases op <;> simp [memOf] at h <;> rfl

theorem runOp_step (hf0 : ¬ φ fail) {o : Oper} {i : Nat} (hone : oneOk i o = true) {s : St (X := X)} {K : St (X := X) → R} (h : φ (runOp (cfgQ cfg) fail (fun _ _ _ _ => fail) false [] o s K)) : ∃ s', StepS cfg o s s' ∧ φ (K s') := by
  simp only [oneOk, Bool.and_eq_true] at hone
  obtain ⟨_, _, hkind⟩ := hone
  rw [runOp_eq] at h
  unfold runOp0 at h
  split at h
  · rename_i ok v hp
    cases ok with
    | false => exact absurd h hf0
    | true =>
      rw [cond_true] at h
      have hk : memOf o.op ≠ some 3 := fun e => by have := pureOp_store (cfg := cfgQ cfg) (hp := s.hp) (tm := s.tm) (cs := []) e; rw [this] at hp; cases hp
      refine ⟨_, .pure v hp hk, ?_⟩
      rw [put1_eq] at h
      unfold put0 at h
      unfold putS
      split at h
      · rename_i hd; rw [hd]; exact h
      · rename_i d hd; rw [hd]; exact h
  · split at h
    · rename_i c x y hop
      rw [hop] at hkind
      simp at hkind
    · rename_i hnp
      split at h
      · rename_i ok v hp' he
        -- only a store is there, and it yields nothing
        cases hop : o.op <;> rw [hop] at hkind he <;> simp [memOf] at hkind <;> simp only [effOp] at he <;> try (cases he; done)
        · rename_i t x y
          split at he
          · simp only [Option.map_eq_some_iff, Prod.mk.injEq] at he
            obtain ⟨⟨_, _⟩, _, _, e, _⟩ := he
            cases e
          · cases he
        · rename_i c
          have := effOp_none (cfg := cfg) (hp := s.hp) (tm := s.tm) (cs := []) (op := .call c) (.inr (.inr rfl))
          simp only [effOp] at this
          rw [this] at he
          cases he
      · rename_i ok hp' he
        cases ok with
        | false => exact absurd h hf0
        | true =>
          rw [cond_true] at h
          have hk : memOf o.op = some 3 := by
            cases hop : o.op <;> rw [hop] at hkind he <;> simp [memOf] at hkind <;> simp only [effOp] at he <;> try (cases he; done)
            · rfl
            · rename_i c
              have := effOp_none (cfg := cfg) (hp := s.hp) (tm := s.tm) (cs := []) (op := .call c) (.inr (.inr rfl))
              simp only [effOp] at this
              rw [this] at he
              cases he
          have hd : o.dst = none := by
            cases hop : o.op <;> rw [hop] at hk <;> simp [memOf] at hk
            rw [hop] at hkind
            simp only [memOf] at hkind
            split at hkind
            · assumption
            · cases hkind
          refine ⟨_, .store hp' he hd hk, ?_⟩
          rw [put1_eq] at h
          unfold put0 at h
          rw [hd] at h
          exact h
      · split at h
        · split at h
          · split at h
            · simp only [Bool.cond_self] at h; exact absurd h hf0
            · exact absurd h hf0
            · exact absurd h hf0
          · exact absurd h hf0
        · exact absurd h hf0

/-- The states of the text's order. -/
theorem chain_of (hf0 : ¬ φ fail) {ops : List Oper} : ∀ (l : List Oper) (i : Nat), (∀ j o, l[j]? = some o → oneOk (i + j) o = true) → ∀ {s : St (X := X)} {K : St (X := X) → R}, φ (opsGo (cfgQ cfg) fail (fun _ _ _ _ => fail) ops false l s K) →
    ∃ S : Nat → St (X := X), S 0 = s ∧ (∀ k o, l[k]? = some o → StepS cfg o (S k) (S (k + 1))) ∧ φ (K (S l.length))
  | [], i, _, s, K, h => ⟨fun _ => s, rfl, fun k o hk => by simp at hk, h⟩
  | o :: l, i, hone, s, K, h => by
    have h0 := hone 0 o rfl
    unfold opsGo opStep at h
    have hgd : o.guard = none := by
      simp only [oneOk, Bool.and_eq_true] at h0
      have := h0.1
      split at this
      · assumption
      · cases this
    rw [hgd] at h
    obtain ⟨s1, hs1, h1⟩ := runOp_step (cfg := cfg) hf0 h0 h
    obtain ⟨S, hS0, hS, hK⟩ := chain_of hf0 l (i + 1) (fun j o hj => by have := hone (j + 1) o (by simpa using hj); rwa [show i + (j + 1) = i + 1 + j by omega] at this) h1
    refine ⟨fun k => match k with
      | 0 => s
      | k + 1 => S k, rfl, fun k o' hk => ?_, hK⟩
    cases k with
    | zero => simp only [List.getElem?_cons_zero, Option.some.injEq] at hk; subst hk; show StepS cfg o s (S 0); rw [hS0]; exact hs1
    | succ k => exact hS k o' (by simpa using hk)

theorem StepS.tm_len {o : Oper} {s s' : St (X := X)} (h : StepS cfg o s s') : s'.tm.length = s.tm.length := by
  cases h with
  | pure v _ _ => unfold putS; split <;> simp [setN_eq]
  | store => rfl

theorem StepS.tm_other {o : Oper} {s s' : St (X := X)} (h : StepS cfg o s s') {t : Nat} (ht : o.dst ≠ some t) : s'.tm[t]? = s.tm[t]? := by
  cases h with
  | pure v _ _ =>
    unfold putS
    split
    · rename_i d hd
      simp only [setN_eq]
      rw [List.getElem?_set_ne (fun e => ht (by rw [hd, e]))]
    · rfl
  | store => rfl

theorem StepS.hp_same {o : Oper} {s s' : St (X := X)} (h : StepS cfg o s s') (hk : memOf o.op ≠ some 3) : s'.hp = s.hp := by
  cases h with
  | pure v _ _ => unfold putS; split <;> rfl
  | store _ _ _ hk' => exact absurd hk' hk

theorem StepS.noOpts {o : Oper} {s s' : St (X := X)} (h : StepS cfg o s s') (hn : noOpts s.tm) : noOpts s'.tm := by
  cases h with
  | pure v _ _ =>
    unfold putS
    split
    · simp only [setN_eq]; exact noOpts_set hn rfl
    · exact hn
  | store => exact hn

/-- What an operation looks at. -/
def Agree (o : Oper) (tm tm' : List Slot) : Prop := ∀ t, looksAtT o t = true → tm'[t]? = tm[t]?

omit X in
theorem rd_agree {tm tm' : List Slot} {cs : List (Nat × Bool)} {x : Operand} (h : ∀ t, x = .tmp t → tm'[t]? = tm[t]?) : rd tm' cs x = rd tm cs x := by
  cases x with
  | tmp t => simp only [rd, nth_eq, h t rfl]
  | _ => rfl

omit X in
theorem rds_agree {tm tm' : List Slot} {cs : List (Nat × Bool)} : ∀ {l : List Operand}, (∀ t, .tmp t ∈ l → tm'[t]? = tm[t]?) → rds tm' cs l = rds tm cs l
  | [], _ => rfl
  | x :: l, h => by
    simp only [rds]
    rw [rd_agree (fun t e => h t (by rw [e]; exact List.mem_cons_self ..)), rds_agree (fun t ht => h t (List.mem_cons_of_mem _ ht))]

omit X in
theorem parts_agree {tm tm' : List Slot} {cs : List (Nat × Bool)} : ∀ {l : List (Nat × Operand)}, (∀ t, .tmp t ∈ l.map (·.2) → tm'[t]? = tm[t]?) → parts tm' cs l = parts tm cs l
  | [], _ => rfl
  | (i, x) :: l, h => by
    simp only [parts]
    rw [rd_agree (fun t e => h t (by rw [← e]; exact List.mem_cons_self ..)), parts_agree (fun t ht => h t (List.mem_cons_of_mem _ ht))]

omit X in
theorem agree_mem {o : Oper} {tm tm' : List Slot} (h : Agree o tm tm') (t : Nat) (ht : .tmp t ∈ o.op.operands.toList) : tm'[t]? = tm[t]? := by
  refine h t ?_
  simp only [looksAtT, List.any_eq_true]
  exact ⟨.tmp t, ht, by simp⟩

/-- An operation that reads no memory, or reads the same. -/
theorem pureOp_agree {cs : List (Nat × Bool)} {o : Oper} {hp hp' : List (Blk (X := X))} {tm tm' : List Slot} (h : Agree o tm tm') (hm : memOf o.op = some 0 ∨ hp' = hp ∨ (∃ t x, o.op = .load t x ∧ ∀ (v : AV) (i : Bool × Nat), rd tm cs x = some v → loadAt (X := X) i.1 i.2 hp' v = loadAt i.1 i.2 hp v)) :
    pureOp cfg hp' tm' cs o.op = pureOp cfg hp tm cs o.op := by
  have hr := agree_mem h
  obtain ⟨dst, op, ty, pos, after, gd⟩ := o
  simp only at *
  cases op with
  | move x => simp only [pureOp]; rw [rd_agree (fun t e => hr t (by simp [Op.operands, e]))]
  | assign x => simp only [pureOp]; rw [rd_agree (fun t e => hr t (by simp [Op.operands, e]))]
  | nilCheck x => simp only [pureOp]; rw [rd_agree (fun t e => hr t (by simp [Op.operands, e]))]
  | binOp op t x y ty2 => simp only [pureOp]; rw [rd_agree (x := x) (fun t e => hr t (by simp [Op.operands, e])), rd_agree (x := y) (fun t e => hr t (by simp [Op.operands, e]))]
  | unOp op t x => simp only [pureOp]; rw [rd_agree (fun t e => hr t (by simp [Op.operands, e]))]
  | convert s d x => simp only [pureOp]; rw [rd_agree (fun t e => hr t (by simp [Op.operands, e]))]
  | field t x f => simp only [pureOp]; rw [rd_agree (fun t e => hr t (by simp [Op.operands, e]))]
  | index t x y => simp only [pureOp]; rw [rd_agree (x := x) (fun t e => hr t (by simp [Op.operands, e])), rd_agree (x := y) (fun t e => hr t (by simp [Op.operands, e]))]
  | extract x i => simp only [pureOp]; rw [rd_agree (fun t e => hr t (by simp [Op.operands, e]))]
  | fieldAddr t x f => simp only [pureOp]; rw [rd_agree (fun t e => hr t (by simp [Op.operands, e]))]
  | indexAddr t x y => simp only [pureOp]; rw [rd_agree (x := x) (fun t e => hr t (by simp [Op.operands, e])), rd_agree (x := y) (fun t e => hr t (by simp [Op.operands, e]))]
  | build t ps => simp only [pureOp]; rw [parts_agree (fun t ht => hr t (by simpa [Op.operands] using ht))]
  | makeFunc fn f c =>
    cases fn <;> simp only [pureOp]
    rw [rds_agree (l := f.toList) (fun t ht => hr t (by simp [Op.operands]; exact .inl (by simpa using ht))), rds_agree (l := c.toList) (fun t ht => hr t (by simp [Op.operands]; exact .inr (by simpa using ht)))]
  | makeInterface t x => simp only [pureOp]; rw [rd_agree (fun t e => hr t (by simp [Op.operands, e]))]
  | load t x =>
    have e1 : rd tm' cs x = rd tm cs x := rd_agree (fun t e => hr t (by simp [Op.operands, e]))
    simp only [pureOp, e1]
    rcases hm with hm | rfl | ⟨t', x', e, hl⟩
    · simp [memOf] at hm
    · rfl
    · simp only [Op.load.injEq] at e
      obtain ⟨rfl, rfl⟩ := e
      split
      · rename_i v i hv _
        exact hl v (i.agg, i.size) hv
      · rfl
  | call c =>
    have e1 : rds tm' cs c.args.toList = rds tm cs c.args.toList := rds_agree (fun t ht => hr t (by simp [Op.operands, Call.operands]; exact .inr (by simpa using ht)))
    rcases hm with hm | rfl | ⟨t', x', e, _⟩
    · simp [memOf] at hm
    · simp only [pureOp, e1]
      split
      · split
        · rfl
        · rename_i f hcal
          rw [rd_agree (x := f) (fun t e => hr t (by simp [Op.operands, Call.operands, hcal, e]))]
        · rfl
      · rfl
    · cases e
  | _ => simp only [pureOp]

theorem effStore_agree {o : Oper} {hp : List (Blk (X := X))} {tm tm' : List Slot} (h : Agree o tm tm') (hk : memOf o.op = some 3) : effOp (cfgQ cfg) hp tm' [] o.op = effOp (cfgQ cfg) hp tm [] o.op := by
  have hr := agree_mem h
  obtain ⟨dst, op, ty, pos, after, gd⟩ := o
  simp only at *
  cases op <;> simp [memOf] at hk
  rename_i t x y
  simp only [effOp]
  rw [rd_agree (x := x) (fun t e => hr t (by simp [Op.operands, e])), rd_agree (x := y) (fun t e => hr t (by simp [Op.operands, e]))]
end
end Go.Proofs.Ytlnfojhmgncfiaa.Px
