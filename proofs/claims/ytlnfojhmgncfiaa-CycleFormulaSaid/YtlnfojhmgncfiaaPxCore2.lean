/- One operation looks at few slots only. -/
import Derived.Test.YtlnfojhmgncfiaaPxCore
set_option linter.unusedVariables false
set_option linter.unusedSimpArgs false
namespace Go.Proofs.Ytlnfojhmgncfiaa.Px
open Go Go.RowKit
set_option linter.unusedVariables false
set_option linter.unusedSimpArgs false

section
variable [X : Elts] {P : Program} {G : World → Prop} {cfg : Cfg (X := X)} {w0 : World}

omit X in
theorem boolAt_agree {tm tm' : List Slot} {t : Nat} (h : tm'[t]? = tm[t]?) : boolAt tm' t = boolAt tm t := by
  simp only [boolAt, nth_eq, h]

omit X in
theorem holdB_agree {tm tm' : List Slot} : ∀ {cs : List (Nat × Bool)}, (∀ c ∈ cs, tm'[c.1]? = tm[c.1]?) → holdB tm' cs = holdB tm cs
  | [], _ => rfl
  | [c], h => by simp only [holdB, boolAt_agree (h c (List.mem_cons_self ..))]
  | c :: d :: l, h => by
    simp only [holdB, boolAt_agree (h c (List.mem_cons_self ..))]
    rw [holdB_agree (cs := d :: l) (fun x hx => h x (List.mem_cons_of_mem _ hx))]

omit X in
theorem pickV_agree {tm tm' : List Slot} {cs : List (Nat × Bool)} {c a b : Operand} (h : ∀ t, .tmp t = c ∨ .tmp t = a ∨ .tmp t = b → tm'[t]? = tm[t]?) : pickV tm' cs c a b = pickV tm cs c a b := by
  cases c with
  | tmp t =>
    have e1 : ∀ cs, rd tm' cs a = rd tm cs a := fun cs => rd_agree (fun t e => h t (by rw [e]; simp))
    have e2 : ∀ cs, rd tm' cs b = rd tm cs b := fun cs => rd_agree (fun t e => h t (by rw [e]; simp))
    simp only [pickV, boolAt_agree (h t (by simp)), e1, e2]
  | _ => rfl

/-- Calls, loads and plain operations: what they make, from the slots they look at, and from the heap. -/
theorem effCall_agree {cs : List (Nat × Bool)} {o : Oper} {hp : List (Blk (X := X))} {tm tm' : List Slot} (h : Agree o tm tm') (hk : memOf o.op = some 0 ∨ memOf o.op = some 1 ∨ memOf o.op = some 2) : effOp cfg hp tm' cs o.op = effOp cfg hp tm cs o.op := by
  have hr := agree_mem h
  obtain ⟨dst, op, ty, pos, after, gd⟩ := o
  simp only at *
  cases op <;> simp [memOf] at hk <;> try (simp only [effOp]; done)
  rename_i c
  have e1 : rds tm' cs c.args.toList = rds tm cs c.args.toList := rds_agree (fun t ht => hr t (by simp [Op.operands, Call.operands]; exact .inr (by simpa using ht)))
  simp only [effOp, e1]
  cases rds tm cs c.args.toList with
  | none => rfl
  | some args =>
    simp only
    cases hcal : c.callee with
    | value f => simp only; rw [rd_agree (x := f) (fun t e => hr t (by simp [Op.operands, Call.operands, hcal, e]))]
    | builtin b => cases b <;> rfl
    | _ => rfl

/-- The heap as far as an operation without effect reads it. -/
def HpAgree (cs : List (Nat × Bool)) (o : Oper) (tm : List Slot) (hp hp' : List (Blk (X := X))) : Prop :=
  memOf o.op = some 0 ∨ hp' = hp ∨ (∃ t x, o.op = .load t x ∧ ∀ (v : AV) (i : Bool × Nat), rd tm cs x = some v → loadAt (X := X) i.1 i.2 hp' v = loadAt i.1 i.2 hp v)

theorem effOp_quiet {cs : List (Nat × Bool)} {op : Op} {hp : List (Blk (X := X))} {tm : List Slot} (hk : memOf op = some 0 ∨ memOf op = some 1) : effOp cfg hp tm cs op = none := by
  cases op <;> simp [memOf] at hk <;> simp only [effOp]

/-- An operation that makes nothing of memory: the same slot, over whatever heap. -/
theorem runCore_quiet {cs : List (Nat × Bool)} {o : Oper} {hp hp' : List (Blk (X := X))} {tm tm' : List Slot} {sl : Slot} {h1 : List (Blk (X := X))} (h : Agree o tm tm') (hm : HpAgree cs o tm hp hp') (hk : memOf o.op = some 0 ∨ memOf o.op = some 1)
    (hc : runCore cfg cs o.op hp tm = some (sl, h1)) : h1 = hp ∧ runCore cfg cs o.op hp' tm' = some (sl, hp') := by
  have hp1 := pureOp_agree (cfg := cfg) (cs := cs) h hm
  have he1 := effOp_quiet (cfg := cfg) (cs := cs) (hp := hp) (tm := tm) hk
  have he2 := effOp_quiet (cfg := cfg) (cs := cs) (hp := hp') (tm := tm') hk
  have hr := agree_mem h
  unfold runCore at hc ⊢
  rw [hp1]
  cases hpo : pureOp cfg hp tm cs o.op with
  | some r =>
    obtain ⟨ok, v⟩ := r
    rw [hpo] at hc
    cases ok with
    | false => cases hc
    | true => simp only [cond_true, Option.some.injEq, Prod.mk.injEq] at hc; obtain ⟨rfl, rfl⟩ := hc; exact ⟨rfl, rfl⟩
  | none =>
    rw [hpo] at hc
    cases hop : o.op
    case pick c a b =>
      rw [hop] at hc hr
      simp only at hc ⊢
      have hv := pickV_agree (cs := cs) (c := c) (a := a) (b := b) (tm := tm) (tm' := tm') (fun t ht => hr t (by simp [Op.operands]; exact ht))
      rw [hv]
      cases hpv : pickV tm cs c a b with
      | some v => rw [hpv] at hc; simp only [Option.some.injEq, Prod.mk.injEq] at hc; obtain ⟨rfl, rfl⟩ := hc; exact ⟨rfl, rfl⟩
      | none =>
        rw [hpv] at hc
        simp only at hc ⊢
        cases c
        case tmp t =>
          simp only at hc ⊢
          rw [boolAt_agree (hr t (by simp [Op.operands]))]
          cases hb : boolAt tm t with
          | none => rw [hb] at hc; cases hc
          | some r =>
            obtain ⟨ds, g⟩ := r
            rw [hb] at hc
            simp only at hc ⊢
            have e1 : rd tm' ((t, g) :: cs) (cond g a b) = rd tm ((t, g) :: cs) (cond g a b) := rd_agree (fun u e => hr u (by cases g <;> simp [Op.operands, ← e]))
            rw [e1]
            cases hds : ds.all (covers cs) with
            | false => rw [hds] at hc; cases hc
            | true =>
              rw [hds, cond_true] at hc
              rw [cond_true]
              cases hrd : rd tm ((t, g) :: cs) (cond g a b) with
              | none => rw [hrd] at hc; cases hc
              | some v => rw [hrd] at hc; simp only [Option.some.injEq, Prod.mk.injEq] at hc; obtain ⟨rfl, rfl⟩ := hc; exact ⟨rfl, rfl⟩
        all_goals cases hc
    all_goals
      rw [hop] at hc he1
      simp only [he1] at hc
      cases hc
end
end Go.Proofs.Ytlnfojhmgncfiaa.Px
