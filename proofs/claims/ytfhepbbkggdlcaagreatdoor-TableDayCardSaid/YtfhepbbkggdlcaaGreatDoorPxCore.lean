/- One operation: what it puts, and what it makes of the heap. -/
import Derived.Test.YtfhepbbkggdlcaaGreatDoorPxAnc
set_option linter.unusedVariables false
set_option linter.unusedSimpArgs false
namespace Go.Proofs.YtfhepbbkggdlcaaGreatDoor.Px
open Go Go.RowKit
section
variable [X : Elts] {P : Program} {G : World → Prop} {cfg : Cfg (X := X)} {w0 : Base}
def gcs (ops : List Oper) (o : Oper) (tm : List Slot) : Option (List (Nat × Bool)) :=
 match o.guard with
 | none => some []
 | some (g, pol) => match nth ops g with
  | some og => match og.dst with
   | some tg => match boolAt tm tg with
    | some (ds, _) => some (ds ++ [(tg, pol)])
    | none => none
   | none => none
  | none => none
def runCore (cfg : Cfg (X := X)) (cs : List (Nat × Bool)) (op : Op) (hp : List (Blk (X := X))) (tm : List Slot) : Option (Slot × List (Blk (X := X))) :=
 match pureOp cfg hp tm cs op with
 | some (ok, v) => cond ok (some (.is v, hp)) none
 | none => match op with
  | .pick c a b => match pickV tm cs c a b with
   | some v => some (.is v, hp)
   | none => match c with
    | .tmp t => match boolAt tm t with
     | some (ds, g) => cond (ds.all (covers cs)) (match rd tm ((t, g) :: cs) (cond g a b) with
      | some v => some (.is v, hp)
      | none => none) none
     | none => none
    | _ => none
  | op => match effOp cfg hp tm cs op with
   | some (ok, some v, h) => cond ok (some (.is v, h)) none
   | some (ok, none, h) => cond ok (some (.any, h)) none
   | none => none
def core (cfg : Cfg (X := X)) (o : Oper) (cs : List (Nat × Bool)) (hp : List (Blk (X := X))) (tm : List Slot) : Option (Slot × List (Blk (X := X))) :=
 match o.guard with
 | none => runCore cfg [] o.op hp tm
 | some _ => match pureOp cfg hp tm cs o.op with
  | some (ok, v) => cond (or ok (not (holdB tm cs))) (some (.opt cs v, hp)) none
  | none => match o.op with
   | .pick c a b => match pickV tm cs c a b with
    | some v => some (.opt cs v, hp)
    | none => cond (holdB tm cs) (runCore cfg cs o.op hp tm) (some (.opt cs (.bool false), hp))
   | _ => cond (holdB tm cs) (runCore cfg cs o.op hp tm) (some (.opt cs (.bool false), hp))
def putC (hasG : Bool) (o : Oper) (tm : List Slot) : Option (Slot × List (Blk (X := X))) → Option (St (X := X))
 | some (sl, h) => put0 none hasG o sl { tm := tm, hp := h } some
 | none => none
theorem runOp_core {hasG : Bool} {cs : List (Nat × Bool)} {o : Oper} {s : St (X := X)} : runOp cfg none (fun _ _ _ _ => none) hasG cs o s some = putC hasG o s.tm (runCore cfg cs o.op s.hp s.tm) := by
 rw [runOp_eq]
 unfold runOp0 runCore
 simp only [put1_eq]
 cases hp : pureOp cfg s.hp s.tm cs o.op with
 | some r => obtain ⟨ok, v⟩ := r; cases ok <;> rfl
 | none =>
  generalize o.op = op
  simp only
  cases op
  case pick c a b =>
   simp only
   cases hv : pickV s.tm cs c a b with
   | some v => rfl
   | none =>
    simp only
    cases c
    case tmp t =>
     simp only
     cases hb : boolAt s.tm t with
     | none => rfl
     | some r =>
      obtain ⟨ds, g⟩ := r
      simp only
      cases ds.all (covers cs) with
      | false => rfl
      | true =>
       cases g with
       | true => simp only [cond_true]; cases rd s.tm ((t, true) :: cs) a <;> rfl
       | false => simp only [cond_true, cond_false]; cases rd s.tm ((t, false) :: cs) b <;> rfl
    all_goals rfl
  case call c =>
   simp only
   generalize effOp cfg s.hp s.tm cs _ = r
   rcases r with _ | ⟨ok, _ | v, h⟩
   ·simp only
    split
    ·split
     ·rw [Bool.cond_self]; rfl
     ·rfl
     ·rfl
    ·split
     ·split
      ·rw [Bool.cond_self]; rfl
      ·rfl
     ·rfl
    ·rfl
   ·cases ok <;> rfl
   ·cases ok <;> rfl
  all_goals
   simp only
   generalize effOp cfg s.hp s.tm cs _ = r
   rcases r with _ | ⟨ok, _ | v, h⟩
   ·rfl
   ·cases ok <;> rfl
   ·cases ok <;> rfl
theorem stepO_core {ops : List Oper} {hasG : Bool} {o : Oper} {s : St (X := X)} : stepO cfg ops hasG o s = match gcs ops o s.tm with
  | some cs => putC hasG o s.tm (core cfg o cs s.hp s.tm)
  | none => none := by
 unfold stepO opStep gcs
 simp only [put1_eq, runOp_core]
 cases hg : o.guard with
 | none => simp only [core, hg]
 | some gp =>
  obtain ⟨g, pol⟩ := gp
  simp only
  cases nth ops g with
  | none => rfl
  | some og =>
   simp only
   cases og.dst with
   | none => rfl
   | some tg =>
    simp only
    cases boolAt s.tm tg with
    | none => rfl
    | some r =>
     obtain ⟨ds, b⟩ := r
     simp only [core, hg]
     cases hp : pureOp cfg s.hp s.tm (ds ++ [(tg, pol)]) o.op with
     | some r =>
      obtain ⟨ok, v⟩ := r
      simp only
      cases (or ok (not (holdB s.tm (ds ++ [(tg, pol)])))) <;> rfl
     | none =>
      simp only
      cases hop : o.op
      case pick c a e =>
       simp only
       cases pickV s.tm (ds ++ [(tg, pol)]) c a e with
       | some v => rfl
       | none => simp only; cases holdB s.tm (ds ++ [(tg, pol)]) <;> rfl
      all_goals
       simp only
       cases holdB s.tm (ds ++ [(tg, pol)]) <;> rfl
end
end Go.Proofs.YtfhepbbkggdlcaaGreatDoor.Px


namespace Go.Proofs.YtfhepbbkggdlcaaGreatDoor.Px
open Go Go.RowKit
section
variable [X : Elts] {P : Program} {G : World → Prop} {cfg : Cfg (X := X)} {w0 : Base}
omit X in
theorem boolAt_agree {tm tm' : List Slot} {t : Nat} (h : tm'[t]? = tm[t]?) : boolAt tm' t = boolAt tm t := by
 simp only [boolAt, nth_eq, h]
omit X in
theorem holdB_agree {tm tm' : List Slot} : ∀ {cs : List (Nat × Bool)}, (∀ c ∈ cs, tm'[c.1]? = tm[c.1]?) → holdB tm' cs = holdB tm cs
 | [], _ => rfl
 | [c], h => by simp only [holdB, boolAt_agree (h c (List.mem_cons_self ..))]
 | c :: d :: l, h => by
  simp only [holdB, boolAt_agree (h c (List.mem_cons_self ..))]
  rw [holdB_agree (cs := d :: l) (fun x hx => h x (List.mem_cons_of_mem _ hx))]
omit X in
theorem pickV_agree {tm tm' : List Slot} {cs : List (Nat × Bool)} {c a b : Operand} (h : ∀ t, .tmp t = c ∨ .tmp t = a ∨ .tmp t = b → tm'[t]? = tm[t]?) : pickV tm' cs c a b = pickV tm cs c a b := by
 cases c with
 | tmp t =>
  have e1 : ∀ cs, rd tm' cs a = rd tm cs a := fun cs => rd_agree (fun t e => h t (by rw [e]; simp))
  have e2 : ∀ cs, rd tm' cs b = rd tm cs b := fun cs => rd_agree (fun t e => h t (by rw [e]; simp))
  simp only [pickV, boolAt_agree (h t (by simp)), e1, e2]
 | _ => rfl
theorem effOp_b0 {cs : List (Nat × Bool)} {hp : List (Blk (X := X))} {tm : List Slot} {t : Nat} {ps : Array (Nat × Operand)} : effOp cfg hp tm cs (.buildSlice t 0 ps) = match ps.toList, look cfg.ti t with
  | [], some i => match i.el with
   | some el => cond (and i.slice (Nat.beq i.esz (X.width el))) (some (true, some (.sl hp.length 0 i.esz 0 none), hp ++ [.vec el [] true])) none
   | none => none
  | _, _ => none := rfl
theorem effOp_b1 {cs : List (Nat × Bool)} {hp : List (Blk (X := X))} {tm : List Slot} {t n : Nat} {ps : Array (Nat × Operand)} : effOp cfg hp tm cs (.buildSlice t (n + 1) ps) = match parts tm cs ps.toList, look cfg.ti t with
  | some vs, some i => cond (and i.slice (and (and (Nat.beq i.zero.length i.esz) (Nat.ble 1 i.esz)) (and (Nat.ble 1 (n + 1)) (Nat.ble ((n + 1) * i.esz) 4096)))) (match fillA i.esz (repN (n + 1) i.zero) vs with
   | some cells => some (true, some (.sl hp.length 0 i.esz (n + 1) (some (n + 1))), hp ++ [.raw cells])
   | none => none) none
  | _, _ => none := rfl
theorem effCall_agree {cs : List (Nat × Bool)} {o : Oper} {hp : List (Blk (X := X))} {tm tm' : List Slot} (h : Agree o tm tm') (hk : memG o.op = some 0 ∨ memG o.op = some 1 ∨ memG o.op = some 2) : effOp cfg hp tm' cs o.op = effOp cfg hp tm cs o.op := by
 have hr := agree_mem h
 obtain ⟨dst, op, ty, pos, after, gd⟩ := o
 simp only at *
 cases op <;> simp [memG, memOf] at hk <;> try (simp only [effOp]; done)
 case buildSlice t n ps =>
  have e : parts tm' cs ps.toList = parts tm cs ps.toList := parts_agree (fun t ht => hr t (by simpa [Op.operands] using ht))
  cases n with
  | zero => rw [effOp_b0, effOp_b0]
  | succ n => rw [effOp_b1, effOp_b1, e]
 case slice t x lo hi mx =>
  have e1 : rd tm' cs x = rd tm cs x := rd_agree (fun t e => hr t (by simp [Op.operands, e]))
  have e2 : boundE tm' cs 0 lo = boundE tm cs 0 lo := boundE_agree (fun y e => rd_agree (fun t e' => hr t (by simp [Op.operands, e, e'])))
  have e3 : boundE tm' cs 0 hi = boundE tm cs 0 hi := boundE_agree (fun y e => rd_agree (fun t e' => hr t (by simp [Op.operands, e, e'])))
  have e4 : boundE tm' cs 0 mx = boundE tm cs 0 mx := boundE_agree (fun y e => rd_agree (fun t e' => hr t (by simp [Op.operands, e, e'])))
  simp only [effOp, e1, e2, e3, e4]
 rename_i c
 have e1 : rds tm' cs c.args.toList = rds tm cs c.args.toList := rds_agree (fun t ht => hr t (by simp [Op.operands, Call.operands]; exact .inr (by simpa using ht)))
 simp only [effOp, e1]
 cases rds tm cs c.args.toList with
 | none => rfl
 | some args =>
  simp only
  cases hcal : c.callee with
  | value f => simp only; rw [rd_agree (x := f) (fun t e => hr t (by simp [Op.operands, Call.operands, hcal, e]))]
  | builtin b => cases b <;> rfl
  | _ => rfl
def HpAgree (cs : List (Nat × Bool)) (o : Oper) (tm : List Slot) (hp hp' : List (Blk (X := X))) : Prop :=
 memOf o.op = some 0 ∨ hp' = hp ∨ (∃ t x, o.op = .load t x ∧ ∀ (v : AV) (i : Bool × Nat), rd tm cs x = some v → loadAt (X := X) i.1 i.2 hp' v = loadAt i.1 i.2 hp v)
def Still (cfg : Cfg (X := X)) (op : Op) : Prop := memOf op = some 0 ∨ memOf op = some 1 ∨ (cfg.apn = false ∧ ∃ t x lo hi, op = .slice t x lo hi none)
theorem memG01 (hn : cfg.apn = false) {op : Op} (h : memG op = some 0 ∨ memG op = some 1) : Still cfg op := by
 cases op
 case slice t x lo hi mx =>
  cases mx with
  | none => exact .inr (.inr ⟨hn, _, _, _, _, rfl⟩)
  | some m => simp [memG, memOf] at h
 all_goals first
  | (simp [memG, memOf] at h; done)
  | simp [Still, memOf]
omit X in
theorem memG0 {op : Op} (h : memG op = some 0) : memOf op = some 0 := by
 cases op
 case slice t x lo hi mx => cases mx <;> simp [memG, memOf] at h
 all_goals simp [memG, memOf] at h ⊢
omit X in
theorem memG_of0 {op : Op} (h : memOf op = some 0) : memG op = some 0 := by
 cases op <;> simp [memG, memOf] at h ⊢
theorem effOp_quiet {cs : List (Nat × Bool)} {op : Op} {hp : List (Blk (X := X))} {tm : List Slot} (hk : Still cfg op) : effOp cfg hp tm cs op = none := by
 rcases hk with hk | hk | ⟨hn, t, x, lo, hi, rfl⟩
 ·cases op <;> simp [memOf] at hk <;> simp only [effOp]
 ·cases op <;> simp [memOf] at hk <;> simp only [effOp]
 ·simp only [effOp, hn, cond_false]
theorem runCore_quiet {cs : List (Nat × Bool)} {o : Oper} {hp hp' : List (Blk (X := X))} {tm tm' : List Slot} {sl : Slot} {h1 : List (Blk (X := X))} (h : Agree o tm tm') (hm : HpAgree cs o tm hp hp') (hk : Still cfg o.op)
  (hc : runCore cfg cs o.op hp tm = some (sl, h1)) : h1 = hp ∧ runCore cfg cs o.op hp' tm' = some (sl, hp') := by
 have hp1 := pureOp_agree (cfg := cfg) (cs := cs) h hm
 have he1 := effOp_quiet (cfg := cfg) (cs := cs) (hp := hp) (tm := tm) hk
 have he2 := effOp_quiet (cfg := cfg) (cs := cs) (hp := hp') (tm := tm') hk
 have hr := agree_mem h
 unfold runCore at hc ⊢
 rw [hp1]
 cases hpo : pureOp cfg hp tm cs o.op with
 | some r =>
  obtain ⟨ok, v⟩ := r
  rw [hpo] at hc
  cases ok with
  | false => cases hc
  | true => simp only [cond_true, Option.some.injEq, Prod.mk.injEq] at hc; obtain ⟨rfl, rfl⟩ := hc; exact ⟨rfl, rfl⟩
 | none =>
  rw [hpo] at hc
  cases hop : o.op
  case pick c a b =>
   rw [hop] at hc hr
   simp only at hc ⊢
   have hv := pickV_agree (cs := cs) (c := c) (a := a) (b := b) (tm := tm) (tm' := tm') (fun t ht => hr t (by simp [Op.operands]; exact ht))
   rw [hv]
   cases hpv : pickV tm cs c a b with
   | some v => rw [hpv] at hc; simp only [Option.some.injEq, Prod.mk.injEq] at hc; obtain ⟨rfl, rfl⟩ := hc; exact ⟨rfl, rfl⟩
   | none =>
    rw [hpv] at hc
    simp only at hc ⊢
    cases c
    case tmp t =>
     simp only at hc ⊢
     rw [boolAt_agree (hr t (by simp [Op.operands]))]
     cases hb : boolAt tm t with
     | none => rw [hb] at hc; cases hc
     | some r =>
      obtain ⟨ds, g⟩ := r
      rw [hb] at hc
      simp only at hc ⊢
      have e1 : rd tm' ((t, g) :: cs) (cond g a b) = rd tm ((t, g) :: cs) (cond g a b) := rd_agree (fun u e => hr u (by cases g <;> simp [Op.operands, ← e]))
      rw [e1]
      cases hds : ds.all (covers cs) with
      | false => rw [hds] at hc; cases hc
      | true =>
       rw [hds, cond_true] at hc
       rw [cond_true]
       cases hrd : rd tm ((t, g) :: cs) (cond g a b) with
       | none => rw [hrd] at hc; cases hc
       | some v => rw [hrd] at hc; simp only [Option.some.injEq, Prod.mk.injEq] at hc; obtain ⟨rfl, rfl⟩ := hc; exact ⟨rfl, rfl⟩
    all_goals cases hc
  all_goals
   rw [hop] at hc he1
   simp only [he1] at hc
   cases hc
end
end Go.Proofs.YtfhepbbkggdlcaaGreatDoor.Px
