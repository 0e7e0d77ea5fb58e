/- One operation: what it puts, and what it makes of the heap. -/
import Derived.Test.YtlnfojhmgncfiaaPxAnc
set_option linter.unusedVariables false
set_option linter.unusedSimpArgs false
namespace Go.Proofs.Ytlnfojhmgncfiaa.Px
open Go Go.RowKit
set_option linter.unusedVariables false
set_option linter.unusedSimpArgs false

section
variable [X : Elts] {P : Program} {G : World → Prop} {cfg : Cfg (X := X)} {w0 : World}

/-- The conditions under which an operation is carried out. -/
def gcs (ops : List Oper) (o : Oper) (tm : List Slot) : Option (List (Nat × Bool)) :=
  match o.guard with
  | none => some []
  | some (g, pol) => match nth ops g with
    | some og => match og.dst with
      | some tg => match boolAt tm tg with
        | some (ds, _) => some (ds ++ [(tg, pol)])
        | none => none
      | none => none
    | none => none

def runCore (cfg : Cfg (X := X)) (cs : List (Nat × Bool)) (op : Op) (hp : List (Blk (X := X))) (tm : List Slot) : Option (Slot × List (Blk (X := X))) :=
  match pureOp cfg hp tm cs op with
  | some (ok, v) => cond ok (some (.is v, hp)) none
  | none => match op with
    | .pick c a b => match pickV tm cs c a b with
      | some v => some (.is v, hp)
      | none => match c with
        | .tmp t => match boolAt tm t with
          | some (ds, g) => cond (ds.all (covers cs)) (match rd tm ((t, g) :: cs) (cond g a b) with
            | some v => some (.is v, hp)
            | none => none) none
          | none => none
        | _ => none
    | op => match effOp cfg hp tm cs op with
      | some (ok, some v, h) => cond ok (some (.is v, h)) none
      | some (ok, none, h) => cond ok (some (.any, h)) none
      | none => none

def core (cfg : Cfg (X := X)) (o : Oper) (cs : List (Nat × Bool)) (hp : List (Blk (X := X))) (tm : List Slot) : Option (Slot × List (Blk (X := X))) :=
  match o.guard with
  | none => runCore cfg [] o.op hp tm
  | some _ => match pureOp cfg hp tm cs o.op with
    | some (ok, v) => cond (or ok (not (holdB tm cs))) (some (.opt cs v, hp)) none
    | none => match o.op with
      | .pick c a b => match pickV tm cs c a b with
        | some v => some (.opt cs v, hp)
        | none => cond (holdB tm cs) (runCore cfg cs o.op hp tm) (some (.opt cs (.bool false), hp))
      | _ => cond (holdB tm cs) (runCore cfg cs o.op hp tm) (some (.opt cs (.bool false), hp))

def putC (hasG : Bool) (o : Oper) (tm : List Slot) : Option (Slot × List (Blk (X := X))) → Option (St (X := X))
  | some (sl, h) => put0 none hasG o sl { tm := tm, hp := h } some
  | none => none

theorem runOp_core {hasG : Bool} {cs : List (Nat × Bool)} {o : Oper} {s : St (X := X)} : runOp cfg none (fun _ _ _ _ => none) hasG cs o s some = putC hasG o s.tm (runCore cfg cs o.op s.hp s.tm) := by
  rw [runOp_eq]
  unfold runOp0 runCore
  simp only [put1_eq]
  cases hp : pureOp cfg s.hp s.tm cs o.op with
  | some r => obtain ⟨ok, v⟩ := r; cases ok <;> rfl
  | none =>
    generalize o.op = op
    simp only
    cases op
    case pick c a b =>
      simp only
      cases hv : pickV s.tm cs c a b with
      | some v => rfl
      | none =>
        simp only
        cases c
        case tmp t =>
          simp only
          cases hb : boolAt s.tm t with
          | none => rfl
          | some r =>
            obtain ⟨ds, g⟩ := r
            simp only
            cases ds.all (covers cs) with
            | false => rfl
            | true =>
              cases g with
              | true => simp only [cond_true]; cases rd s.tm ((t, true) :: cs) a <;> rfl
              | false => simp only [cond_true, cond_false]; cases rd s.tm ((t, false) :: cs) b <;> rfl
        all_goals rfl
    case call c =>
      simp only
      generalize effOp cfg s.hp s.tm cs _ = r
      rcases r with _ | ⟨ok, _ | v, h⟩
      · simp only
        split
        · split
          · rw [Bool.cond_self]; rfl
          · rfl
          · rfl
        · rfl
      · cases ok <;> rfl
      · cases ok <;> rfl
    all_goals
      simp only
      generalize effOp cfg s.hp s.tm cs _ = r
      rcases r with _ | ⟨ok, _ | v, h⟩
      · rfl
      · cases ok <;> rfl
      · cases ok <;> rfl

theorem stepO_core {ops : List Oper} {hasG : Bool} {o : Oper} {s : St (X := X)} : stepO cfg ops hasG o s = match gcs ops o s.tm with
    | some cs => putC hasG o s.tm (core cfg o cs s.hp s.tm)
    | none => none := by
  unfold stepO opStep gcs
  simp only [put1_eq, runOp_core]
  cases hg : o.guard with
  | none => simp only [core, hg]
  | some gp =>
    obtain ⟨g, pol⟩ := gp
    simp only
    cases nth ops g with
    | none => rfl
    | some og =>
      simp only
      cases og.dst with
      | none => rfl
      | some tg =>
        simp only
        cases boolAt s.tm tg with
        | none => rfl
        | some r =>
          obtain ⟨ds, b⟩ := r
          simp only [core, hg]
          cases hp : pureOp cfg s.hp s.tm (ds ++ [(tg, pol)]) o.op with
          | some r =>
            obtain ⟨ok, v⟩ := r
            simp only
            cases (or ok (not (holdB s.tm (ds ++ [(tg, pol)])))) <;> rfl
          | none =>
            simp only
            cases hop : o.op
            case pick c a e =>
              simp only
              cases pickV s.tm (ds ++ [(tg, pol)]) c a e with
              | some v => rfl
              | none => simp only; cases holdB s.tm (ds ++ [(tg, pol)]) <;> rfl
            all_goals
              simp only
              cases holdB s.tm (ds ++ [(tg, pol)]) <;> rfl
end
end Go.Proofs.Ytlnfojhmgncfiaa.Px
